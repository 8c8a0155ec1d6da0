/- The law ShowParts: pack 4 of its texts. -/
import Derived.Test.YtdcchpbncckhlaaGreatDoorProg
import Derived.KernelRfl
import Derived.Shelf.Strings.OnBuilder
import Derived.Shelf.Small.Wraps
import Derived.Shelf.Strconv.Itoa3
import Derived.Lib.ItoaLen
import Derived.Shelf.Small.Strs
import Derived.Shelf.Strconv.AtoiAll
import Derived.Shelf.Strconv.ErrVarAll
import Derived.Shelf.Strings.Search1
import Derived.WalkKit
import Derived.BigCall
import Derived.Test.YtdcchpbncckhlaaGreatDoorPk1
import Derived.Test.YtdcchpbncckhlaaGreatDoorPk2
import Derived.Test.YtdcchpbncckhlaaGreatDoorPk3
set_option linter.unusedSimpArgs false
set_option linter.unusedVariables false
namespace Go.Bf
open Go Go.Ab
theorem rd_all {st : PS} {l : List MatchD} {k : TokD} {ks : List TokD} (hl : allE l = 0) (h : At st (allK l ++ k :: ks)) (hk : isK k [44] = false) : Reads (allP st) st l (k :: ks) := by
  obtain ⟨h1, h8, hm⟩ := allE_ok hl
  have hlen := at_len h
  cases l with
  | nil => simp at h1
  | cons x r =>
    simp only [allK, sepK_cons, List.append_assoc] at h
    obtain ⟨s1, e1, a1, t1⟩ := rd_match (hm x (by simp)) h
    simp only [List.length_cons] at h8
    have hfl : r.length ≤ st.ts.length := by
      have := at_len h
      simp only [List.length_append, List.length_flatten, List.map_map] at this
      have h2 : r.length ≤ (r.map fun y => (mkK 44 :: matchK y).length).sum := by
        clear h hm hl this hlen a1 h8
        induction r with
        | nil => simp
        | cons y r ih => simp only [List.map_cons, List.sum_cons, List.length_cons] at ih ⊢; omega
      have h3 : (List.map (List.length ∘ fun y => mkK 44 :: matchK y) r).sum = (r.map fun y => (mkK 44 :: matchK y).length).sum := rfl
      omega
    obtain ⟨s2, e2, a2, t2⟩ := rd_many (most := 8) (w := [44]) (wK := mkK 44) rfl r st.ts.length s1 [x] k ks (fun m hmr st k' ks' _ ha => rd_match (hm m (by simp [hmr])) ha) a1 hk hfl (by simp; omega)
    refine ⟨s2, ?_, a2, t1.trans t2⟩
    unfold allP
    rw [e1]; simp only
    rw [e2]; rfl
theorem flat_len {α : Type} (w : TokD) (f : α → List TokD) : ∀ (r : List α), r.length ≤ (r.map fun y => w :: f y).flatten.length
  | [] => by simp
  | y :: r => by
    have := flat_len w f r
    simp only [List.map_cons, List.flatten_cons, List.length_append, List.length_cons] at this ⊢
    omega
theorem rd_any {st : PS} {l : List (List MatchD)} {ks : List TokD} (hl : anyE l = 0) (h : At st (anyK l ++ ks)) : Reads (anyP st) st l ks := by
  obtain ⟨h1, h8, hm⟩ := anyE_ok hl
  cases l with
  | nil => simp at h1
  | cons x r =>
    simp only [anyK, sepK_cons, List.append_assoc, List.cons_append, List.nil_append] at h
    have hlen := at_len h
    have hfl := flat_len (wdK [111, 114]) allK r
    simp only [List.length_append, List.length_cons] at hlen
    obtain ⟨a0, t0⟩ := rd_must (w := [40]) h rfl
    have hx : Reads (allP (mustD st [40])) (mustD st [40]) x ((r.map fun y => wdK [111, 114] :: allK y).flatten ++ mkK 41 :: ks) := by
      cases r with
      | nil => exact rd_all (hm x (by simp)) a0 (by decide)
      | cons y r => exact rd_all (hm x (by simp)) a0 (by decide)
    obtain ⟨s1, e1, a1, t1⟩ := hx
    simp only [List.length_cons] at h8
    obtain ⟨s2, e2, a2, t2⟩ := rd_many (most := 8) (w := orT) (wK := wdK [111, 114]) rfl r st.ts.length s1 [x] (mkK 41) ks (fun m hmr st k' ks' hk' ha => rd_all (hm m (by simp [hmr])) ha (by
      rcases hk' with rfl | rfl <;> decide)) a1 (by decide) (by omega) (by simp; omega)
    obtain ⟨a3, t3⟩ := rd_must (w := [41]) a2 rfl
    refine ⟨mustD s2 [41], ?_, a3, ((t0.trans t1).trans t2).trans t3⟩
    unfold anyP
    simp only
    rw [e1]; simp only
    rw [e2]; rfl
theorem rd_tgt {st : PS} {t : TgtD} {k : TokD} {ks : List TokD} (ht : tgtE t = 0) (h : At st (tgtK t ++ k :: ks)) (hk : isK k andT = false) (hk2 : isK k whenT = false) : Reads (tgtP st) st t (k :: ks) := by
  obtain ⟨h8, hm⟩ := tgtE_ok ht
  unfold tgtK at h
  unfold tgtP
  cases t with
  | nil =>
    simp only [if_true, List.nil_append] at h
    rw [at_is h, if_neg (by rw [hk2]; decide)]
    exact ⟨st, rfl, h, .refl _⟩
  | cons x r =>
    rw [if_neg (by simp)] at h
    simp only [sepK_cons, List.append_assoc, List.cons_append, List.nil_append] at h
    have hlen := at_len h
    have hfl := flat_len (wdK [97, 110, 100]) anyK r
    simp only [List.length_append, List.length_cons] at hlen
    rw [at_is h, if_pos (by decide)]
    obtain ⟨a0, t0⟩ := at_next h
    obtain ⟨s1, e1, a1, t1⟩ := rd_any (hm x (by simp)) a0
    simp only [List.length_cons] at h8
    obtain ⟨s2, e2, a2, t2⟩ := rd_many (most := 8) (w := andT) (wK := wdK [97, 110, 100]) rfl r st.ts.length s1 [x] k ks (fun m hmr st k' ks' hk' ha => rd_any (hm m (by simp [hmr])) ha) a1 hk (by omega) (by simp; omega)
    rw [e1]; simp only
    rw [e2]
    exact ⟨s2, rfl, a2, (t0.trans t1).trans t2⟩
theorem idx_on {n : Int} (h1 : 1 ≤ n) (h4 : n ≤ 2) : ∃ i, idxT (onW n) onWs = some i ∧ (i : Int) + 1 = n := by
  have : n = 1 ∨ n = 2 := by omega
  rcases this with rfl | rfl
  · exact ⟨0, rfl, rfl⟩
  · exact ⟨1, rfl, rfl⟩
theorem idx_duty {n : Int} (h1 : 1 ≤ n) (h4 : n ≤ 4) : ∃ i, idxT (dutyW n) dutyWs = some i ∧ (i : Int) + 1 = n := by
  have : n = 1 ∨ n = 2 ∨ n = 3 ∨ n = 4 := by omega
  rcases this with rfl | rfl | rfl | rfl
  · exact ⟨0, rfl, rfl⟩
  · exact ⟨1, rfl, rfl⟩
  · exact ⟨2, rfl, rfl⟩
  · exact ⟨3, rfl, rfl⟩
theorem rd_obls {st : PS} {l : List OblD} {k : TokD} {ks : List TokD} (hl : oblsE l = 0) (h : At st (oblsK l ++ k :: ks)) (hk : isK k onceT = false) : Reads (oblsP st) st l (k :: ks) := by
  obtain ⟨h8, hm⟩ := oblsE_ok hl
  have hlen := at_len h
  have e : oblsK l = (l.map fun o => wdK [111, 110] :: [wdK (onW o.on), wdK (dutyW o.kind), wdK o.arg]).flatten := rfl
  have hfl := flat_len (wdK [111, 110]) (fun o : OblD => [wdK (onW o.on), wdK (dutyW o.kind), wdK o.arg]) l
  rw [e] at h hlen
  simp only [List.length_append, List.length_cons] at hlen
  unfold oblsP
  have := rd_many (most := 8) (one := oblP) (w := onceT) (wK := wdK [111, 110]) rfl l st.ts.length st [] k ks (fun o ho st k' ks' hk' ha => by
    have hb := hm o ho
    simp only [oblOK, Bool.and_eq_true, decide_eq_true_eq] at hb
    obtain ⟨i, hi, hi2⟩ := idx_on hb.1.1.1.1 hb.1.1.1.2
    obtain ⟨j, hj, hj2⟩ := idx_duty hb.1.1.2 hb.1.2
    simp only [List.cons_append, List.nil_append] at ha
    obtain ⟨s1, e1, a1, t1⟩ := rd_among ha hi
    obtain ⟨s2, e2, a2, t2⟩ := rd_among a1 hj
    obtain ⟨s3, e3, a3, t3⟩ := rd_name a2
    refine ⟨s3, ?_, a3, (t1.trans t2).trans t3⟩
    unfold oblP
    rw [e1]; simp only
    rw [e2]; simp only
    rw [e3]
    simp only [hi2, hj2]) h hk (by omega) (by simp; omega)
  simpa using this
theorem idx_fn {n : Int} (h1 : 3 ≤ n) (h4 : n ≤ 13) : ∃ i, idxT (fnW n) fnWs = some i ∧ 2 + ((i : Int) + 1) = n := by
  have : n = 3 ∨ n = 4 ∨ n = 5 ∨ n = 6 ∨ n = 7 ∨ n = 8 ∨ n = 9 ∨ n = 10 ∨ n = 11 ∨ n = 12 ∨ n = 13 := by omega
  rcases this with rfl | rfl | rfl | rfl | rfl | rfl | rfl | rfl | rfl | rfl | rfl
  · exact ⟨0, rfl, rfl⟩
  · exact ⟨1, rfl, rfl⟩
  · exact ⟨2, rfl, rfl⟩
  · exact ⟨3, rfl, rfl⟩
  · exact ⟨4, rfl, rfl⟩
  · exact ⟨5, rfl, rfl⟩
  · exact ⟨6, rfl, rfl⟩
  · exact ⟨7, rfl, rfl⟩
  · exact ⟨8, rfl, rfl⟩
  · exact ⟨9, rfl, rfl⟩
  · exact ⟨10, rfl, rfl⟩
theorem tree_head {l : List NodeD} {b : Bool} {t : Txt} {k : List TokD} (h : Tree l b t k) : ∃ x r, k = x :: r ∧ isK x [33] = false := by
  cases h with
  | lit v h hi =>
    refine ⟨_, _, rfl, ?_⟩
    unfold valK
    split
    · cases (v.n == 1) <;> decide
    split
    · simp [isK]
    split
    · simp [isK]
    split
    · simp [isK]
    · simp [isK]
  | attr a h =>
    refine ⟨_, _, rfl, ?_⟩
    unfold catW; repeat' split
    all_goals decide
  | one ho h => exact ⟨_, _, rfl, by decide⟩
  | two ho h1 h2 => exact ⟨_, _, rfl, by decide⟩
theorem rd_step {f : Nat} {st s2 : PS} {acc lh : List NodeD} {n : NodeD} {k0 : TokD} {rest : List TokD} (e : headG (exprF f) st acc = ((lh, n), s2)) (h : lh.length + 1 ≤ 32) :
    exprF (f + 1) st acc = ((lh ++ [n], n.op == 2), s2) := by
  unfold exprF
  rw [e]
  simp only
  have hd : decide (32 < lh.length + 1) = false := decide_eq_false (by omega)
  rw [hd]; rfl
theorem rd_tree {l : List NodeD} {b : Bool} {t : Txt} {k : List TokD} (h : Tree l b t k) : ∀ (f : Nat) (st : PS) (acc : List NodeD) (k0 : TokD) (rest : List TokD), At st (k ++ k0 :: rest) → isK k0 [33] = false → l.length ≤ f → acc.length + l.length ≤ 32 → Reads (exprF f st acc) st (acc ++ l, b) (k0 :: rest) := by
  induction h with
  | lit v h hi =>
    intro f st acc k0 rest ha hk hf hl
    obtain ⟨g, rfl⟩ : ∃ g, f = g + 1 := ⟨f - 1, by simp at hf; omega⟩
    simp only [List.length_singleton] at hl
    obtain ⟨s1, e1, a1, t1⟩ := rd_value h ha
    obtain ⟨h1, h2, h3⟩ := at_here ha
    have b0 := at_is ha [40]
    have hb0 : isK (valK v) [40] = false := by
      unfold valK
      split
      · cases (v.n == 1) <;> decide
      split
      · simp [isK]
      split
      · simp [isK]
      split
      · simp [isK]
      · simp [isK]
    rw [hb0] at b0
    have hnot : ¬ ((hereD st).kind = 1 ∧ (hereD st).s ≠ trueT ∧ (hereD st).s ≠ falseT) := by
      rintro ⟨k1, n1, n2⟩
      rw [h1] at k1
      rw [h3] at n1 n2
      unfold valK at k1 n1 n2
      by_cases c1 : v.kind = 1
      · rw [if_pos c1] at n1 n2
        cases hv : (v.n == 1)
        · rw [hv] at n2; exact n2 rfl
        · rw [hv] at n1; exact n1 rfl
      · rw [if_neg c1] at k1
        revert k1
        repeat' split
        all_goals (intro k1; simp at k1)
    have eh : headG (exprF g) st acc = ((acc, ⟨1, v, zA⟩), s1) := by
      unfold headG
      rw [if_neg (by rw [b0]; decide), if_neg hnot, e1]; rfl
    exact ⟨s1, rd_step (k0 := k0) (rest := rest) eh (by omega), a1, t1⟩
  | attr a h =>
    intro f st acc k0 rest ha hk hf hl
    obtain ⟨g, rfl⟩ : ∃ g, f = g + 1 := ⟨f - 1, by simp at hf; omega⟩
    simp only [List.length_singleton] at hl
    obtain ⟨s1, e1, a1, t1⟩ := rd_attr h ha hk
    have ha2 := ha
    simp only [attrK, List.cons_append, List.nil_append] at ha2
    obtain ⟨h1, h2, h3⟩ := at_here ha2
    have b0 := at_is ha2 [40]
    have hcat : isK (wdK (catW a.cat)) [40] = false ∧ catW a.cat ≠ trueT ∧ catW a.cat ≠ falseT := by
      unfold catW; repeat' split
      all_goals decide
    rw [hcat.1] at b0
    have h1' : (hereD st).kind = 1 := h1
    have h3' : (hereD st).s = catW a.cat := h3
    have eh : headG (exprF g) st acc = ((acc, ⟨2, zV, a⟩), s1) := by
      unfold headG
      rw [if_neg (by rw [b0]; decide), if_pos ⟨h1', by rw [h3']; exact hcat.2.1, by rw [h3']; exact hcat.2.2⟩, e1]; rfl
    exact ⟨s1, rd_step (k0 := k0) (rest := rest) eh (by omega), a1, t1⟩
  | @one op w l t k ho ht ih =>
    intro f st acc k0 rest ha hk hf hl
    obtain ⟨g, rfl⟩ : ∃ g, f = g + 1 := ⟨f - 1, by simp at hf; omega⟩
    simp only [List.length_append, List.length_singleton] at hf hl
    simp only [List.append_assoc, List.cons_append, List.nil_append] at ha
    have b0 := at_is ha [40]
    rw [show isK (mkK 40) [40] = true from rfl] at b0
    obtain ⟨a0, t0⟩ := at_next ha
    obtain ⟨i, hi, hi2⟩ := idx_fn (n := op) (by omega) (by omega)
    obtain ⟨s1, e1, a1, t1⟩ := rd_among a0 hi
    obtain ⟨s2, e2, a2, t2⟩ := ih g s1 acc (mkK 41) (k0 :: rest) a1 (by decide) (by omega) (by omega)
    obtain ⟨a3, t3⟩ := rd_must (w := [41]) a2 rfl
    have hop : opers op = [w] := by
      rcases ho with ⟨rfl, rfl⟩ | ⟨rfl, rfl⟩ | ⟨rfl, rfl⟩ <;> rfl
    have eh : headG (exprF g) st acc = ((acc ++ l, ⟨op, zV, zA⟩), mustD s2 [41]) := by
      unfold headG
      rw [if_pos b0]
      unfold funcG
      rw [e1]
      simp only [hi2, hop, opersG, a1.1, if_true, operG, e2]; rfl
    have hb : (op == 2) = false := by simp; omega
    refine ⟨mustD s2 [41], ?_, a3, ((t0.trans t1).trans t2).trans t3⟩
    rw [rd_step (k0 := k0) (rest := rest) eh (by rw [List.length_append]; omega), hb, List.append_assoc]
  | @two op w1 w2 l1 l2 t1 t2 k1 k2 ho ht1 ht2 ih1 ih2 =>
    intro f st acc k0 rest ha hk hf hl
    obtain ⟨g, rfl⟩ : ∃ g, f = g + 1 := ⟨f - 1, by simp at hf; omega⟩
    simp only [List.length_append, List.length_singleton] at hf hl
    simp only [List.append_assoc, List.cons_append, List.nil_append] at ha
    have b0 := at_is ha [40]
    rw [show isK (mkK 40) [40] = true from rfl] at b0
    obtain ⟨a0, t0⟩ := at_next ha
    obtain ⟨i, hi, hi2⟩ := idx_fn (n := op) (by omega) (by omega)
    obtain ⟨s1, e1, a1, t1⟩ := rd_among a0 hi
    obtain ⟨x, r, hk2, hx⟩ := tree_head ht2
    rw [hk2] at a1
    simp only [List.cons_append] at a1
    obtain ⟨s2, e2, a2, t2⟩ := ih1 g s1 acc x _ a1 hx (by omega) (by omega)
    rw [← List.cons_append, ← hk2] at a2
    obtain ⟨s3, e3, a3, t3⟩ := ih2 g s2 (acc ++ l1) (mkK 41) (k0 :: rest) a2 (by decide) (by omega) (by rw [List.length_append]; omega)
    obtain ⟨a4, t4⟩ := rd_must (w := [41]) a3 rfl
    have hop : opers op = [w1, w2] := by
      rcases ho with ⟨rfl, rfl, rfl⟩ | ⟨h6, h13, h11, rfl, rfl⟩
      · rfl
      · unfold opers; rw [if_neg (by omega), if_neg (by omega), if_neg h11]
    have eh : headG (exprF g) st acc = ((acc ++ l1 ++ l2, ⟨op, zV, zA⟩), mustD s3 [41]) := by
      unfold headG
      rw [if_pos b0]
      unfold funcG
      rw [e1]
      simp only [hi2, hop, opersG, a1.1, if_true, operG, e2, a2.1, e3]; rfl
    have hb : (op == 2) = false := by simp; omega
    refine ⟨mustD s3 [41], ?_, a4, (((t0.trans t1).trans t2).trans t3).trans t4⟩
    rw [rd_step (k0 := k0) (rest := rest) eh (by simp only [List.length_append]; omega), hb]
    simp only [List.append_assoc]
end Go.Bf

set_option linter.unusedSimpArgs false
set_option linter.unusedVariables false
namespace Go.Bf
open Go Go.Ab
theorem tree_len {l : List NodeD} {b : Bool} {t : Txt} {k : List TokD} (h : Tree l b t k) : l.length ≤ k.length := by
  induction h with
  | lit v h hi => simp
  | attr a h => simp [attrK]
  | one ho h ih => simp only [List.length_append, List.length_cons, List.length_nil]; omega
  | two ho h1 h2 ih1 ih2 => simp only [List.length_append, List.length_cons, List.length_nil]; omega
theorem rd_cond {st : PS} {l : List NodeD} {k : TokD} {ks : List TokD} (hl : exprE l = 0) (hi : inL l) (h : At st (condK l ++ k :: ks)) (h1 : isK k [33] = false) (h2 : isK k ifT = false) : Reads (condP st) st l (k :: ks) := by
  unfold condK at h
  unfold condP
  by_cases h0 : l = []
  · subst h0
    simp only [if_true, List.nil_append] at h
    rw [at_is h, if_neg (by rw [h2]; decide)]
    exact ⟨st, rfl, h, .refl _⟩
  · rw [if_neg h0] at h
    simp only [List.cons_append, List.nil_append] at h
    have ht := expr_tree hl h0 hi
    have hlen := at_len h
    have htl := tree_len ht
    simp only [List.length_append, List.length_cons] at hlen
    have h32 := (exprE_zero hl h0).1
    rw [at_is h, if_pos (by decide)]
    obtain ⟨a0, t0⟩ := at_next h
    obtain ⟨s1, e1, a1, t1⟩ := rd_tree ht st.ts.length (nextD st) [] k ks a0 h1 (by omega) (by simpa using h32)
    unfold operG
    rw [e1]
    exact ⟨s1, rfl, a1, t0.trans t1⟩
theorem hd_obls (l : List OblD) (x : TokD) (ks : List TokD) : ∃ y r, oblsK l ++ x :: ks = y :: r ∧ (y = wdK [111, 110] ∨ y = x) := by
  cases l with
  | nil => exact ⟨_, _, rfl, .inr rfl⟩
  | cons o r => exact ⟨_, _, rfl, .inl rfl⟩
theorem hd_cond (l : List NodeD) (x : TokD) (ks : List TokD) : ∃ y r, condK l ++ x :: ks = y :: r ∧ (y = wdK [105, 102] ∨ y = x) := by
  unfold condK
  by_cases h0 : l = []
  · rw [if_pos h0]; exact ⟨_, _, rfl, .inr rfl⟩
  · rw [if_neg h0]; exact ⟨_, _, rfl, .inl rfl⟩
theorem rd_rule {st : PS} {r : RuleD} {ks : List TokD} (hr : ruleE r) (hi : inR r) (h : At st (wdK r.id :: (tgtK r.tgt ++ condK r.cond ++ oblsK r.obls ++ [mkK 59] ++ ks))) : Reads (ruleP r.deny st) st r ks := by
  obtain ⟨_, htg, hcn, hob⟩ := hr
  obtain ⟨s1, e1, a1, t1⟩ := rd_name h
  simp only [List.append_assoc, List.cons_append, List.nil_append] at a1
  obtain ⟨y, ry, ey, hy⟩ := hd_obls r.obls (mkK 59) ks
  obtain ⟨z, rz, ez, hz⟩ := hd_cond r.cond y ry
  rw [ey, ez] at a1
  have zc : isK z andT = false ∧ isK z whenT = false := by
    rcases hz with rfl | rfl
    · decide
    · rcases hy with rfl | rfl <;> decide
  obtain ⟨s2, e2, a2, t2⟩ := rd_tgt htg a1 zc.1 zc.2
  rw [← ez] at a2
  have yc : isK y [33] = false ∧ isK y ifT = false := by rcases hy with rfl | rfl <;> decide
  obtain ⟨s3, e3, a3, t3⟩ := rd_cond hcn hi.2 a2 yc.1 yc.2
  rw [← ey] at a3
  obtain ⟨s4, e4, a4, t4⟩ := rd_obls hob a3 (by decide)
  obtain ⟨a5, t5⟩ := rd_must (w := [59]) a4 rfl
  refine ⟨mustD s4 [59], ?_, a5, (((t1.trans t2).trans t3).trans t4).trans t5⟩
  unfold ruleP
  rw [e1]; simp only
  rw [e2]; simp only
  rw [e3]; simp only
  rw [e4]
def ReadsR {α : Type} (r : α × PS) (st : PS) (x : α) (n : Nat) (ks : List TokD) : Prop := ∃ st', r = (x, st') ∧ At st' ks ∧ st'.rules = st.rules + n ∧ st'.ts = st.ts
theorem rd_some : ∀ (rs : List RuleD) (f : Nat) (st : PS) (l : List RuleD) (k : TokD) (ks : List TokD), (∀ r ∈ rs, ruleE r ∧ inR r) → At st ((rs.map ruleK).flatten ++ k :: ks) → isK k permitT = false → isK k denyT = false → rs.length < f → l.length + rs.length ≤ 16 → st.rules + rs.length ≤ 64 →
    ReadsR (someF f st l) st (l ++ rs) rs.length (k :: ks)
  | [], f, st, l, k, ks, _, h, k1, k2, hf, _, _ => by
    obtain ⟨g, rfl⟩ : ∃ g, f = g + 1 := ⟨f - 1, by simp at hf; omega⟩
    simp only [List.map_nil, List.flatten_nil, List.nil_append] at h
    unfold someF
    rw [at_is h, at_is h, if_neg (by rw [k1, k2]; decide)]
    exact ⟨st, by simp, h, by simp, rfl⟩
  | r :: rs, f, st, l, k, ks, hr, h, k1, k2, hf, hl, hn => by
    obtain ⟨g, rfl⟩ : ∃ g, f = g + 1 := ⟨f - 1, by simp at hf; omega⟩
    simp only [List.length_cons] at hf hl hn
    simp only [List.map_cons, List.flatten_cons, ruleK, List.append_assoc, List.cons_append, List.nil_append] at h
    have b1 := at_is h permitT
    have b2 := at_is h denyT
    have hde : isK (wdK (effW r.deny)) denyT = r.deny ∧ (isK (wdK (effW r.deny)) permitT = true ∨ isK (wdK (effW r.deny)) denyT = true) := by
      cases r.deny <;> decide
    rw [hde.1] at b2
    have hor : isD st permitT = true ∨ isD st denyT = true := by
      rw [b1, b2]
      rcases hde.2 with h | h
      · exact .inl h
      · rw [hde.1] at h; exact .inr h
    obtain ⟨a0, t0⟩ := at_next h
    have a0' : At { nextD st with rules := st.rules + 1 } (wdK r.id :: (tgtK r.tgt ++ condK r.cond ++ oblsK r.obls ++ [mkK 59] ++ ((rs.map ruleK).flatten ++ k :: ks))) := by
      have : At (nextD st) (wdK r.id :: (tgtK r.tgt ++ condK r.cond ++ oblsK r.obls ++ [mkK 59] ++ ((rs.map ruleK).flatten ++ k :: ks))) := by simpa using a0
      exact this
    obtain ⟨s1, e1, a1, t1⟩ := rd_rule (hr r (by simp)).1 (hr r (by simp)).2 a0'
    have hru : s1.rules = st.rules + 1 := t1.1
    have hts : s1.ts = st.ts := t1.2
    obtain ⟨s2, e2, a2, t2, t3⟩ := rd_some rs g s1 (l ++ [r]) k ks (fun x hx => hr x (by simp [hx])) a1 k1 k2 (by omega) (by rw [List.length_append, List.length_singleton]; omega) (by omega)
    refine ⟨s2, ?_, a2, by rw [t2, hru]; simp only [List.length_cons]; omega, by rw [t3, hts]⟩
    unfold someF
    rw [if_pos hor, if_neg (by omega), b2, e1]
    simp only
    rw [e2, List.append_assoc]; rfl
mutual
def nR : PolD → Nat
  | .mk id set alg tgt rules kids obls => rules.length + nRK kids
def nRK : List PolD → Nat
  | [] => 0
  | k :: r => nR k + nRK r
end
theorem idx_alg {n : Int} (h1 : 1 ≤ n) (h4 : n ≤ 6) : ∃ i, idxT (algW n) algWs = some i ∧ (i : Int) + 1 = n := by
  have : n = 1 ∨ n = 2 ∨ n = 3 ∨ n = 4 ∨ n = 5 ∨ n = 6 := by omega
  rcases this with rfl | rfl | rfl | rfl | rfl | rfl
  · exact ⟨0, rfl, rfl⟩
  · exact ⟨1, rfl, rfl⟩
  · exact ⟨2, rfl, rfl⟩
  · exact ⟨3, rfl, rfl⟩
  · exact ⟨4, rfl, rfl⟩
  · exact ⟨5, rfl, rfl⟩
theorem rd_head {st : PS} {id : Txt} {set : Bool} {alg : Int} {tgt : TgtD} {ks : List TokD} (h1 : 1 ≤ alg) (h6 : alg ≤ 6) (ht : tgtE tgt = 0) (h : At st (wdK (kindW set) :: wdK id :: wdK (algW alg) :: (tgtK tgt ++ mkK 123 :: ks))) : Reads (headP st) st (set, id, alg, tgt) ks := by
  have hk : ∃ i, idxT (kindW set) kindWs = some i ∧ (((i : Int) + 1) == 2) = set := by
    cases set
    · exact ⟨0, rfl, rfl⟩
    · exact ⟨1, rfl, rfl⟩
  obtain ⟨i, hi, hi2⟩ := hk
  obtain ⟨j, hj, hj2⟩ := idx_alg h1 h6
  obtain ⟨s1, e1, a1, t1⟩ := rd_among h hi
  obtain ⟨s2, e2, a2, t2⟩ := rd_name a1
  obtain ⟨s3, e3, a3, t3⟩ := rd_among a2 hj
  obtain ⟨s4, e4, a4, t4⟩ := rd_tgt ht a3 (by decide) (by decide)
  obtain ⟨a5, t5⟩ := rd_must (w := [123]) a4 rfl
  refine ⟨mustD s4 [123], ?_, a5, (((t1.trans t2).trans t3).trans t4).trans t5⟩
  unfold headP
  rw [e1]; simp only
  rw [e2]; simp only
  rw [e3]; simp only
  rw [e4]
  simp only [hi2, hj2]
theorem hd_pol (p : PolD) (ks : List TokD) : ∃ set r, polK p ++ ks = wdK (kindW set) :: r := by
  cases p; exact ⟨_, _, rfl⟩
theorem rd_kids {pol : PoF} {dp : Bool} : ∀ (xs : List PolD) (f : Nat) (st : PS) (l : List PolD) (k : TokD) (ks : List TokD),
    (∀ p ∈ xs, ∀ st k ks, At st (polK p ++ k :: ks) → isK k onceT = false → st.rules + nR p ≤ 64 → ReadsR (pol st) st p (nR p) (k :: ks)) →
    At st (kidsTK xs ++ k :: ks) → isK k policyT = false → isK k setT = false → isK k onceT = false → xs.length < f → l.length + xs.length ≤ 16 → st.rules + nRK xs ≤ 64 → (xs ≠ [] → dp = false) → ReadsR (kidsF pol dp f st l) st (l ++ xs) (nRK xs) (k :: ks)
  | [], f, st, l, k, ks, _, h, k1, k2, _, hf, _, _, _ => by
    obtain ⟨g, rfl⟩ : ∃ g, f = g + 1 := ⟨f - 1, by simp at hf; omega⟩
    simp only [kidsTK, List.nil_append] at h
    unfold kidsF
    rw [at_is h, at_is h, if_neg (by rw [k1, k2]; decide)]
    exact ⟨st, by simp, h, by simp [nRK], rfl⟩
  | p :: xs, f, st, l, k, ks, hp, h, k1, k2, k3, hf, hl, hn, hd => by
    obtain ⟨g, rfl⟩ : ∃ g, f = g + 1 := ⟨f - 1, by simp at hf; omega⟩
    simp only [List.length_cons] at hf hl
    simp only [nRK] at hn
    have hdp := hd (by simp)
    subst hdp
    simp only [kidsTK, List.append_assoc] at h
    have hor : isD st policyT = true ∨ isD st setT = true := by
      obtain ⟨set, r, e⟩ := hd_pol p (kidsTK xs ++ k :: ks)
      rw [e] at h
      rw [at_is h, at_is h]
      cases set <;> decide
    have hone : ReadsR (pol st) st p (nR p) (kidsTK xs ++ k :: ks) := by
      cases xs with
      | nil => exact hp p (by simp) st k ks h k3 (by omega)
      | cons q xs =>
        obtain ⟨set, r, e⟩ := hd_pol q (kidsTK xs ++ k :: ks)
        have e2 : kidsTK (q :: xs) ++ k :: ks = wdK (kindW set) :: r := by rw [← e]; simp [kidsTK]
        rw [e2] at h ⊢
        exact hp p (by simp) st _ _ h (by cases set <;> decide) (by omega)
    obtain ⟨s1, e1, a1, r1, t1⟩ := hone
    obtain ⟨s2, e2, a2, r2, t2⟩ := rd_kids xs g s1 (l ++ [p]) k ks (fun x hx => hp x (by simp [hx])) a1 k1 k2 k3 (by omega) (by rw [List.length_append, List.length_singleton]; omega) (by omega) (fun _ => rfl)
    refine ⟨s2, ?_, a2, by rw [r2, r1]; simp only [nRK]; omega, by rw [t2, t1]⟩
    unfold kidsF
    rw [if_pos hor, if_neg (by simp; omega), e1]
    simp only
    rw [e2, List.append_assoc]; rfl
theorem rd_pol : ∀ (r : Nat) (p : PolD) (d : Nat), polE d p → inP p → d + r = 5 → ∀ st k ks, At st (polK p ++ k :: ks) → isK k onceT = false → st.rules + nR p ≤ 64 → ReadsR (polF r st) st p (nR p) (k :: ks)
  | 0, p, d, h, _, hd, _, _, _, _, _, _ => by
    cases p
    simp only [polE] at h
    omega
  | r + 1, .mk id set alg tgt rules kids obls, d, h, hi, hd, st, k, ks, ha, hk, hn => by
    simp only [polE] at h
    obtain ⟨hd4, _, h1, h6, hset, hnset, htg, hob, hr16, hk16, hru, hki⟩ := h
    simp only [inP] at hi
    simp only [nR] at hn ⊢
    simp only [polK, List.append_assoc, List.cons_append, List.nil_append] at ha
    obtain ⟨s1, e1, a1, t1⟩ := rd_head h1 h6 htg ha
    have hbody : ∃ s2, bodyP (polF r) (r == 0) set s1 = ((rules, kids), s2) ∧ At s2 (mkK 125 :: (oblsK obls ++ k :: ks)) ∧ s2.rules = s1.rules + (rules.length + nRK kids) ∧ s2.ts = s1.ts := by
      cases set
      · obtain ⟨hk0, _⟩ := hnset rfl
        subst hk0
        simp only [kidsTK, List.nil_append] at a1
        obtain ⟨s2, e2, a2, r2, t2⟩ := rd_some rules 17 s1 [] (mkK 125) _ (fun x hx => ⟨hru x hx, hi.2.1 x hx⟩) a1 (by decide) (by decide) (by omega) (by simpa using hr16) (by rw [t1.1]; simp only [nRK] at hn; omega)
        refine ⟨s2, ?_, a2, by rw [r2]; simp [nRK], t2⟩
        unfold bodyP
        rw [if_neg (by decide), e2]; rfl
      · have hr0 := hset rfl
        subst hr0
        simp only [List.map_nil, List.flatten_nil, List.nil_append] at a1
        have hke := (kidsE_eq (d + 1) kids).1 hki
        have hik := (inK_eq kids).1 hi.2.2
        obtain ⟨s2, e2, a2, r2, t2⟩ := rd_kids (pol := polF r) (dp := (r == 0)) kids 17 s1 [] (mkK 125) _ (fun p hp st k ks ha hk hn => rd_pol r p (d + 1) (hke p hp) (hik p hp) (by omega) st k ks ha hk hn) a1 (by decide) (by decide) (by decide) (by omega) (by simpa using hk16) (by rw [t1.1]; simp only [List.length_nil] at hn; omega) (fun hne => by
          obtain ⟨q, hq⟩ := List.exists_mem_of_ne_nil _ hne
          have := hke q hq
          cases q
          simp only [polE] at this
          simp; omega)
        refine ⟨s2, ?_, a2, by rw [r2]; simp, t2⟩
        unfold bodyP
        rw [if_pos rfl, e2]; rfl
    obtain ⟨s2, e2, a2, r2, t2⟩ := hbody
    obtain ⟨a3, t3⟩ := rd_must (w := [125]) a2 rfl
    obtain ⟨s4, e4, a4, t4⟩ := rd_obls hob a3 hk
    refine ⟨s4, ?_, a4, by rw [t4.1, t3.1, r2, t1.1], by rw [t4.2, t3.2, t2, t1.2]⟩
    unfold polF
    rw [e1]
    simp only
    rw [e2]
    simp only
    rw [e4]
end Go.Bf

set_option linter.unusedVariables false
namespace Go.Bf
open Go Go.Ab
end Go.Bf

set_option linter.unusedSimpArgs false
set_option linter.unusedVariables false
namespace Go.Bf
open Go Go.Ab
theorem meetD_rules {m m' : MetD} {s : Txt} (h : meetD m s = some m') : m'.rules = m.rules := by
  unfold meetD at h
  split at h
  · cases h; rfl
  · cases h
theorem ruleW_rules {m m' : MetD} {r : RuleD} (h : ruleW m r = .ok m') : m'.rules = m.rules + 1 ∧ m'.rules ≤ 64 := by
  unfold ruleW at h
  split at h
  · cases h
  · rename_i m1 hm
    have := meetD_rules hm
    split at h
    · cases h
    · obtain ⟨h1, h⟩ := need_ok' h
      obtain ⟨h2, h⟩ := need_ok' h
      obtain ⟨h3, h⟩ := need_ok' h
      cases h
      simp only
      omega
theorem rulesW_rules : ∀ (l : List RuleD) (m m' : MetD), rulesW m l = .ok m' → m.rules ≤ 64 → m'.rules = m.rules + l.length ∧ m'.rules ≤ 64
  | [], m, m', h, h0 => by simp only [rulesW] at h; cases h; exact ⟨rfl, h0⟩
  | x :: l, m, m', h, h0 => by
    simp only [rulesW] at h
    cases hx : ruleW m x with
    | bad e => rw [hx] at h; cases h
    | ok m1 =>
      rw [hx] at h
      obtain ⟨a1, a2⟩ := ruleW_rules hx
      obtain ⟨b1, b2⟩ := rulesW_rules l m1 m' h a2
      exact ⟨by rw [b1, a1, List.length_cons]; omega, b2⟩
mutual
theorem polW_cnt : ∀ (p : PolD) (d : Nat) (m m' : MetD), polW m d p = .ok m' → m.rules ≤ 64 → m'.rules = m.rules + nR p ∧ m'.rules ≤ 64
  | .mk id set alg tgt rules kids obls, d, m, m', h, h0 => by
    simp only [polW] at h
    split at h
    · cases h
    split at h
    · cases h
    rename_i m1 h1
    split at h
    · cases h
    rename_i m2 h2
    have e1 := meetD_rules (headW_ok' h1).1
    obtain ⟨a1, a2⟩ := rulesW_rules _ _ _ h2 (by omega)
    obtain ⟨b1, b2⟩ := kidsW_cnt kids (d + 1) m2 m' h a2
    simp only [nR]
    exact ⟨by omega, b2⟩
theorem kidsW_cnt : ∀ (l : List PolD) (d : Nat) (m m' : MetD), kidsW m d l = .ok m' → m.rules ≤ 64 → m'.rules = m.rules + nRK l ∧ m'.rules ≤ 64
  | [], d, m, m', h, h0 => by simp only [kidsW] at h; cases h; exact ⟨rfl, h0⟩
  | k :: r, d, m, m', h, h0 => by
    simp only [kidsW] at h
    split at h
    · cases h
    rename_i m1 h1
    obtain ⟨a1, a2⟩ := polW_cnt k d m m1 h1 h0
    obtain ⟨b1, b2⟩ := kidsW_cnt r d m1 m' h a2
    simp only [nRK]
    exact ⟨by omega, b2⟩
end
theorem rulesW_ne : ∀ (l : List RuleD) (m : MetD) (e : Int), rulesW m l = .bad e → e ≠ 0
  | [], _, _, h => by cases h
  | x :: l, m, e, h => by
    simp only [rulesW] at h
    cases hx : ruleW m x with
    | bad e' => rw [hx] at h; cases h; exact ruleW_bad hx
    | ok m1 => rw [hx] at h; exact rulesW_ne l m1 e h
mutual
theorem polW_ne : ∀ (p : PolD) (d : Nat) (m : MetD) (e : Int), polW m d p = .bad e → e ≠ 0
  | .mk id set alg tgt rules kids obls, d, m, e, h => by
    simp only [polW] at h
    split at h
    · cases h; decide
    split at h
    · rename_i h1; cases h; exact headW_bad h1
    split at h
    · rename_i h1; cases h; exact rulesW_ne _ _ _ h1
    · exact kidsW_ne _ _ _ _ h
theorem kidsW_ne : ∀ (l : List PolD) (d : Nat) (m : MetD) (e : Int), kidsW m d l = .bad e → e ≠ 0
  | [], _, _, _, h => by simp only [kidsW] at h; cases h
  | k :: r, d, m, e, h => by
    simp only [kidsW] at h
    split at h
    · rename_i h1; cases h; exact polW_ne k d m _ h1
    · exact kidsW_ne _ _ _ _ h
end
theorem right_form {p : PolD} (h : rightE p = 0) : polE 1 p ∧ nR p ≤ 64 := by
  unfold rightE at h
  cases hw : polW ⟨[], 0⟩ 1 p with
  | bad e => rw [hw] at h; exact absurd h (polW_ne p 1 _ _ hw)
  | ok m =>
    refine ⟨polW_ok p 1 _ m hw, ?_⟩
    have := polW_cnt p 1 _ m hw (by decide)
    simp only [Nat.zero_add] at this
    omega
theorem parse_tokens {p : PolD} (h : rightE p = 0) (hi : inP p) {ts : List TokD} (ht : ts.map er = polK p ++ [endK]) (s : Txt) : parseT s ts = (p, 0, 0) := by
  obtain ⟨hp, hn⟩ := right_form h
  have ha : At ⟨ts, 0, 0, 0, 0⟩ (polK p ++ endK :: []) := ⟨rfl, by simpa using ht⟩
  obtain ⟨s1, e1, a1, _, _⟩ := rd_pol 4 p 1 hp hi rfl _ endK [] ha (by decide) (by simpa using hn)
  have hk : (hereD s1).kind = 7 := (at_here a1).1
  have he : endP s (polF 4 ⟨ts, 0, 0, 0, 0⟩) = s1 := by
    rw [e1]
    unfold endP
    simp only [hk, if_true]
    rw [if_neg (fun hh => hh.2 h)]
  unfold parseT
  rw [he, if_pos a1.1, e1]
theorem parse_show {p : PolD} (h : rightE p = 0) (hi : inP p) (hl : (polT p).length ≤ 4096) : parseD (polT p) = (p, 0, 0) := by
  obtain ⟨ts, h1, h2⟩ := lex_pol (right_form h).1 hi (f := (polT p).length + 1) (by omega)
  unfold parseD lexD
  rw [if_neg (by omega), h1]
  exact parse_tokens h hi h2 _
end Go.Bf

set_option linter.unusedSimpArgs false
set_option linter.unusedVariables false
namespace Go.Bf
open Go Go.Ab
theorem parse_long {s : Txt} (h : 4096 < s.length) : parseD s = (zeroP, 6, 4096) := by
  unfold parseD lexD
  rw [if_pos (by omega)]
end Go.Bf

namespace Go.Proofs.YtdcchpbncckhlaaGreatDoor
open Go Go.Ab
def tyRows : List TI := [
  ⟨.other, 0, 0, default, none⟩,
  ⟨.other, 1, 8, .v .nilFunc, none⟩,
  ⟨.int .i64, 1, 8, .v (.int .i64 0), some (0, [.int .i64])⟩,
  ⟨.int .i64, 1, 8, .v (.int .i64 0), some (0, [.int .i64])⟩,
  ⟨.bool, 1, 1, .v (.bool false), some (0, [.bool])⟩,
  ⟨.int .u8, 1, 1, .v (.int .u8 0), some (0, [.int .u8])⟩,
  ⟨.int .u8, 1, 1, .v (.int .u8 0), some (0, [.int .u8])⟩,
  ⟨.strct [(0, 2), (1, 3), (2, 4), (3, 6)], 4, 24, .agg [.v (.int .i64 0), .v (.int .i64 0), .v (.bool false), .v (.int .u8 0)], none⟩,
  ⟨.strct [(0, 2), (1, 3), (2, 4), (3, 6)], 4, 24, .agg [.v (.int .i64 0), .v (.int .i64 0), .v (.bool false), .v (.int .u8 0)], none⟩,
  ⟨.str, 1, 16, .s [], some (0, [.str])⟩,
  ⟨.str, 1, 16, .s [], some (0, [.str])⟩,
  ⟨.str, 1, 16, .s [], some (0, [.str])⟩,
  ⟨.int .u64, 1, 8, .v (.int .u64 0), some (0, [.int .u64])⟩,
  ⟨.strct [(0, 9), (1, 12)], 2, 24, .agg [.s [], .v (.int .u64 0)], none⟩,
  ⟨.strct [(0, 9), (1, 12)], 2, 24, .agg [.s [], .v (.int .u64 0)], none⟩,
  ⟨.ptr 192, 1, 8, .v (.pointer none), none⟩,
  ⟨.ptr 195, 1, 8, .v (.pointer none), none⟩,
  ⟨.ptr 203, 1, 8, .v (.pointer none), none⟩,
  ⟨.strct [(0, 17)], 1, 8, .agg [.v (.pointer none)], none⟩,
  ⟨.strct [(0, 17)], 1, 8, .agg [.v (.pointer none)], none⟩,
  ⟨.iface, 1, 16, .v .nilIface, none⟩,
  ⟨.int .i32, 1, 4, .v (.int .i32 0), some (0, [.int .i32])⟩,
  ⟨.slice 62, 1, 24, .sl [] .full, none⟩,
  ⟨.slice 62, 1, 24, .sl [] .full, none⟩,
  ⟨.slice 40, 1, 24, .sl [] .full, none⟩,
  ⟨.slice 28, 1, 24, .sl [] .full, none⟩,
  ⟨.slice 64, 1, 24, .sl [] .full, none⟩,
  ⟨.strct [(0, 9), (1, 4), (2, 3), (3, 23), (4, 24), (5, 25), (6, 26)], 7, 128, .agg [.s [], .v (.bool false), .v (.int .i64 0), .sl [] .full, .sl [] .full, .sl [] .full, .sl [] .full], none⟩,
  ⟨.strct [(0, 9), (1, 4), (2, 3), (3, 23), (4, 24), (5, 25), (6, 26)], 7, 128, .agg [.s [], .v (.bool false), .v (.int .i64 0), .sl [] .full, .sl [] .full, .sl [] .full, .sl [] .full], none⟩,
  ⟨.other, 1, 8, .v .nilFunc, none⟩,
  ⟨.int .i64, 1, 8, .v (.int .i64 0), some (0, [.int .i64])⟩,
  ⟨.other, 1, 8, .v .nilFunc, none⟩,
  ⟨.other, 1, 8, .v .nilFunc, none⟩,
  ⟨.other, 1, 8, .v .nilFunc, none⟩,
  ⟨.other, 0, 0, default, none⟩,
  ⟨.other, 1, 8, .v .nilFunc, none⟩,
  ⟨.other, 1, 8, .v .nilFunc, none⟩,
  ⟨.other, 1, 8, .v .nilFunc, none⟩,
  ⟨.slice 48, 1, 24, .sl [] .full, none⟩,
  ⟨.strct [(0, 9), (1, 4), (2, 23), (3, 38), (4, 26)], 5, 96, .agg [.s [], .v (.bool false), .sl [] .full, .sl [] .full, .sl [] .full], none⟩,
  ⟨.strct [(0, 9), (1, 4), (2, 23), (3, 38), (4, 26)], 5, 96, .agg [.s [], .v (.bool false), .sl [] .full, .sl [] .full, .sl [] .full], none⟩,
  ⟨.other, 1, 8, .v .nilFunc, none⟩,
  ⟨.other, 1, 8, .v .nilFunc, none⟩,
  ⟨.strct [(0, 3), (1, 3), (2, 9)], 3, 32, .agg [.v (.int .i64 0), .v (.int .i64 0), .s []], some (1, [.int .i64, .int .i64, .str])⟩,
  ⟨.strct [(0, 3), (1, 3), (2, 9)], 3, 32, .agg [.v (.int .i64 0), .v (.int .i64 0), .s []], some (1, [.int .i64, .int .i64, .str])⟩,
  ⟨.strct [(0, 3), (1, 9), (2, 4)], 3, 32, .agg [.v (.int .i64 0), .s [], .v (.bool false)], some (1, [.int .i64, .str, .bool])⟩,
  ⟨.strct [(0, 3), (1, 9), (2, 4)], 3, 32, .agg [.v (.int .i64 0), .s [], .v (.bool false)], some (1, [.int .i64, .str, .bool])⟩,
  ⟨.strct [(0, 3), (1, 44), (4, 46)], 7, 72, .agg [.v (.int .i64 0), .v (.int .i64 0), .v (.int .i64 0), .s [], .v (.int .i64 0), .s [], .v (.bool false)], some (2, [.int .i64, .int .i64, .int .i64, .str, .int .i64, .str, .bool])⟩,
  ⟨.strct [(0, 3), (1, 44), (4, 46)], 7, 72, .agg [.v (.int .i64 0), .v (.int .i64 0), .v (.int .i64 0), .s [], .v (.int .i64 0), .s [], .v (.bool false)], some (2, [.int .i64, .int .i64, .int .i64, .str, .int .i64, .str, .bool])⟩,
  ⟨.other, 1, 8, .v .nilFunc, none⟩,
  ⟨.other, 1, 8, .v .nilFunc, none⟩,
  ⟨.ptr 53, 1, 8, .v (.pointer none), none⟩,
  ⟨.strct [(0, 3)], 1, 8, .agg [.v (.int .i64 0)], some (1, [.int .i64])⟩,
  ⟨.strct [(0, 3)], 1, 8, .agg [.v (.int .i64 0)], some (1, [.int .i64])⟩,
  ⟨.ptr 57, 1, 8, .v (.pointer none), none⟩,
  ⟨.map 9 136, 1, 8, .v (.map none), none⟩,
  ⟨.strct [(0, 55), (1, 3)], 2, 16, .agg [.v (.map none), .v (.int .i64 0)], none⟩,
  ⟨.strct [(0, 55), (1, 3)], 2, 16, .agg [.v (.map none), .v (.int .i64 0)], none⟩,
  ⟨.other, 1, 8, .v .nilFunc, none⟩,
  ⟨.strct [(0, 46), (3, 3), (4, 44)], 7, 72, .agg [.v (.int .i64 0), .s [], .v (.bool false), .v (.int .i64 0), .v (.int .i64 0), .v (.int .i64 0), .s []], some (2, [.int .i64, .str, .bool, .int .i64, .int .i64, .int .i64, .str])⟩,
  ⟨.strct [(0, 46), (3, 3), (4, 44)], 7, 72, .agg [.v (.int .i64 0), .s [], .v (.bool false), .v (.int .i64 0), .v (.int .i64 0), .v (.int .i64 0), .s []], some (2, [.int .i64, .str, .bool, .int .i64, .int .i64, .int .i64, .str])⟩,
  ⟨.slice 60, 1, 24, .sl [] .full, none⟩,
  ⟨.slice 61, 1, 24, .sl [] .full, none⟩,
  ⟨.strct [(0, 3), (1, 3), (2, 9)], 3, 32, .agg [.v (.int .i64 0), .v (.int .i64 0), .s []], some (1, [.int .i64, .int .i64, .str])⟩,
  ⟨.strct [(0, 3), (1, 3), (2, 9)], 3, 32, .agg [.v (.int .i64 0), .v (.int .i64 0), .s []], some (1, [.int .i64, .int .i64, .str])⟩,
  ⟨.slice 73, 1, 24, .sl [] .full, none⟩,
  ⟨.other, 0, 0, default, none⟩,
  ⟨.other, 1, 8, .v .nilFunc, none⟩,
  ⟨.ptr 70, 1, 8, .v (.pointer none), none⟩,
  ⟨.strct [(0, 65), (1, 3), (2, 3), (3, 30), (4, 3)], 5, 56, .agg [.sl [] .full, .v (.int .i64 0), .v (.int .i64 0), .v (.int .i64 0), .v (.int .i64 0)], none⟩,
  ⟨.strct [(0, 65), (1, 3), (2, 3), (3, 30), (4, 3)], 5, 56, .agg [.sl [] .full, .v (.int .i64 0), .v (.int .i64 0), .v (.int .i64 0), .v (.int .i64 0)], none⟩,
  ⟨.other, 1, 8, .v .nilFunc, none⟩,
  ⟨.strct [(0, 3), (1, 3), (2, 3), (3, 9)], 4, 40, .agg [.v (.int .i64 0), .v (.int .i64 0), .v (.int .i64 0), .s []], some (1, [.int .i64, .int .i64, .int .i64, .str])⟩,
  ⟨.strct [(0, 3), (1, 3), (2, 3), (3, 9)], 4, 40, .agg [.v (.int .i64 0), .v (.int .i64 0), .v (.int .i64 0), .s []], some (1, [.int .i64, .int .i64, .int .i64, .str])⟩,
  ⟨.other, 1, 8, .v .nilFunc, none⟩,
  ⟨.other, 1, 8, .v .nilFunc, none⟩,
  ⟨.other, 1, 8, .v .nilFunc, none⟩,
  ⟨.other, 1, 8, .v .nilFunc, none⟩,
  ⟨.slice 9, 1, 24, .sl [] .full, none⟩,
  ⟨.other, 1, 8, .v .nilFunc, none⟩,
  ⟨.other, 1, 8, .v .nilFunc, none⟩,
  ⟨.other, 0, 0, default, none⟩,
  ⟨.other, 1, 8, .v .nilFunc, none⟩,
  ⟨.other, 1, 8, .v .nilFunc, none⟩,
  ⟨.other, 1, 8, .v .nilFunc, none⟩,
  ⟨.other, 1, 8, .v .nilFunc, none⟩,
  ⟨.other, 1, 8, .v .nilFunc, none⟩,
  ⟨.other, 1, 8, .v .nilFunc, none⟩,
  ⟨.other, 1, 8, .v .nilFunc, none⟩,
  ⟨.other, 1, 8, .v .nilFunc, none⟩,
  ⟨.other, 1, 8, .v .nilFunc, none⟩,
  ⟨.other, 1, 8, .v .nilFunc, none⟩,
  ⟨.other, 1, 8, .v .nilFunc, none⟩,
  ⟨.other, 0, 0, default, none⟩,
  ⟨.other, 1, 8, .v .nilFunc, none⟩,
  ⟨.other, 1, 8, .v .nilFunc, none⟩,
  ⟨.other, 1, 8, .v .nilFunc, none⟩,
  ⟨.other, 1, 8, .v .nilFunc, none⟩,
  ⟨.other, 1, 8, .v .nilFunc, none⟩,
  ⟨.other, 1, 8, .v .nilFunc, none⟩,
  ⟨.other, 1, 8, .v .nilFunc, none⟩,
  ⟨.other, 1, 8, .v .nilFunc, none⟩,
  ⟨.slice 4, 1, 24, .sl [] .full, none⟩,
  ⟨.other, 0, 0, default, none⟩,
  ⟨.other, 1, 8, .v .nilFunc, none⟩,
  ⟨.other, 1, 8, .v .nilFunc, none⟩,
  ⟨.other, 1, 8, .v .nilFunc, none⟩,
  ⟨.other, 1, 8, .v .nilFunc, none⟩,
  ⟨.other, 1, 8, .v .nilFunc, none⟩,
  ⟨.other, 1, 8, .v .nilFunc, none⟩,
  ⟨.ptr 113, 1, 8, .v (.pointer none), none⟩,
  ⟨.slice 5, 1, 24, .sl [] .full, none⟩,
  ⟨.strct [(0, 110), (1, 111)], 2, 32, .agg [.v (.pointer none), .sl [] .full], none⟩,
  ⟨.strct [(0, 110), (1, 111)], 2, 32, .agg [.v (.pointer none), .sl [] .full], none⟩,
  ⟨.other, 1, 8, .v .nilFunc, none⟩,
  ⟨.iface, 1, 16, .v .nilIface, none⟩,
  ⟨.iface, 1, 16, .v .nilIface, none⟩,
  ⟨.other, 0, 0, default, none⟩,
  ⟨.other, 1, 8, .v .nilFunc, none⟩,
  ⟨.other, 1, 8, .v .nilFunc, none⟩,
  ⟨.other, 1, 8, .v .nilFunc, none⟩,
  ⟨.other, 1, 8, .v .nilFunc, none⟩,
  ⟨.other, 1, 8, .v .nilFunc, none⟩,
  ⟨.other, 0, 0, default, none⟩,
  ⟨.other, 1, 8, .v .nilFunc, none⟩,
  ⟨.other, 1, 8, .v .nilFunc, none⟩,
  ⟨.other, 1, 8, .v .nilFunc, none⟩,
  ⟨.other, 1, 8, .v .nilFunc, none⟩,
  ⟨.other, 1, 8, .v .nilFunc, none⟩,
  ⟨.other, 1, 8, .v .nilFunc, none⟩,
  ⟨.other, 1, 8, .v .nilFunc, none⟩,
  ⟨.other, 1, 8, .v .nilFunc, none⟩,
  ⟨.other, 1, 8, .v .nilFunc, none⟩,
  ⟨.other, 1, 8, .v .nilFunc, none⟩,
  ⟨.int .u64, 1, 8, .v (.int .u64 0), some (0, [.int .u64])⟩,
  ⟨.ptr 5, 1, 8, .v (.pointer none), none⟩,
  ⟨.strct [], 0, 0, default, none⟩,
  ⟨.other, 0, 0, default, none⟩,
  ⟨.other, 1, 8, .v .nilFunc, none⟩,
  ⟨.other, 1, 8, .v .nilFunc, none⟩,
  ⟨.other, 0, 0, default, none⟩,
  ⟨.other, 1, 8, .v .nilFunc, none⟩,
  ⟨.other, 1, 8, .v .nilFunc, none⟩,
  ⟨.other, 1, 8, .v .nilFunc, none⟩,
  ⟨.other, 1, 8, .v .nilFunc, none⟩,
  ⟨.other, 1, 8, .v (.pointer none), none⟩,
  ⟨.other, 1, 8, .v .nilFunc, none⟩,
  ⟨.other, 1, 8, .v .nilFunc, none⟩,
  ⟨.other, 1, 8, .v .nilFunc, none⟩,
  ⟨.other, 1, 8, .v .nilFunc, none⟩,
  ⟨.other, 1, 8, .v .nilFunc, none⟩,
  ⟨.other, 1, 8, .v .nilFunc, none⟩,
  ⟨.other, 1, 8, .v .nilFunc, none⟩,
  ⟨.other, 0, 0, default, none⟩,
  ⟨.other, 1, 8, .v .nilFunc, none⟩,
  ⟨.arr 24 5, 24, 24, .agg [.v (.int .u8 0), .v (.int .u8 0), .v (.int .u8 0), .v (.int .u8 0), .v (.int .u8 0), .v (.int .u8 0), .v (.int .u8 0), .v (.int .u8 0), .v (.int .u8 0), .v (.int .u8 0), .v (.int .u8 0), .v (.int .u8 0), .v (.int .u8 0), .v (.int .u8 0), .v (.int .u8 0), .v (.int .u8 0), .v (.int .u8 0), .v (.int .u8 0), .v (.int .u8 0), .v (.int .u8 0), .v (.int .u8 0), .v (.int .u8 0), .v (.int .u8 0), .v (.int .u8 0)], some (1, [.int .u8, .int .u8, .int .u8, .int .u8, .int .u8, .int .u8, .int .u8, .int .u8, .int .u8, .int .u8, .int .u8, .int .u8, .int .u8, .int .u8, .int .u8, .int .u8, .int .u8, .int .u8, .int .u8, .int .u8, .int .u8, .int .u8, .int .u8, .int .u8])⟩,
  ⟨.int .u64, 1, 8, .v (.int .u64 0), some (0, [.int .u64])⟩,
  ⟨.other, 1, 8, .v .nilFunc, none⟩,
  ⟨.other, 1, 8, .v .nilFunc, none⟩,
  ⟨.other, 0, 0, default, none⟩,
  ⟨.other, 1, 8, .v .nilFunc, none⟩,
  ⟨.other, 1, 8, .v .nilFunc, none⟩,
  ⟨.int .i64, 1, 8, .v (.int .i64 0), some (0, [.int .i64])⟩,
  ⟨.other, 0, 0, default, none⟩,
  ⟨.other, 1, 8, .v .nilFunc, none⟩,
  ⟨.ptr 181, 1, 8, .v (.pointer none), none⟩,
  ⟨.other, 1, 8, .v .nilFunc, none⟩,
  ⟨.other, 1, 8, .v .nilFunc, none⟩,
  ⟨.other, 1, 8, .v .nilFunc, none⟩,
  ⟨.other, 1, 8, .v .nilFunc, none⟩,
  ⟨.other, 0, 0, default, none⟩,
  ⟨.other, 1, 8, .v .nilFunc, none⟩,
  ⟨.other, 1, 8, .v .nilFunc, none⟩,
  ⟨.other, 1, 8, .v .nilFunc, none⟩,
  ⟨.arr 20 156, 20, 160, .agg [.v (.int .u64 0), .v (.int .u64 0), .v (.int .u64 0), .v (.int .u64 0), .v (.int .u64 0), .v (.int .u64 0), .v (.int .u64 0), .v (.int .u64 0), .v (.int .u64 0), .v (.int .u64 0), .v (.int .u64 0), .v (.int .u64 0), .v (.int .u64 0), .v (.int .u64 0), .v (.int .u64 0), .v (.int .u64 0), .v (.int .u64 0), .v (.int .u64 0), .v (.int .u64 0), .v (.int .u64 0)], some (1, [.int .u64, .int .u64, .int .u64, .int .u64, .int .u64, .int .u64, .int .u64, .int .u64, .int .u64, .int .u64, .int .u64, .int .u64, .int .u64, .int .u64, .int .u64, .int .u64, .int .u64, .int .u64, .int .u64, .int .u64])⟩,
  ⟨.int .u32, 1, 4, .v (.int .u32 0), some (0, [.int .u32])⟩,
  ⟨.arr 65 5, 65, 65, .agg [.v (.int .u8 0), .v (.int .u8 0), .v (.int .u8 0), .v (.int .u8 0), .v (.int .u8 0), .v (.int .u8 0), .v (.int .u8 0), .v (.int .u8 0), .v (.int .u8 0), .v (.int .u8 0), .v (.int .u8 0), .v (.int .u8 0), .v (.int .u8 0), .v (.int .u8 0), .v (.int .u8 0), .v (.int .u8 0), .v (.int .u8 0), .v (.int .u8 0), .v (.int .u8 0), .v (.int .u8 0), .v (.int .u8 0), .v (.int .u8 0), .v (.int .u8 0), .v (.int .u8 0), .v (.int .u8 0), .v (.int .u8 0), .v (.int .u8 0), .v (.int .u8 0), .v (.int .u8 0), .v (.int .u8 0), .v (.int .u8 0), .v (.int .u8 0), .v (.int .u8 0), .v (.int .u8 0), .v (.int .u8 0), .v (.int .u8 0), .v (.int .u8 0), .v (.int .u8 0), .v (.int .u8 0), .v (.int .u8 0), .v (.int .u8 0), .v (.int .u8 0), .v (.int .u8 0), .v (.int .u8 0), .v (.int .u8 0), .v (.int .u8 0), .v (.int .u8 0), .v (.int .u8 0), .v (.int .u8 0), .v (.int .u8 0), .v (.int .u8 0), .v (.int .u8 0), .v (.int .u8 0), .v (.int .u8 0), .v (.int .u8 0), .v (.int .u8 0), .v (.int .u8 0), .v (.int .u8 0), .v (.int .u8 0), .v (.int .u8 0), .v (.int .u8 0), .v (.int .u8 0), .v (.int .u8 0), .v (.int .u8 0), .v (.int .u8 0)], none⟩,
  ⟨.other, 1, 8, .v .nilFunc, none⟩,
  ⟨.other, 0, 0, default, none⟩,
  ⟨.other, 1, 8, .v .nilFunc, none⟩,
  ⟨.strct [(0, 9), (1, 9), (2, 116)], 3, 48, .agg [.s [], .s [], .v .nilIface], none⟩,
  ⟨.strct [(0, 9), (1, 9), (2, 116)], 3, 48, .agg [.s [], .s [], .v .nilIface], none⟩,
  ⟨.other, 1, 8, .v .nilFunc, none⟩,
  ⟨.other, 1, 8, .v .nilFunc, none⟩,
  ⟨.other, 1, 8, .v .nilFunc, none⟩,
  ⟨.other, 1, 8, .v .nilFunc, none⟩,
  ⟨.ptr 188, 1, 8, .v (.pointer none), none⟩,
  ⟨.strct [(0, 9)], 1, 16, .agg [.s []], some (1, [.str])⟩,
  ⟨.strct [(0, 9)], 1, 16, .agg [.s []], some (1, [.str])⟩,
  ⟨.arr 32 5, 32, 32, .agg [.v (.int .u8 0), .v (.int .u8 0), .v (.int .u8 0), .v (.int .u8 0), .v (.int .u8 0), .v (.int .u8 0), .v (.int .u8 0), .v (.int .u8 0), .v (.int .u8 0), .v (.int .u8 0), .v (.int .u8 0), .v (.int .u8 0), .v (.int .u8 0), .v (.int .u8 0), .v (.int .u8 0), .v (.int .u8 0), .v (.int .u8 0), .v (.int .u8 0), .v (.int .u8 0), .v (.int .u8 0), .v (.int .u8 0), .v (.int .u8 0), .v (.int .u8 0), .v (.int .u8 0), .v (.int .u8 0), .v (.int .u8 0), .v (.int .u8 0), .v (.int .u8 0), .v (.int .u8 0), .v (.int .u8 0), .v (.int .u8 0), .v (.int .u8 0)], some (1, [.int .u8, .int .u8, .int .u8, .int .u8, .int .u8, .int .u8, .int .u8, .int .u8, .int .u8, .int .u8, .int .u8, .int .u8, .int .u8, .int .u8, .int .u8, .int .u8, .int .u8, .int .u8, .int .u8, .int .u8, .int .u8, .int .u8, .int .u8, .int .u8, .int .u8, .int .u8, .int .u8, .int .u8, .int .u8, .int .u8, .int .u8, .int .u8])⟩,
  ⟨.arr 64 5, 64, 64, .agg [.v (.int .u8 0), .v (.int .u8 0), .v (.int .u8 0), .v (.int .u8 0), .v (.int .u8 0), .v (.int .u8 0), .v (.int .u8 0), .v (.int .u8 0), .v (.int .u8 0), .v (.int .u8 0), .v (.int .u8 0), .v (.int .u8 0), .v (.int .u8 0), .v (.int .u8 0), .v (.int .u8 0), .v (.int .u8 0), .v (.int .u8 0), .v (.int .u8 0), .v (.int .u8 0), .v (.int .u8 0), .v (.int .u8 0), .v (.int .u8 0), .v (.int .u8 0), .v (.int .u8 0), .v (.int .u8 0), .v (.int .u8 0), .v (.int .u8 0), .v (.int .u8 0), .v (.int .u8 0), .v (.int .u8 0), .v (.int .u8 0), .v (.int .u8 0), .v (.int .u8 0), .v (.int .u8 0), .v (.int .u8 0), .v (.int .u8 0), .v (.int .u8 0), .v (.int .u8 0), .v (.int .u8 0), .v (.int .u8 0), .v (.int .u8 0), .v (.int .u8 0), .v (.int .u8 0), .v (.int .u8 0), .v (.int .u8 0), .v (.int .u8 0), .v (.int .u8 0), .v (.int .u8 0), .v (.int .u8 0), .v (.int .u8 0), .v (.int .u8 0), .v (.int .u8 0), .v (.int .u8 0), .v (.int .u8 0), .v (.int .u8 0), .v (.int .u8 0), .v (.int .u8 0), .v (.int .u8 0), .v (.int .u8 0), .v (.int .u8 0), .v (.int .u8 0), .v (.int .u8 0), .v (.int .u8 0), .v (.int .u8 0)], none⟩,
  ⟨.strct [(0, 17), (1, 17), (2, 17), (3, 9)], 4, 40, .agg [.v (.pointer none), .v (.pointer none), .v (.pointer none), .s []], none⟩,
  ⟨.strct [(0, 17), (1, 17), (2, 17), (3, 9)], 4, 40, .agg [.v (.pointer none), .v (.pointer none), .v (.pointer none), .s []], none⟩,
  ⟨.arr 0 16, 0, 0, default, none⟩,
  ⟨.other, 0, 0, default, none⟩,
  ⟨.other, 0, 0, default, none⟩,
  ⟨.other, 1, 8, .v .nilFunc, none⟩,
  ⟨.int .u8, 1, 1, .v (.int .u8 0), some (0, [.int .u8])⟩,
  ⟨.int .u8, 1, 1, .v (.int .u8 0), some (0, [.int .u8])⟩,
  ⟨.other, 1, 8, .v .nilFunc, none⟩,
  ⟨.int .i32, 1, 4, .v (.int .i32 0), some (0, [.int .i32])⟩,
  ⟨.int .i32, 1, 4, .v (.int .i32 0), some (0, [.int .i32])⟩,
  ⟨.strct [(0, 12), (1, 12), (2, 175), (3, 197), (4, 5), (5, 5), (6, 198), (7, 199), (8, 135), (9, 200), (10, 201)], 11, 48, .agg [.v (.int .u64 0), .v (.int .u64 0), .v (.int .u32 0), .v (.int .u8 0), .v (.int .u8 0), .v (.int .u8 0), .v (.int .u8 0), .v .nilFunc, .v (.pointer none), .v (.int .i32 0), .v (.int .i32 0)], none⟩,
  ⟨.strct [(0, 12), (1, 12), (2, 175), (3, 197), (4, 5), (5, 5), (6, 198), (7, 199), (8, 135), (9, 200), (10, 201)], 11, 48, .agg [.v (.int .u64 0), .v (.int .u64 0), .v (.int .u32 0), .v (.int .u8 0), .v (.int .u8 0), .v (.int .u8 0), .v (.int .u8 0), .v .nilFunc, .v (.pointer none), .v (.int .i32 0), .v (.int .i32 0)], none⟩]
def U (t : TypeId) : TI := tyRows.getD t ⟨.other, 0, 0, default, none⟩
@[go_sem] theorem U1k : (U 1).k = .other := rfl
@[go_sem] theorem U1s : (U 1).sz = 1 := rfl
@[go_sem] theorem U1b : (U 1).bytes = 8 := rfl
@[go_sem] theorem U1z : (U 1).zero = .v .nilFunc := rfl
@[go_sem] theorem U2k : (U 2).k = .int .i64 := rfl
@[go_sem] theorem U2s : (U 2).sz = 1 := rfl
@[go_sem] theorem U2b : (U 2).bytes = 8 := rfl
@[go_sem] theorem U2z : (U 2).zero = .v (.int .i64 0) := rfl
@[go_sem] theorem U3k : (U 3).k = .int .i64 := rfl
@[go_sem] theorem U3s : (U 3).sz = 1 := rfl
@[go_sem] theorem U3b : (U 3).bytes = 8 := rfl
@[go_sem] theorem U3z : (U 3).zero = .v (.int .i64 0) := rfl
@[go_sem] theorem U4k : (U 4).k = .bool := rfl
@[go_sem] theorem U4s : (U 4).sz = 1 := rfl
@[go_sem] theorem U4b : (U 4).bytes = 1 := rfl
@[go_sem] theorem U4z : (U 4).zero = .v (.bool false) := rfl
@[go_sem] theorem U5k : (U 5).k = .int .u8 := rfl
@[go_sem] theorem U5s : (U 5).sz = 1 := rfl
@[go_sem] theorem U5b : (U 5).bytes = 1 := rfl
@[go_sem] theorem U5z : (U 5).zero = .v (.int .u8 0) := rfl
@[go_sem] theorem U6k : (U 6).k = .int .u8 := rfl
@[go_sem] theorem U6s : (U 6).sz = 1 := rfl
@[go_sem] theorem U6b : (U 6).bytes = 1 := rfl
@[go_sem] theorem U6z : (U 6).zero = .v (.int .u8 0) := rfl
@[go_sem] theorem U7k : (U 7).k = .strct [(0, 2), (1, 3), (2, 4), (3, 6)] := rfl
@[go_sem] theorem U7s : (U 7).sz = 4 := rfl
@[go_sem] theorem U7b : (U 7).bytes = 24 := rfl
@[go_sem] theorem U7z : (U 7).zero = .agg [.v (.int .i64 0), .v (.int .i64 0), .v (.bool false), .v (.int .u8 0)] := rfl
@[go_sem] theorem U8k : (U 8).k = .strct [(0, 2), (1, 3), (2, 4), (3, 6)] := rfl
@[go_sem] theorem U8s : (U 8).sz = 4 := rfl
@[go_sem] theorem U8b : (U 8).bytes = 24 := rfl
@[go_sem] theorem U8z : (U 8).zero = .agg [.v (.int .i64 0), .v (.int .i64 0), .v (.bool false), .v (.int .u8 0)] := rfl
@[go_sem] theorem U9k : (U 9).k = .str := rfl
@[go_sem] theorem U9s : (U 9).sz = 1 := rfl
@[go_sem] theorem U9b : (U 9).bytes = 16 := rfl
@[go_sem] theorem U9z : (U 9).zero = .s [] := rfl
@[go_sem] theorem U10k : (U 10).k = .str := rfl
@[go_sem] theorem U10s : (U 10).sz = 1 := rfl
@[go_sem] theorem U10b : (U 10).bytes = 16 := rfl
@[go_sem] theorem U10z : (U 10).zero = .s [] := rfl
@[go_sem] theorem U11k : (U 11).k = .str := rfl
@[go_sem] theorem U11s : (U 11).sz = 1 := rfl
@[go_sem] theorem U11b : (U 11).bytes = 16 := rfl
@[go_sem] theorem U11z : (U 11).zero = .s [] := rfl
@[go_sem] theorem U12k : (U 12).k = .int .u64 := rfl
@[go_sem] theorem U12s : (U 12).sz = 1 := rfl
@[go_sem] theorem U12b : (U 12).bytes = 8 := rfl
@[go_sem] theorem U12z : (U 12).zero = .v (.int .u64 0) := rfl
@[go_sem] theorem U13k : (U 13).k = .strct [(0, 9), (1, 12)] := rfl
@[go_sem] theorem U13s : (U 13).sz = 2 := rfl
@[go_sem] theorem U13b : (U 13).bytes = 24 := rfl
@[go_sem] theorem U13z : (U 13).zero = .agg [.s [], .v (.int .u64 0)] := rfl
@[go_sem] theorem U14k : (U 14).k = .strct [(0, 9), (1, 12)] := rfl
@[go_sem] theorem U14s : (U 14).sz = 2 := rfl
@[go_sem] theorem U14b : (U 14).bytes = 24 := rfl
@[go_sem] theorem U14z : (U 14).zero = .agg [.s [], .v (.int .u64 0)] := rfl
@[go_sem] theorem U15k : (U 15).k = .ptr 192 := rfl
@[go_sem] theorem U15s : (U 15).sz = 1 := rfl
@[go_sem] theorem U15b : (U 15).bytes = 8 := rfl
@[go_sem] theorem U15z : (U 15).zero = .v (.pointer none) := rfl
@[go_sem] theorem U16k : (U 16).k = .ptr 195 := rfl
@[go_sem] theorem U16s : (U 16).sz = 1 := rfl
@[go_sem] theorem U16b : (U 16).bytes = 8 := rfl
@[go_sem] theorem U16z : (U 16).zero = .v (.pointer none) := rfl
@[go_sem] theorem U17k : (U 17).k = .ptr 203 := rfl
@[go_sem] theorem U17s : (U 17).sz = 1 := rfl
@[go_sem] theorem U17b : (U 17).bytes = 8 := rfl
@[go_sem] theorem U17z : (U 17).zero = .v (.pointer none) := rfl
@[go_sem] theorem U18k : (U 18).k = .strct [(0, 17)] := rfl
@[go_sem] theorem U18s : (U 18).sz = 1 := rfl
@[go_sem] theorem U18b : (U 18).bytes = 8 := rfl
@[go_sem] theorem U18z : (U 18).zero = .agg [.v (.pointer none)] := rfl
@[go_sem] theorem U19k : (U 19).k = .strct [(0, 17)] := rfl
@[go_sem] theorem U19s : (U 19).sz = 1 := rfl
@[go_sem] theorem U19b : (U 19).bytes = 8 := rfl
@[go_sem] theorem U19z : (U 19).zero = .agg [.v (.pointer none)] := rfl
@[go_sem] theorem U20k : (U 20).k = .iface := rfl
@[go_sem] theorem U20s : (U 20).sz = 1 := rfl
@[go_sem] theorem U20b : (U 20).bytes = 16 := rfl
@[go_sem] theorem U20z : (U 20).zero = .v .nilIface := rfl
@[go_sem] theorem U21k : (U 21).k = .int .i32 := rfl
@[go_sem] theorem U21s : (U 21).sz = 1 := rfl
@[go_sem] theorem U21b : (U 21).bytes = 4 := rfl
@[go_sem] theorem U21z : (U 21).zero = .v (.int .i32 0) := rfl
@[go_sem] theorem U22k : (U 22).k = .slice 62 := rfl
@[go_sem] theorem U22s : (U 22).sz = 1 := rfl
@[go_sem] theorem U22b : (U 22).bytes = 24 := rfl
@[go_sem] theorem U22z : (U 22).zero = .sl [] .full := rfl
@[go_sem] theorem U23k : (U 23).k = .slice 62 := rfl
@[go_sem] theorem U23s : (U 23).sz = 1 := rfl
@[go_sem] theorem U23b : (U 23).bytes = 24 := rfl
@[go_sem] theorem U23z : (U 23).zero = .sl [] .full := rfl
@[go_sem] theorem U24k : (U 24).k = .slice 40 := rfl
@[go_sem] theorem U24s : (U 24).sz = 1 := rfl
@[go_sem] theorem U24b : (U 24).bytes = 24 := rfl
@[go_sem] theorem U24z : (U 24).zero = .sl [] .full := rfl
@[go_sem] theorem U25k : (U 25).k = .slice 28 := rfl
@[go_sem] theorem U25s : (U 25).sz = 1 := rfl
@[go_sem] theorem U25b : (U 25).bytes = 24 := rfl
@[go_sem] theorem U25z : (U 25).zero = .sl [] .full := rfl
@[go_sem] theorem U26k : (U 26).k = .slice 64 := rfl
@[go_sem] theorem U26s : (U 26).sz = 1 := rfl
@[go_sem] theorem U26b : (U 26).bytes = 24 := rfl
@[go_sem] theorem U26z : (U 26).zero = .sl [] .full := rfl
@[go_sem] theorem U27k : (U 27).k = .strct [(0, 9), (1, 4), (2, 3), (3, 23), (4, 24), (5, 25), (6, 26)] := rfl
@[go_sem] theorem U27s : (U 27).sz = 7 := rfl
@[go_sem] theorem U27b : (U 27).bytes = 128 := rfl
@[go_sem] theorem U27z : (U 27).zero = .agg [.s [], .v (.bool false), .v (.int .i64 0), .sl [] .full, .sl [] .full, .sl [] .full, .sl [] .full] := rfl
@[go_sem] theorem U28k : (U 28).k = .strct [(0, 9), (1, 4), (2, 3), (3, 23), (4, 24), (5, 25), (6, 26)] := rfl
@[go_sem] theorem U28s : (U 28).sz = 7 := rfl
@[go_sem] theorem U28b : (U 28).bytes = 128 := rfl
@[go_sem] theorem U28z : (U 28).zero = .agg [.s [], .v (.bool false), .v (.int .i64 0), .sl [] .full, .sl [] .full, .sl [] .full, .sl [] .full] := rfl
@[go_sem] theorem U29k : (U 29).k = .other := rfl
@[go_sem] theorem U29s : (U 29).sz = 1 := rfl
@[go_sem] theorem U29b : (U 29).bytes = 8 := rfl
@[go_sem] theorem U29z : (U 29).zero = .v .nilFunc := rfl
@[go_sem] theorem U30k : (U 30).k = .int .i64 := rfl
@[go_sem] theorem U30s : (U 30).sz = 1 := rfl
@[go_sem] theorem U30b : (U 30).bytes = 8 := rfl
@[go_sem] theorem U30z : (U 30).zero = .v (.int .i64 0) := rfl
@[go_sem] theorem U31k : (U 31).k = .other := rfl
@[go_sem] theorem U31s : (U 31).sz = 1 := rfl
@[go_sem] theorem U31b : (U 31).bytes = 8 := rfl
@[go_sem] theorem U31z : (U 31).zero = .v .nilFunc := rfl
@[go_sem] theorem U32k : (U 32).k = .other := rfl
@[go_sem] theorem U32s : (U 32).sz = 1 := rfl
@[go_sem] theorem U32b : (U 32).bytes = 8 := rfl
@[go_sem] theorem U32z : (U 32).zero = .v .nilFunc := rfl
@[go_sem] theorem U33k : (U 33).k = .other := rfl
@[go_sem] theorem U33s : (U 33).sz = 1 := rfl
@[go_sem] theorem U33b : (U 33).bytes = 8 := rfl
@[go_sem] theorem U33z : (U 33).zero = .v .nilFunc := rfl
@[go_sem] theorem U35k : (U 35).k = .other := rfl
@[go_sem] theorem U35s : (U 35).sz = 1 := rfl
@[go_sem] theorem U35b : (U 35).bytes = 8 := rfl
@[go_sem] theorem U35z : (U 35).zero = .v .nilFunc := rfl
@[go_sem] theorem U36k : (U 36).k = .other := rfl
@[go_sem] theorem U36s : (U 36).sz = 1 := rfl
@[go_sem] theorem U36b : (U 36).bytes = 8 := rfl
@[go_sem] theorem U36z : (U 36).zero = .v .nilFunc := rfl
@[go_sem] theorem U37k : (U 37).k = .other := rfl
@[go_sem] theorem U37s : (U 37).sz = 1 := rfl
@[go_sem] theorem U37b : (U 37).bytes = 8 := rfl
@[go_sem] theorem U37z : (U 37).zero = .v .nilFunc := rfl
@[go_sem] theorem U38k : (U 38).k = .slice 48 := rfl
@[go_sem] theorem U38s : (U 38).sz = 1 := rfl
@[go_sem] theorem U38b : (U 38).bytes = 24 := rfl
@[go_sem] theorem U38z : (U 38).zero = .sl [] .full := rfl
@[go_sem] theorem U39k : (U 39).k = .strct [(0, 9), (1, 4), (2, 23), (3, 38), (4, 26)] := rfl
@[go_sem] theorem U39s : (U 39).sz = 5 := rfl
@[go_sem] theorem U39b : (U 39).bytes = 96 := rfl
@[go_sem] theorem U39z : (U 39).zero = .agg [.s [], .v (.bool false), .sl [] .full, .sl [] .full, .sl [] .full] := rfl
@[go_sem] theorem U40k : (U 40).k = .strct [(0, 9), (1, 4), (2, 23), (3, 38), (4, 26)] := rfl
@[go_sem] theorem U40s : (U 40).sz = 5 := rfl
@[go_sem] theorem U40b : (U 40).bytes = 96 := rfl
@[go_sem] theorem U40z : (U 40).zero = .agg [.s [], .v (.bool false), .sl [] .full, .sl [] .full, .sl [] .full] := rfl
@[go_sem] theorem U41k : (U 41).k = .other := rfl
@[go_sem] theorem U41s : (U 41).sz = 1 := rfl
@[go_sem] theorem U41b : (U 41).bytes = 8 := rfl
@[go_sem] theorem U41z : (U 41).zero = .v .nilFunc := rfl
@[go_sem] theorem U42k : (U 42).k = .other := rfl
@[go_sem] theorem U42s : (U 42).sz = 1 := rfl
@[go_sem] theorem U42b : (U 42).bytes = 8 := rfl
@[go_sem] theorem U42z : (U 42).zero = .v .nilFunc := rfl
@[go_sem] theorem U43k : (U 43).k = .strct [(0, 3), (1, 3), (2, 9)] := rfl
@[go_sem] theorem U43s : (U 43).sz = 3 := rfl
@[go_sem] theorem U43b : (U 43).bytes = 32 := rfl
@[go_sem] theorem U43z : (U 43).zero = .agg [.v (.int .i64 0), .v (.int .i64 0), .s []] := rfl
@[go_sem] theorem U43e : (U 43).eq = some (1, [.int .i64, .int .i64, .str]) := rfl
@[go_sem] theorem U44k : (U 44).k = .strct [(0, 3), (1, 3), (2, 9)] := rfl
@[go_sem] theorem U44s : (U 44).sz = 3 := rfl
@[go_sem] theorem U44b : (U 44).bytes = 32 := rfl
@[go_sem] theorem U44z : (U 44).zero = .agg [.v (.int .i64 0), .v (.int .i64 0), .s []] := rfl
@[go_sem] theorem U44e : (U 44).eq = some (1, [.int .i64, .int .i64, .str]) := rfl
@[go_sem] theorem U45k : (U 45).k = .strct [(0, 3), (1, 9), (2, 4)] := rfl
@[go_sem] theorem U45s : (U 45).sz = 3 := rfl
@[go_sem] theorem U45b : (U 45).bytes = 32 := rfl
@[go_sem] theorem U45z : (U 45).zero = .agg [.v (.int .i64 0), .s [], .v (.bool false)] := rfl
@[go_sem] theorem U45e : (U 45).eq = some (1, [.int .i64, .str, .bool]) := rfl
@[go_sem] theorem U46k : (U 46).k = .strct [(0, 3), (1, 9), (2, 4)] := rfl
@[go_sem] theorem U46s : (U 46).sz = 3 := rfl
@[go_sem] theorem U46b : (U 46).bytes = 32 := rfl
@[go_sem] theorem U46z : (U 46).zero = .agg [.v (.int .i64 0), .s [], .v (.bool false)] := rfl
@[go_sem] theorem U46e : (U 46).eq = some (1, [.int .i64, .str, .bool]) := rfl
@[go_sem] theorem U47k : (U 47).k = .strct [(0, 3), (1, 44), (4, 46)] := rfl
@[go_sem] theorem U47s : (U 47).sz = 7 := rfl
@[go_sem] theorem U47b : (U 47).bytes = 72 := rfl
@[go_sem] theorem U47z : (U 47).zero = .agg [.v (.int .i64 0), .v (.int .i64 0), .v (.int .i64 0), .s [], .v (.int .i64 0), .s [], .v (.bool false)] := rfl
@[go_sem] theorem U47e : (U 47).eq = some (2, [.int .i64, .int .i64, .int .i64, .str, .int .i64, .str, .bool]) := rfl
@[go_sem] theorem U48k : (U 48).k = .strct [(0, 3), (1, 44), (4, 46)] := rfl
@[go_sem] theorem U48s : (U 48).sz = 7 := rfl
@[go_sem] theorem U48b : (U 48).bytes = 72 := rfl
@[go_sem] theorem U48z : (U 48).zero = .agg [.v (.int .i64 0), .v (.int .i64 0), .v (.int .i64 0), .s [], .v (.int .i64 0), .s [], .v (.bool false)] := rfl
@[go_sem] theorem U48e : (U 48).eq = some (2, [.int .i64, .int .i64, .int .i64, .str, .int .i64, .str, .bool]) := rfl
@[go_sem] theorem U49k : (U 49).k = .other := rfl
@[go_sem] theorem U49s : (U 49).sz = 1 := rfl
@[go_sem] theorem U49b : (U 49).bytes = 8 := rfl
@[go_sem] theorem U49z : (U 49).zero = .v .nilFunc := rfl
@[go_sem] theorem U50k : (U 50).k = .other := rfl
@[go_sem] theorem U50s : (U 50).sz = 1 := rfl
@[go_sem] theorem U50b : (U 50).bytes = 8 := rfl
@[go_sem] theorem U50z : (U 50).zero = .v .nilFunc := rfl
@[go_sem] theorem U51k : (U 51).k = .ptr 53 := rfl
@[go_sem] theorem U51s : (U 51).sz = 1 := rfl
@[go_sem] theorem U51b : (U 51).bytes = 8 := rfl
@[go_sem] theorem U51z : (U 51).zero = .v (.pointer none) := rfl
@[go_sem] theorem U52k : (U 52).k = .strct [(0, 3)] := rfl
@[go_sem] theorem U52s : (U 52).sz = 1 := rfl
@[go_sem] theorem U52b : (U 52).bytes = 8 := rfl
@[go_sem] theorem U52z : (U 52).zero = .agg [.v (.int .i64 0)] := rfl
@[go_sem] theorem U52e : (U 52).eq = some (1, [.int .i64]) := rfl
@[go_sem] theorem U53k : (U 53).k = .strct [(0, 3)] := rfl
@[go_sem] theorem U53s : (U 53).sz = 1 := rfl
@[go_sem] theorem U53b : (U 53).bytes = 8 := rfl
@[go_sem] theorem U53z : (U 53).zero = .agg [.v (.int .i64 0)] := rfl
@[go_sem] theorem U53e : (U 53).eq = some (1, [.int .i64]) := rfl
@[go_sem] theorem U54k : (U 54).k = .ptr 57 := rfl
@[go_sem] theorem U54s : (U 54).sz = 1 := rfl
@[go_sem] theorem U54b : (U 54).bytes = 8 := rfl
@[go_sem] theorem U54z : (U 54).zero = .v (.pointer none) := rfl
@[go_sem] theorem U55k : (U 55).k = .map 9 136 := rfl
@[go_sem] theorem U55s : (U 55).sz = 1 := rfl
@[go_sem] theorem U55b : (U 55).bytes = 8 := rfl
@[go_sem] theorem U55z : (U 55).zero = .v (.map none) := rfl
@[go_sem] theorem U56k : (U 56).k = .strct [(0, 55), (1, 3)] := rfl
@[go_sem] theorem U56s : (U 56).sz = 2 := rfl
@[go_sem] theorem U56b : (U 56).bytes = 16 := rfl
@[go_sem] theorem U56z : (U 56).zero = .agg [.v (.map none), .v (.int .i64 0)] := rfl
@[go_sem] theorem U57k : (U 57).k = .strct [(0, 55), (1, 3)] := rfl
@[go_sem] theorem U57s : (U 57).sz = 2 := rfl
@[go_sem] theorem U57b : (U 57).bytes = 16 := rfl
@[go_sem] theorem U57z : (U 57).zero = .agg [.v (.map none), .v (.int .i64 0)] := rfl
@[go_sem] theorem U58k : (U 58).k = .other := rfl
@[go_sem] theorem U58s : (U 58).sz = 1 := rfl
@[go_sem] theorem U58b : (U 58).bytes = 8 := rfl
@[go_sem] theorem U58z : (U 58).zero = .v .nilFunc := rfl
@[go_sem] theorem U59k : (U 59).k = .strct [(0, 46), (3, 3), (4, 44)] := rfl
@[go_sem] theorem U59s : (U 59).sz = 7 := rfl
@[go_sem] theorem U59b : (U 59).bytes = 72 := rfl
@[go_sem] theorem U59z : (U 59).zero = .agg [.v (.int .i64 0), .s [], .v (.bool false), .v (.int .i64 0), .v (.int .i64 0), .v (.int .i64 0), .s []] := rfl
@[go_sem] theorem U59e : (U 59).eq = some (2, [.int .i64, .str, .bool, .int .i64, .int .i64, .int .i64, .str]) := rfl
@[go_sem] theorem U60k : (U 60).k = .strct [(0, 46), (3, 3), (4, 44)] := rfl
@[go_sem] theorem U60s : (U 60).sz = 7 := rfl
@[go_sem] theorem U60b : (U 60).bytes = 72 := rfl
@[go_sem] theorem U60z : (U 60).zero = .agg [.v (.int .i64 0), .s [], .v (.bool false), .v (.int .i64 0), .v (.int .i64 0), .v (.int .i64 0), .s []] := rfl
@[go_sem] theorem U60e : (U 60).eq = some (2, [.int .i64, .str, .bool, .int .i64, .int .i64, .int .i64, .str]) := rfl
@[go_sem] theorem U61k : (U 61).k = .slice 60 := rfl
@[go_sem] theorem U61s : (U 61).sz = 1 := rfl
@[go_sem] theorem U61b : (U 61).bytes = 24 := rfl
@[go_sem] theorem U61z : (U 61).zero = .sl [] .full := rfl
@[go_sem] theorem U62k : (U 62).k = .slice 61 := rfl
@[go_sem] theorem U62s : (U 62).sz = 1 := rfl
@[go_sem] theorem U62b : (U 62).bytes = 24 := rfl
@[go_sem] theorem U62z : (U 62).zero = .sl [] .full := rfl
@[go_sem] theorem U63k : (U 63).k = .strct [(0, 3), (1, 3), (2, 9)] := rfl
@[go_sem] theorem U63s : (U 63).sz = 3 := rfl
@[go_sem] theorem U63b : (U 63).bytes = 32 := rfl
@[go_sem] theorem U63z : (U 63).zero = .agg [.v (.int .i64 0), .v (.int .i64 0), .s []] := rfl
@[go_sem] theorem U63e : (U 63).eq = some (1, [.int .i64, .int .i64, .str]) := rfl
@[go_sem] theorem U64k : (U 64).k = .strct [(0, 3), (1, 3), (2, 9)] := rfl
@[go_sem] theorem U64s : (U 64).sz = 3 := rfl
@[go_sem] theorem U64b : (U 64).bytes = 32 := rfl
@[go_sem] theorem U64z : (U 64).zero = .agg [.v (.int .i64 0), .v (.int .i64 0), .s []] := rfl
@[go_sem] theorem U64e : (U 64).eq = some (1, [.int .i64, .int .i64, .str]) := rfl
@[go_sem] theorem U65k : (U 65).k = .slice 73 := rfl
@[go_sem] theorem U65s : (U 65).sz = 1 := rfl
@[go_sem] theorem U65b : (U 65).bytes = 24 := rfl
@[go_sem] theorem U65z : (U 65).zero = .sl [] .full := rfl
@[go_sem] theorem U67k : (U 67).k = .other := rfl
@[go_sem] theorem U67s : (U 67).sz = 1 := rfl
@[go_sem] theorem U67b : (U 67).bytes = 8 := rfl
@[go_sem] theorem U67z : (U 67).zero = .v .nilFunc := rfl
@[go_sem] theorem U68k : (U 68).k = .ptr 70 := rfl
@[go_sem] theorem U68s : (U 68).sz = 1 := rfl
@[go_sem] theorem U68b : (U 68).bytes = 8 := rfl
@[go_sem] theorem U68z : (U 68).zero = .v (.pointer none) := rfl
@[go_sem] theorem U69k : (U 69).k = .strct [(0, 65), (1, 3), (2, 3), (3, 30), (4, 3)] := rfl
@[go_sem] theorem U69s : (U 69).sz = 5 := rfl
@[go_sem] theorem U69b : (U 69).bytes = 56 := rfl
@[go_sem] theorem U69z : (U 69).zero = .agg [.sl [] .full, .v (.int .i64 0), .v (.int .i64 0), .v (.int .i64 0), .v (.int .i64 0)] := rfl
@[go_sem] theorem U70k : (U 70).k = .strct [(0, 65), (1, 3), (2, 3), (3, 30), (4, 3)] := rfl
@[go_sem] theorem U70s : (U 70).sz = 5 := rfl
@[go_sem] theorem U70b : (U 70).bytes = 56 := rfl
@[go_sem] theorem U70z : (U 70).zero = .agg [.sl [] .full, .v (.int .i64 0), .v (.int .i64 0), .v (.int .i64 0), .v (.int .i64 0)] := rfl
@[go_sem] theorem U71k : (U 71).k = .other := rfl
@[go_sem] theorem U71s : (U 71).sz = 1 := rfl
@[go_sem] theorem U71b : (U 71).bytes = 8 := rfl
@[go_sem] theorem U71z : (U 71).zero = .v .nilFunc := rfl
@[go_sem] theorem U72k : (U 72).k = .strct [(0, 3), (1, 3), (2, 3), (3, 9)] := rfl
@[go_sem] theorem U72s : (U 72).sz = 4 := rfl
@[go_sem] theorem U72b : (U 72).bytes = 40 := rfl
@[go_sem] theorem U72z : (U 72).zero = .agg [.v (.int .i64 0), .v (.int .i64 0), .v (.int .i64 0), .s []] := rfl
@[go_sem] theorem U72e : (U 72).eq = some (1, [.int .i64, .int .i64, .int .i64, .str]) := rfl
@[go_sem] theorem U73k : (U 73).k = .strct [(0, 3), (1, 3), (2, 3), (3, 9)] := rfl
@[go_sem] theorem U73s : (U 73).sz = 4 := rfl
@[go_sem] theorem U73b : (U 73).bytes = 40 := rfl
@[go_sem] theorem U73z : (U 73).zero = .agg [.v (.int .i64 0), .v (.int .i64 0), .v (.int .i64 0), .s []] := rfl
@[go_sem] theorem U73e : (U 73).eq = some (1, [.int .i64, .int .i64, .int .i64, .str]) := rfl
@[go_sem] theorem U74k : (U 74).k = .other := rfl
@[go_sem] theorem U74s : (U 74).sz = 1 := rfl
@[go_sem] theorem U74b : (U 74).bytes = 8 := rfl
@[go_sem] theorem U74z : (U 74).zero = .v .nilFunc := rfl
@[go_sem] theorem U75k : (U 75).k = .other := rfl
@[go_sem] theorem U75s : (U 75).sz = 1 := rfl
@[go_sem] theorem U75b : (U 75).bytes = 8 := rfl
@[go_sem] theorem U75z : (U 75).zero = .v .nilFunc := rfl
@[go_sem] theorem U76k : (U 76).k = .other := rfl
@[go_sem] theorem U76s : (U 76).sz = 1 := rfl
@[go_sem] theorem U76b : (U 76).bytes = 8 := rfl
@[go_sem] theorem U76z : (U 76).zero = .v .nilFunc := rfl
@[go_sem] theorem U77k : (U 77).k = .other := rfl
@[go_sem] theorem U77s : (U 77).sz = 1 := rfl
@[go_sem] theorem U77b : (U 77).bytes = 8 := rfl
@[go_sem] theorem U77z : (U 77).zero = .v .nilFunc := rfl
@[go_sem] theorem U78k : (U 78).k = .slice 9 := rfl
@[go_sem] theorem U78s : (U 78).sz = 1 := rfl
@[go_sem] theorem U78b : (U 78).bytes = 24 := rfl
@[go_sem] theorem U78z : (U 78).zero = .sl [] .full := rfl
@[go_sem] theorem U79k : (U 79).k = .other := rfl
@[go_sem] theorem U79s : (U 79).sz = 1 := rfl
@[go_sem] theorem U79b : (U 79).bytes = 8 := rfl
@[go_sem] theorem U79z : (U 79).zero = .v .nilFunc := rfl
@[go_sem] theorem U80k : (U 80).k = .other := rfl
@[go_sem] theorem U80s : (U 80).sz = 1 := rfl
@[go_sem] theorem U80b : (U 80).bytes = 8 := rfl
@[go_sem] theorem U80z : (U 80).zero = .v .nilFunc := rfl
@[go_sem] theorem U82k : (U 82).k = .other := rfl
@[go_sem] theorem U82s : (U 82).sz = 1 := rfl
@[go_sem] theorem U82b : (U 82).bytes = 8 := rfl
@[go_sem] theorem U82z : (U 82).zero = .v .nilFunc := rfl
@[go_sem] theorem U83k : (U 83).k = .other := rfl
@[go_sem] theorem U83s : (U 83).sz = 1 := rfl
@[go_sem] theorem U83b : (U 83).bytes = 8 := rfl
@[go_sem] theorem U83z : (U 83).zero = .v .nilFunc := rfl
@[go_sem] theorem U84k : (U 84).k = .other := rfl
@[go_sem] theorem U84s : (U 84).sz = 1 := rfl
@[go_sem] theorem U84b : (U 84).bytes = 8 := rfl
@[go_sem] theorem U84z : (U 84).zero = .v .nilFunc := rfl
@[go_sem] theorem U85k : (U 85).k = .other := rfl
@[go_sem] theorem U85s : (U 85).sz = 1 := rfl
@[go_sem] theorem U85b : (U 85).bytes = 8 := rfl
@[go_sem] theorem U85z : (U 85).zero = .v .nilFunc := rfl
@[go_sem] theorem U86k : (U 86).k = .other := rfl
@[go_sem] theorem U86s : (U 86).sz = 1 := rfl
@[go_sem] theorem U86b : (U 86).bytes = 8 := rfl
@[go_sem] theorem U86z : (U 86).zero = .v .nilFunc := rfl
@[go_sem] theorem U87k : (U 87).k = .other := rfl
@[go_sem] theorem U87s : (U 87).sz = 1 := rfl
@[go_sem] theorem U87b : (U 87).bytes = 8 := rfl
@[go_sem] theorem U87z : (U 87).zero = .v .nilFunc := rfl
@[go_sem] theorem U88k : (U 88).k = .other := rfl
@[go_sem] theorem U88s : (U 88).sz = 1 := rfl
@[go_sem] theorem U88b : (U 88).bytes = 8 := rfl
@[go_sem] theorem U88z : (U 88).zero = .v .nilFunc := rfl
@[go_sem] theorem U89k : (U 89).k = .other := rfl
@[go_sem] theorem U89s : (U 89).sz = 1 := rfl
@[go_sem] theorem U89b : (U 89).bytes = 8 := rfl
@[go_sem] theorem U89z : (U 89).zero = .v .nilFunc := rfl
@[go_sem] theorem U90k : (U 90).k = .other := rfl
@[go_sem] theorem U90s : (U 90).sz = 1 := rfl
@[go_sem] theorem U90b : (U 90).bytes = 8 := rfl
@[go_sem] theorem U90z : (U 90).zero = .v .nilFunc := rfl
@[go_sem] theorem U91k : (U 91).k = .other := rfl
@[go_sem] theorem U91s : (U 91).sz = 1 := rfl
@[go_sem] theorem U91b : (U 91).bytes = 8 := rfl
@[go_sem] theorem U91z : (U 91).zero = .v .nilFunc := rfl
@[go_sem] theorem U92k : (U 92).k = .other := rfl
@[go_sem] theorem U92s : (U 92).sz = 1 := rfl
@[go_sem] theorem U92b : (U 92).bytes = 8 := rfl
@[go_sem] theorem U92z : (U 92).zero = .v .nilFunc := rfl
@[go_sem] theorem U94k : (U 94).k = .other := rfl
@[go_sem] theorem U94s : (U 94).sz = 1 := rfl
@[go_sem] theorem U94b : (U 94).bytes = 8 := rfl
@[go_sem] theorem U94z : (U 94).zero = .v .nilFunc := rfl
@[go_sem] theorem U95k : (U 95).k = .other := rfl
@[go_sem] theorem U95s : (U 95).sz = 1 := rfl
@[go_sem] theorem U95b : (U 95).bytes = 8 := rfl
@[go_sem] theorem U95z : (U 95).zero = .v .nilFunc := rfl
@[go_sem] theorem U96k : (U 96).k = .other := rfl
@[go_sem] theorem U96s : (U 96).sz = 1 := rfl
@[go_sem] theorem U96b : (U 96).bytes = 8 := rfl
@[go_sem] theorem U96z : (U 96).zero = .v .nilFunc := rfl
@[go_sem] theorem U97k : (U 97).k = .other := rfl
@[go_sem] theorem U97s : (U 97).sz = 1 := rfl
@[go_sem] theorem U97b : (U 97).bytes = 8 := rfl
@[go_sem] theorem U97z : (U 97).zero = .v .nilFunc := rfl
@[go_sem] theorem U98k : (U 98).k = .other := rfl
@[go_sem] theorem U98s : (U 98).sz = 1 := rfl
@[go_sem] theorem U98b : (U 98).bytes = 8 := rfl
@[go_sem] theorem U98z : (U 98).zero = .v .nilFunc := rfl
@[go_sem] theorem U99k : (U 99).k = .other := rfl
@[go_sem] theorem U99s : (U 99).sz = 1 := rfl
@[go_sem] theorem U99b : (U 99).bytes = 8 := rfl
@[go_sem] theorem U99z : (U 99).zero = .v .nilFunc := rfl
@[go_sem] theorem U100k : (U 100).k = .other := rfl
@[go_sem] theorem U100s : (U 100).sz = 1 := rfl
@[go_sem] theorem U100b : (U 100).bytes = 8 := rfl
@[go_sem] theorem U100z : (U 100).zero = .v .nilFunc := rfl
@[go_sem] theorem U101k : (U 101).k = .other := rfl
@[go_sem] theorem U101s : (U 101).sz = 1 := rfl
@[go_sem] theorem U101b : (U 101).bytes = 8 := rfl
@[go_sem] theorem U101z : (U 101).zero = .v .nilFunc := rfl
@[go_sem] theorem U102k : (U 102).k = .slice 4 := rfl
@[go_sem] theorem U102s : (U 102).sz = 1 := rfl
@[go_sem] theorem U102b : (U 102).bytes = 24 := rfl
@[go_sem] theorem U102z : (U 102).zero = .sl [] .full := rfl
@[go_sem] theorem U104k : (U 104).k = .other := rfl
@[go_sem] theorem U104s : (U 104).sz = 1 := rfl
@[go_sem] theorem U104b : (U 104).bytes = 8 := rfl
@[go_sem] theorem U104z : (U 104).zero = .v .nilFunc := rfl
@[go_sem] theorem U105k : (U 105).k = .other := rfl
@[go_sem] theorem U105s : (U 105).sz = 1 := rfl
@[go_sem] theorem U105b : (U 105).bytes = 8 := rfl
@[go_sem] theorem U105z : (U 105).zero = .v .nilFunc := rfl
@[go_sem] theorem U106k : (U 106).k = .other := rfl
@[go_sem] theorem U106s : (U 106).sz = 1 := rfl
@[go_sem] theorem U106b : (U 106).bytes = 8 := rfl
@[go_sem] theorem U106z : (U 106).zero = .v .nilFunc := rfl
@[go_sem] theorem U107k : (U 107).k = .other := rfl
@[go_sem] theorem U107s : (U 107).sz = 1 := rfl
@[go_sem] theorem U107b : (U 107).bytes = 8 := rfl
@[go_sem] theorem U107z : (U 107).zero = .v .nilFunc := rfl
@[go_sem] theorem U108k : (U 108).k = .other := rfl
@[go_sem] theorem U108s : (U 108).sz = 1 := rfl
@[go_sem] theorem U108b : (U 108).bytes = 8 := rfl
@[go_sem] theorem U108z : (U 108).zero = .v .nilFunc := rfl
@[go_sem] theorem U109k : (U 109).k = .other := rfl
@[go_sem] theorem U109s : (U 109).sz = 1 := rfl
@[go_sem] theorem U109b : (U 109).bytes = 8 := rfl
@[go_sem] theorem U109z : (U 109).zero = .v .nilFunc := rfl
@[go_sem] theorem U110k : (U 110).k = .ptr 113 := rfl
@[go_sem] theorem U110s : (U 110).sz = 1 := rfl
@[go_sem] theorem U110b : (U 110).bytes = 8 := rfl
@[go_sem] theorem U110z : (U 110).zero = .v (.pointer none) := rfl
@[go_sem] theorem U111k : (U 111).k = .slice 5 := rfl
@[go_sem] theorem U111s : (U 111).sz = 1 := rfl
@[go_sem] theorem U111b : (U 111).bytes = 24 := rfl
@[go_sem] theorem U111z : (U 111).zero = .sl [] .full := rfl
@[go_sem] theorem U112k : (U 112).k = .strct [(0, 110), (1, 111)] := rfl
@[go_sem] theorem U112s : (U 112).sz = 2 := rfl
@[go_sem] theorem U112b : (U 112).bytes = 32 := rfl
@[go_sem] theorem U112z : (U 112).zero = .agg [.v (.pointer none), .sl [] .full] := rfl
@[go_sem] theorem U113k : (U 113).k = .strct [(0, 110), (1, 111)] := rfl
@[go_sem] theorem U113s : (U 113).sz = 2 := rfl
@[go_sem] theorem U113b : (U 113).bytes = 32 := rfl
@[go_sem] theorem U113z : (U 113).zero = .agg [.v (.pointer none), .sl [] .full] := rfl
@[go_sem] theorem U114k : (U 114).k = .other := rfl
@[go_sem] theorem U114s : (U 114).sz = 1 := rfl
@[go_sem] theorem U114b : (U 114).bytes = 8 := rfl
@[go_sem] theorem U114z : (U 114).zero = .v .nilFunc := rfl
@[go_sem] theorem U115k : (U 115).k = .iface := rfl
@[go_sem] theorem U115s : (U 115).sz = 1 := rfl
@[go_sem] theorem U115b : (U 115).bytes = 16 := rfl
@[go_sem] theorem U115z : (U 115).zero = .v .nilIface := rfl
@[go_sem] theorem U116k : (U 116).k = .iface := rfl
@[go_sem] theorem U116s : (U 116).sz = 1 := rfl
@[go_sem] theorem U116b : (U 116).bytes = 16 := rfl
@[go_sem] theorem U116z : (U 116).zero = .v .nilIface := rfl
@[go_sem] theorem U118k : (U 118).k = .other := rfl
@[go_sem] theorem U118s : (U 118).sz = 1 := rfl
@[go_sem] theorem U118b : (U 118).bytes = 8 := rfl
@[go_sem] theorem U118z : (U 118).zero = .v .nilFunc := rfl
@[go_sem] theorem U119k : (U 119).k = .other := rfl
@[go_sem] theorem U119s : (U 119).sz = 1 := rfl
@[go_sem] theorem U119b : (U 119).bytes = 8 := rfl
@[go_sem] theorem U119z : (U 119).zero = .v .nilFunc := rfl
@[go_sem] theorem U120k : (U 120).k = .other := rfl
@[go_sem] theorem U120s : (U 120).sz = 1 := rfl
@[go_sem] theorem U120b : (U 120).bytes = 8 := rfl
@[go_sem] theorem U120z : (U 120).zero = .v .nilFunc := rfl
@[go_sem] theorem U121k : (U 121).k = .other := rfl
@[go_sem] theorem U121s : (U 121).sz = 1 := rfl
@[go_sem] theorem U121b : (U 121).bytes = 8 := rfl
@[go_sem] theorem U121z : (U 121).zero = .v .nilFunc := rfl
@[go_sem] theorem U122k : (U 122).k = .other := rfl
@[go_sem] theorem U122s : (U 122).sz = 1 := rfl
@[go_sem] theorem U122b : (U 122).bytes = 8 := rfl
@[go_sem] theorem U122z : (U 122).zero = .v .nilFunc := rfl
@[go_sem] theorem U124k : (U 124).k = .other := rfl
@[go_sem] theorem U124s : (U 124).sz = 1 := rfl
@[go_sem] theorem U124b : (U 124).bytes = 8 := rfl
@[go_sem] theorem U124z : (U 124).zero = .v .nilFunc := rfl
@[go_sem] theorem U125k : (U 125).k = .other := rfl
@[go_sem] theorem U125s : (U 125).sz = 1 := rfl
@[go_sem] theorem U125b : (U 125).bytes = 8 := rfl
@[go_sem] theorem U125z : (U 125).zero = .v .nilFunc := rfl
@[go_sem] theorem U126k : (U 126).k = .other := rfl
@[go_sem] theorem U126s : (U 126).sz = 1 := rfl
@[go_sem] theorem U126b : (U 126).bytes = 8 := rfl
@[go_sem] theorem U126z : (U 126).zero = .v .nilFunc := rfl
@[go_sem] theorem U127k : (U 127).k = .other := rfl
@[go_sem] theorem U127s : (U 127).sz = 1 := rfl
@[go_sem] theorem U127b : (U 127).bytes = 8 := rfl
@[go_sem] theorem U127z : (U 127).zero = .v .nilFunc := rfl
@[go_sem] theorem U128k : (U 128).k = .other := rfl
@[go_sem] theorem U128s : (U 128).sz = 1 := rfl
@[go_sem] theorem U128b : (U 128).bytes = 8 := rfl
@[go_sem] theorem U128z : (U 128).zero = .v .nilFunc := rfl
@[go_sem] theorem U129k : (U 129).k = .other := rfl
@[go_sem] theorem U129s : (U 129).sz = 1 := rfl
@[go_sem] theorem U129b : (U 129).bytes = 8 := rfl
@[go_sem] theorem U129z : (U 129).zero = .v .nilFunc := rfl
@[go_sem] theorem U130k : (U 130).k = .other := rfl
@[go_sem] theorem U130s : (U 130).sz = 1 := rfl
@[go_sem] theorem U130b : (U 130).bytes = 8 := rfl
@[go_sem] theorem U130z : (U 130).zero = .v .nilFunc := rfl
@[go_sem] theorem U131k : (U 131).k = .other := rfl
@[go_sem] theorem U131s : (U 131).sz = 1 := rfl
@[go_sem] theorem U131b : (U 131).bytes = 8 := rfl
@[go_sem] theorem U131z : (U 131).zero = .v .nilFunc := rfl
@[go_sem] theorem U132k : (U 132).k = .other := rfl
@[go_sem] theorem U132s : (U 132).sz = 1 := rfl
@[go_sem] theorem U132b : (U 132).bytes = 8 := rfl
@[go_sem] theorem U132z : (U 132).zero = .v .nilFunc := rfl
@[go_sem] theorem U133k : (U 133).k = .other := rfl
@[go_sem] theorem U133s : (U 133).sz = 1 := rfl
@[go_sem] theorem U133b : (U 133).bytes = 8 := rfl
@[go_sem] theorem U133z : (U 133).zero = .v .nilFunc := rfl
@[go_sem] theorem U134k : (U 134).k = .int .u64 := rfl
@[go_sem] theorem U134s : (U 134).sz = 1 := rfl
@[go_sem] theorem U134b : (U 134).bytes = 8 := rfl
@[go_sem] theorem U134z : (U 134).zero = .v (.int .u64 0) := rfl
@[go_sem] theorem U135k : (U 135).k = .ptr 5 := rfl
@[go_sem] theorem U135s : (U 135).sz = 1 := rfl
@[go_sem] theorem U135b : (U 135).bytes = 8 := rfl
@[go_sem] theorem U135z : (U 135).zero = .v (.pointer none) := rfl
@[go_sem] theorem U136k : (U 136).k = .strct [] := rfl
@[go_sem] theorem U136s : (U 136).sz = 0 := rfl
@[go_sem] theorem U138k : (U 138).k = .other := rfl
@[go_sem] theorem U138s : (U 138).sz = 1 := rfl
@[go_sem] theorem U138b : (U 138).bytes = 8 := rfl
@[go_sem] theorem U138z : (U 138).zero = .v .nilFunc := rfl
@[go_sem] theorem U139k : (U 139).k = .other := rfl
@[go_sem] theorem U139s : (U 139).sz = 1 := rfl
@[go_sem] theorem U139b : (U 139).bytes = 8 := rfl
@[go_sem] theorem U139z : (U 139).zero = .v .nilFunc := rfl
@[go_sem] theorem U141k : (U 141).k = .other := rfl
@[go_sem] theorem U141s : (U 141).sz = 1 := rfl
@[go_sem] theorem U141b : (U 141).bytes = 8 := rfl
@[go_sem] theorem U141z : (U 141).zero = .v .nilFunc := rfl
@[go_sem] theorem U142k : (U 142).k = .other := rfl
@[go_sem] theorem U142s : (U 142).sz = 1 := rfl
@[go_sem] theorem U142b : (U 142).bytes = 8 := rfl
@[go_sem] theorem U142z : (U 142).zero = .v .nilFunc := rfl
@[go_sem] theorem U143k : (U 143).k = .other := rfl
@[go_sem] theorem U143s : (U 143).sz = 1 := rfl
@[go_sem] theorem U143b : (U 143).bytes = 8 := rfl
@[go_sem] theorem U143z : (U 143).zero = .v .nilFunc := rfl
@[go_sem] theorem U144k : (U 144).k = .other := rfl
@[go_sem] theorem U144s : (U 144).sz = 1 := rfl
@[go_sem] theorem U144b : (U 144).bytes = 8 := rfl
@[go_sem] theorem U144z : (U 144).zero = .v .nilFunc := rfl
@[go_sem] theorem U145k : (U 145).k = .other := rfl
@[go_sem] theorem U145s : (U 145).sz = 1 := rfl
@[go_sem] theorem U145b : (U 145).bytes = 8 := rfl
@[go_sem] theorem U145z : (U 145).zero = .v (.pointer none) := rfl
@[go_sem] theorem U146k : (U 146).k = .other := rfl
@[go_sem] theorem U146s : (U 146).sz = 1 := rfl
@[go_sem] theorem U146b : (U 146).bytes = 8 := rfl
@[go_sem] theorem U146z : (U 146).zero = .v .nilFunc := rfl
@[go_sem] theorem U147k : (U 147).k = .other := rfl
@[go_sem] theorem U147s : (U 147).sz = 1 := rfl
@[go_sem] theorem U147b : (U 147).bytes = 8 := rfl
@[go_sem] theorem U147z : (U 147).zero = .v .nilFunc := rfl
@[go_sem] theorem U148k : (U 148).k = .other := rfl
@[go_sem] theorem U148s : (U 148).sz = 1 := rfl
@[go_sem] theorem U148b : (U 148).bytes = 8 := rfl
@[go_sem] theorem U148z : (U 148).zero = .v .nilFunc := rfl
@[go_sem] theorem U149k : (U 149).k = .other := rfl
@[go_sem] theorem U149s : (U 149).sz = 1 := rfl
@[go_sem] theorem U149b : (U 149).bytes = 8 := rfl
@[go_sem] theorem U149z : (U 149).zero = .v .nilFunc := rfl
@[go_sem] theorem U150k : (U 150).k = .other := rfl
@[go_sem] theorem U150s : (U 150).sz = 1 := rfl
@[go_sem] theorem U150b : (U 150).bytes = 8 := rfl
@[go_sem] theorem U150z : (U 150).zero = .v .nilFunc := rfl
@[go_sem] theorem U151k : (U 151).k = .other := rfl
@[go_sem] theorem U151s : (U 151).sz = 1 := rfl
@[go_sem] theorem U151b : (U 151).bytes = 8 := rfl
@[go_sem] theorem U151z : (U 151).zero = .v .nilFunc := rfl
@[go_sem] theorem U152k : (U 152).k = .other := rfl
@[go_sem] theorem U152s : (U 152).sz = 1 := rfl
@[go_sem] theorem U152b : (U 152).bytes = 8 := rfl
@[go_sem] theorem U152z : (U 152).zero = .v .nilFunc := rfl
@[go_sem] theorem U154k : (U 154).k = .other := rfl
@[go_sem] theorem U154s : (U 154).sz = 1 := rfl
@[go_sem] theorem U154b : (U 154).bytes = 8 := rfl
@[go_sem] theorem U154z : (U 154).zero = .v .nilFunc := rfl
@[go_sem] theorem U155k : (U 155).k = .arr 24 5 := rfl
@[go_sem] theorem U155s : (U 155).sz = 24 := rfl
@[go_sem] theorem U155b : (U 155).bytes = 24 := rfl
@[go_sem] theorem U155z : (U 155).zero = .agg [.v (.int .u8 0), .v (.int .u8 0), .v (.int .u8 0), .v (.int .u8 0), .v (.int .u8 0), .v (.int .u8 0), .v (.int .u8 0), .v (.int .u8 0), .v (.int .u8 0), .v (.int .u8 0), .v (.int .u8 0), .v (.int .u8 0), .v (.int .u8 0), .v (.int .u8 0), .v (.int .u8 0), .v (.int .u8 0), .v (.int .u8 0), .v (.int .u8 0), .v (.int .u8 0), .v (.int .u8 0), .v (.int .u8 0), .v (.int .u8 0), .v (.int .u8 0), .v (.int .u8 0)] := rfl
@[go_sem] theorem U155e : (U 155).eq = some (1, [.int .u8, .int .u8, .int .u8, .int .u8, .int .u8, .int .u8, .int .u8, .int .u8, .int .u8, .int .u8, .int .u8, .int .u8, .int .u8, .int .u8, .int .u8, .int .u8, .int .u8, .int .u8, .int .u8, .int .u8, .int .u8, .int .u8, .int .u8, .int .u8]) := rfl
@[go_sem] theorem U156k : (U 156).k = .int .u64 := rfl
@[go_sem] theorem U156s : (U 156).sz = 1 := rfl
@[go_sem] theorem U156b : (U 156).bytes = 8 := rfl
@[go_sem] theorem U156z : (U 156).zero = .v (.int .u64 0) := rfl
@[go_sem] theorem U157k : (U 157).k = .other := rfl
@[go_sem] theorem U157s : (U 157).sz = 1 := rfl
@[go_sem] theorem U157b : (U 157).bytes = 8 := rfl
@[go_sem] theorem U157z : (U 157).zero = .v .nilFunc := rfl
@[go_sem] theorem U158k : (U 158).k = .other := rfl
@[go_sem] theorem U158s : (U 158).sz = 1 := rfl
@[go_sem] theorem U158b : (U 158).bytes = 8 := rfl
@[go_sem] theorem U158z : (U 158).zero = .v .nilFunc := rfl
@[go_sem] theorem U160k : (U 160).k = .other := rfl
@[go_sem] theorem U160s : (U 160).sz = 1 := rfl
@[go_sem] theorem U160b : (U 160).bytes = 8 := rfl
@[go_sem] theorem U160z : (U 160).zero = .v .nilFunc := rfl
@[go_sem] theorem U161k : (U 161).k = .other := rfl
@[go_sem] theorem U161s : (U 161).sz = 1 := rfl
@[go_sem] theorem U161b : (U 161).bytes = 8 := rfl
@[go_sem] theorem U161z : (U 161).zero = .v .nilFunc := rfl
@[go_sem] theorem U162k : (U 162).k = .int .i64 := rfl
@[go_sem] theorem U162s : (U 162).sz = 1 := rfl
@[go_sem] theorem U162b : (U 162).bytes = 8 := rfl
@[go_sem] theorem U162z : (U 162).zero = .v (.int .i64 0) := rfl
@[go_sem] theorem U164k : (U 164).k = .other := rfl
@[go_sem] theorem U164s : (U 164).sz = 1 := rfl
@[go_sem] theorem U164b : (U 164).bytes = 8 := rfl
@[go_sem] theorem U164z : (U 164).zero = .v .nilFunc := rfl
@[go_sem] theorem U165k : (U 165).k = .ptr 181 := rfl
@[go_sem] theorem U165s : (U 165).sz = 1 := rfl
@[go_sem] theorem U165b : (U 165).bytes = 8 := rfl
@[go_sem] theorem U165z : (U 165).zero = .v (.pointer none) := rfl
@[go_sem] theorem U166k : (U 166).k = .other := rfl
@[go_sem] theorem U166s : (U 166).sz = 1 := rfl
@[go_sem] theorem U166b : (U 166).bytes = 8 := rfl
@[go_sem] theorem U166z : (U 166).zero = .v .nilFunc := rfl
@[go_sem] theorem U167k : (U 167).k = .other := rfl
@[go_sem] theorem U167s : (U 167).sz = 1 := rfl
@[go_sem] theorem U167b : (U 167).bytes = 8 := rfl
@[go_sem] theorem U167z : (U 167).zero = .v .nilFunc := rfl
@[go_sem] theorem U168k : (U 168).k = .other := rfl
@[go_sem] theorem U168s : (U 168).sz = 1 := rfl
@[go_sem] theorem U168b : (U 168).bytes = 8 := rfl
@[go_sem] theorem U168z : (U 168).zero = .v .nilFunc := rfl
@[go_sem] theorem U169k : (U 169).k = .other := rfl
@[go_sem] theorem U169s : (U 169).sz = 1 := rfl
@[go_sem] theorem U169b : (U 169).bytes = 8 := rfl
@[go_sem] theorem U169z : (U 169).zero = .v .nilFunc := rfl
@[go_sem] theorem U171k : (U 171).k = .other := rfl
@[go_sem] theorem U171s : (U 171).sz = 1 := rfl
@[go_sem] theorem U171b : (U 171).bytes = 8 := rfl
@[go_sem] theorem U171z : (U 171).zero = .v .nilFunc := rfl
@[go_sem] theorem U172k : (U 172).k = .other := rfl
@[go_sem] theorem U172s : (U 172).sz = 1 := rfl
@[go_sem] theorem U172b : (U 172).bytes = 8 := rfl
@[go_sem] theorem U172z : (U 172).zero = .v .nilFunc := rfl
@[go_sem] theorem U173k : (U 173).k = .other := rfl
@[go_sem] theorem U173s : (U 173).sz = 1 := rfl
@[go_sem] theorem U173b : (U 173).bytes = 8 := rfl
@[go_sem] theorem U173z : (U 173).zero = .v .nilFunc := rfl
@[go_sem] theorem U174k : (U 174).k = .arr 20 156 := rfl
@[go_sem] theorem U174s : (U 174).sz = 20 := rfl
@[go_sem] theorem U174b : (U 174).bytes = 160 := rfl
@[go_sem] theorem U174z : (U 174).zero = .agg [.v (.int .u64 0), .v (.int .u64 0), .v (.int .u64 0), .v (.int .u64 0), .v (.int .u64 0), .v (.int .u64 0), .v (.int .u64 0), .v (.int .u64 0), .v (.int .u64 0), .v (.int .u64 0), .v (.int .u64 0), .v (.int .u64 0), .v (.int .u64 0), .v (.int .u64 0), .v (.int .u64 0), .v (.int .u64 0), .v (.int .u64 0), .v (.int .u64 0), .v (.int .u64 0), .v (.int .u64 0)] := rfl
@[go_sem] theorem U174e : (U 174).eq = some (1, [.int .u64, .int .u64, .int .u64, .int .u64, .int .u64, .int .u64, .int .u64, .int .u64, .int .u64, .int .u64, .int .u64, .int .u64, .int .u64, .int .u64, .int .u64, .int .u64, .int .u64, .int .u64, .int .u64, .int .u64]) := rfl
@[go_sem] theorem U175k : (U 175).k = .int .u32 := rfl
@[go_sem] theorem U175s : (U 175).sz = 1 := rfl
@[go_sem] theorem U175b : (U 175).bytes = 4 := rfl
@[go_sem] theorem U175z : (U 175).zero = .v (.int .u32 0) := rfl
@[go_sem] theorem U176k : (U 176).k = .arr 65 5 := rfl
@[go_sem] theorem U176s : (U 176).sz = 65 := rfl
@[go_sem] theorem U176b : (U 176).bytes = 65 := rfl
@[go_sem] theorem U176z : (U 176).zero = .agg [.v (.int .u8 0), .v (.int .u8 0), .v (.int .u8 0), .v (.int .u8 0), .v (.int .u8 0), .v (.int .u8 0), .v (.int .u8 0), .v (.int .u8 0), .v (.int .u8 0), .v (.int .u8 0), .v (.int .u8 0), .v (.int .u8 0), .v (.int .u8 0), .v (.int .u8 0), .v (.int .u8 0), .v (.int .u8 0), .v (.int .u8 0), .v (.int .u8 0), .v (.int .u8 0), .v (.int .u8 0), .v (.int .u8 0), .v (.int .u8 0), .v (.int .u8 0), .v (.int .u8 0), .v (.int .u8 0), .v (.int .u8 0), .v (.int .u8 0), .v (.int .u8 0), .v (.int .u8 0), .v (.int .u8 0), .v (.int .u8 0), .v (.int .u8 0), .v (.int .u8 0), .v (.int .u8 0), .v (.int .u8 0), .v (.int .u8 0), .v (.int .u8 0), .v (.int .u8 0), .v (.int .u8 0), .v (.int .u8 0), .v (.int .u8 0), .v (.int .u8 0), .v (.int .u8 0), .v (.int .u8 0), .v (.int .u8 0), .v (.int .u8 0), .v (.int .u8 0), .v (.int .u8 0), .v (.int .u8 0), .v (.int .u8 0), .v (.int .u8 0), .v (.int .u8 0), .v (.int .u8 0), .v (.int .u8 0), .v (.int .u8 0), .v (.int .u8 0), .v (.int .u8 0), .v (.int .u8 0), .v (.int .u8 0), .v (.int .u8 0), .v (.int .u8 0), .v (.int .u8 0), .v (.int .u8 0), .v (.int .u8 0), .v (.int .u8 0)] := rfl
@[go_sem] theorem U177k : (U 177).k = .other := rfl
@[go_sem] theorem U177s : (U 177).sz = 1 := rfl
@[go_sem] theorem U177b : (U 177).bytes = 8 := rfl
@[go_sem] theorem U177z : (U 177).zero = .v .nilFunc := rfl
@[go_sem] theorem U179k : (U 179).k = .other := rfl
@[go_sem] theorem U179s : (U 179).sz = 1 := rfl
@[go_sem] theorem U179b : (U 179).bytes = 8 := rfl
@[go_sem] theorem U179z : (U 179).zero = .v .nilFunc := rfl
@[go_sem] theorem U180k : (U 180).k = .strct [(0, 9), (1, 9), (2, 116)] := rfl
@[go_sem] theorem U180s : (U 180).sz = 3 := rfl
@[go_sem] theorem U180b : (U 180).bytes = 48 := rfl
@[go_sem] theorem U180z : (U 180).zero = .agg [.s [], .s [], .v .nilIface] := rfl
@[go_sem] theorem U181k : (U 181).k = .strct [(0, 9), (1, 9), (2, 116)] := rfl
@[go_sem] theorem U181s : (U 181).sz = 3 := rfl
@[go_sem] theorem U181b : (U 181).bytes = 48 := rfl
@[go_sem] theorem U181z : (U 181).zero = .agg [.s [], .s [], .v .nilIface] := rfl
@[go_sem] theorem U182k : (U 182).k = .other := rfl
@[go_sem] theorem U182s : (U 182).sz = 1 := rfl
@[go_sem] theorem U182b : (U 182).bytes = 8 := rfl
@[go_sem] theorem U182z : (U 182).zero = .v .nilFunc := rfl
@[go_sem] theorem U183k : (U 183).k = .other := rfl
@[go_sem] theorem U183s : (U 183).sz = 1 := rfl
@[go_sem] theorem U183b : (U 183).bytes = 8 := rfl
@[go_sem] theorem U183z : (U 183).zero = .v .nilFunc := rfl
@[go_sem] theorem U184k : (U 184).k = .other := rfl
@[go_sem] theorem U184s : (U 184).sz = 1 := rfl
@[go_sem] theorem U184b : (U 184).bytes = 8 := rfl
@[go_sem] theorem U184z : (U 184).zero = .v .nilFunc := rfl
@[go_sem] theorem U185k : (U 185).k = .other := rfl
@[go_sem] theorem U185s : (U 185).sz = 1 := rfl
@[go_sem] theorem U185b : (U 185).bytes = 8 := rfl
@[go_sem] theorem U185z : (U 185).zero = .v .nilFunc := rfl
@[go_sem] theorem U186k : (U 186).k = .ptr 188 := rfl
@[go_sem] theorem U186s : (U 186).sz = 1 := rfl
@[go_sem] theorem U186b : (U 186).bytes = 8 := rfl
@[go_sem] theorem U186z : (U 186).zero = .v (.pointer none) := rfl
@[go_sem] theorem U187k : (U 187).k = .strct [(0, 9)] := rfl
@[go_sem] theorem U187s : (U 187).sz = 1 := rfl
@[go_sem] theorem U187b : (U 187).bytes = 16 := rfl
@[go_sem] theorem U187z : (U 187).zero = .agg [.s []] := rfl
@[go_sem] theorem U187e : (U 187).eq = some (1, [.str]) := rfl
@[go_sem] theorem U188k : (U 188).k = .strct [(0, 9)] := rfl
@[go_sem] theorem U188s : (U 188).sz = 1 := rfl
@[go_sem] theorem U188b : (U 188).bytes = 16 := rfl
@[go_sem] theorem U188z : (U 188).zero = .agg [.s []] := rfl
@[go_sem] theorem U188e : (U 188).eq = some (1, [.str]) := rfl
@[go_sem] theorem U189k : (U 189).k = .arr 32 5 := rfl
@[go_sem] theorem U189s : (U 189).sz = 32 := rfl
@[go_sem] theorem U189b : (U 189).bytes = 32 := rfl
@[go_sem] theorem U189z : (U 189).zero = .agg [.v (.int .u8 0), .v (.int .u8 0), .v (.int .u8 0), .v (.int .u8 0), .v (.int .u8 0), .v (.int .u8 0), .v (.int .u8 0), .v (.int .u8 0), .v (.int .u8 0), .v (.int .u8 0), .v (.int .u8 0), .v (.int .u8 0), .v (.int .u8 0), .v (.int .u8 0), .v (.int .u8 0), .v (.int .u8 0), .v (.int .u8 0), .v (.int .u8 0), .v (.int .u8 0), .v (.int .u8 0), .v (.int .u8 0), .v (.int .u8 0), .v (.int .u8 0), .v (.int .u8 0), .v (.int .u8 0), .v (.int .u8 0), .v (.int .u8 0), .v (.int .u8 0), .v (.int .u8 0), .v (.int .u8 0), .v (.int .u8 0), .v (.int .u8 0)] := rfl
@[go_sem] theorem U189e : (U 189).eq = some (1, [.int .u8, .int .u8, .int .u8, .int .u8, .int .u8, .int .u8, .int .u8, .int .u8, .int .u8, .int .u8, .int .u8, .int .u8, .int .u8, .int .u8, .int .u8, .int .u8, .int .u8, .int .u8, .int .u8, .int .u8, .int .u8, .int .u8, .int .u8, .int .u8, .int .u8, .int .u8, .int .u8, .int .u8, .int .u8, .int .u8, .int .u8, .int .u8]) := rfl
@[go_sem] theorem U190k : (U 190).k = .arr 64 5 := rfl
@[go_sem] theorem U190s : (U 190).sz = 64 := rfl
@[go_sem] theorem U190b : (U 190).bytes = 64 := rfl
@[go_sem] theorem U190z : (U 190).zero = .agg [.v (.int .u8 0), .v (.int .u8 0), .v (.int .u8 0), .v (.int .u8 0), .v (.int .u8 0), .v (.int .u8 0), .v (.int .u8 0), .v (.int .u8 0), .v (.int .u8 0), .v (.int .u8 0), .v (.int .u8 0), .v (.int .u8 0), .v (.int .u8 0), .v (.int .u8 0), .v (.int .u8 0), .v (.int .u8 0), .v (.int .u8 0), .v (.int .u8 0), .v (.int .u8 0), .v (.int .u8 0), .v (.int .u8 0), .v (.int .u8 0), .v (.int .u8 0), .v (.int .u8 0), .v (.int .u8 0), .v (.int .u8 0), .v (.int .u8 0), .v (.int .u8 0), .v (.int .u8 0), .v (.int .u8 0), .v (.int .u8 0), .v (.int .u8 0), .v (.int .u8 0), .v (.int .u8 0), .v (.int .u8 0), .v (.int .u8 0), .v (.int .u8 0), .v (.int .u8 0), .v (.int .u8 0), .v (.int .u8 0), .v (.int .u8 0), .v (.int .u8 0), .v (.int .u8 0), .v (.int .u8 0), .v (.int .u8 0), .v (.int .u8 0), .v (.int .u8 0), .v (.int .u8 0), .v (.int .u8 0), .v (.int .u8 0), .v (.int .u8 0), .v (.int .u8 0), .v (.int .u8 0), .v (.int .u8 0), .v (.int .u8 0), .v (.int .u8 0), .v (.int .u8 0), .v (.int .u8 0), .v (.int .u8 0), .v (.int .u8 0), .v (.int .u8 0), .v (.int .u8 0), .v (.int .u8 0), .v (.int .u8 0)] := rfl
@[go_sem] theorem U191k : (U 191).k = .strct [(0, 17), (1, 17), (2, 17), (3, 9)] := rfl
@[go_sem] theorem U191s : (U 191).sz = 4 := rfl
@[go_sem] theorem U191b : (U 191).bytes = 40 := rfl
@[go_sem] theorem U191z : (U 191).zero = .agg [.v (.pointer none), .v (.pointer none), .v (.pointer none), .s []] := rfl
@[go_sem] theorem U192k : (U 192).k = .strct [(0, 17), (1, 17), (2, 17), (3, 9)] := rfl
@[go_sem] theorem U192s : (U 192).sz = 4 := rfl
@[go_sem] theorem U192b : (U 192).bytes = 40 := rfl
@[go_sem] theorem U192z : (U 192).zero = .agg [.v (.pointer none), .v (.pointer none), .v (.pointer none), .s []] := rfl
@[go_sem] theorem U193k : (U 193).k = .arr 0 16 := rfl
@[go_sem] theorem U193s : (U 193).sz = 0 := rfl
@[go_sem] theorem U196k : (U 196).k = .other := rfl
@[go_sem] theorem U196s : (U 196).sz = 1 := rfl
@[go_sem] theorem U196b : (U 196).bytes = 8 := rfl
@[go_sem] theorem U196z : (U 196).zero = .v .nilFunc := rfl
@[go_sem] theorem U197k : (U 197).k = .int .u8 := rfl
@[go_sem] theorem U197s : (U 197).sz = 1 := rfl
@[go_sem] theorem U197b : (U 197).bytes = 1 := rfl
@[go_sem] theorem U197z : (U 197).zero = .v (.int .u8 0) := rfl
@[go_sem] theorem U198k : (U 198).k = .int .u8 := rfl
@[go_sem] theorem U198s : (U 198).sz = 1 := rfl
@[go_sem] theorem U198b : (U 198).bytes = 1 := rfl
@[go_sem] theorem U198z : (U 198).zero = .v (.int .u8 0) := rfl
@[go_sem] theorem U199k : (U 199).k = .other := rfl
@[go_sem] theorem U199s : (U 199).sz = 1 := rfl
@[go_sem] theorem U199b : (U 199).bytes = 8 := rfl
@[go_sem] theorem U199z : (U 199).zero = .v .nilFunc := rfl
@[go_sem] theorem U200k : (U 200).k = .int .i32 := rfl
@[go_sem] theorem U200s : (U 200).sz = 1 := rfl
@[go_sem] theorem U200b : (U 200).bytes = 4 := rfl
@[go_sem] theorem U200z : (U 200).zero = .v (.int .i32 0) := rfl
@[go_sem] theorem U201k : (U 201).k = .int .i32 := rfl
@[go_sem] theorem U201s : (U 201).sz = 1 := rfl
@[go_sem] theorem U201b : (U 201).bytes = 4 := rfl
@[go_sem] theorem U201z : (U 201).zero = .v (.int .i32 0) := rfl
@[go_sem] theorem U202k : (U 202).k = .strct [(0, 12), (1, 12), (2, 175), (3, 197), (4, 5), (5, 5), (6, 198), (7, 199), (8, 135), (9, 200), (10, 201)] := rfl
@[go_sem] theorem U202s : (U 202).sz = 11 := rfl
@[go_sem] theorem U202b : (U 202).bytes = 48 := rfl
@[go_sem] theorem U202z : (U 202).zero = .agg [.v (.int .u64 0), .v (.int .u64 0), .v (.int .u32 0), .v (.int .u8 0), .v (.int .u8 0), .v (.int .u8 0), .v (.int .u8 0), .v .nilFunc, .v (.pointer none), .v (.int .i32 0), .v (.int .i32 0)] := rfl
@[go_sem] theorem U203k : (U 203).k = .strct [(0, 12), (1, 12), (2, 175), (3, 197), (4, 5), (5, 5), (6, 198), (7, 199), (8, 135), (9, 200), (10, 201)] := rfl
@[go_sem] theorem U203s : (U 203).sz = 11 := rfl
@[go_sem] theorem U203b : (U 203).bytes = 48 := rfl
@[go_sem] theorem U203z : (U 203).zero = .agg [.v (.int .u64 0), .v (.int .u64 0), .v (.int .u32 0), .v (.int .u8 0), .v (.int .u8 0), .v (.int .u8 0), .v (.int .u8 0), .v .nilFunc, .v (.pointer none), .v (.int .i32 0), .v (.int .i32 0)] := rfl
theorem hU : ∀ t, AgreeT Tryz.prog U t := agree_all 204 (by kernel_rfl) fun t ht => by
  unfold U
  rw [List.getD_eq_getElem?_getD, List.getElem?_eq_none (show tyRows.length ≤ t from ht)]
  rfl
theorem hm : Tryz.prog.follows .mixedOrders = true := by kernel_rfl
end Go.Proofs.YtdcchpbncckhlaaGreatDoor

set_option linter.unusedVariables false
namespace Go.Proofs
open Go.Shelf
def Tryz.lays156_ren : Go.Shelf.Ren := ⟨fun | 156 => 28 | 165 => 54 | 166 => 55 | 169 => 56 | 240 => 78 | 241 => 79 | 276 => 90 | 277 => 91 | n => n, fun | 31 => 78 | 9 => 9 | 3 => 3 | 4 => 4 | 0 => 0 | 20 => 20 | 72 => 113 | 76 => 117 | 70 => 110 | 37 => 111 | 75 => 116 | 127 => 135 | 164 => 145 | 5 => 5 | 80 => 96 | n => n, fun | n => n⟩
theorem Tryz.lays156 : Go.Proofs.Lays.n156 Tryz.prog Tryz.lays156_ren := {
  mixed := by kernel_rfl
  f156 := Tryz.func28.trans (congrArg some (by kernel_rfl))
  f165 := Tryz.func54.trans (congrArg some (by kernel_rfl))
  f166 := Tryz.func55.trans (congrArg some (by kernel_rfl))
  f169 := Tryz.func56.trans (congrArg some (by kernel_rfl))
  f240 := Tryz.func78.trans (congrArg some (by kernel_rfl))
  f241 := Tryz.func79.trans (congrArg some (by kernel_rfl))
  f276 := Tryz.func90.trans (congrArg some (by kernel_rfl))
  f277 := Tryz.func91.trans (congrArg some (by kernel_rfl))
  t0 := Tryz.underlying0
  a0 := Tryz.isAgg0
  z0 := Tryz.sizeOf0
  v0 := Tryz.zeroValue0
  t3 := Tryz.underlying3
  a3 := Tryz.isAgg3
  z3 := Tryz.sizeOf3
  v3 := Tryz.zeroValue3
  t4 := Tryz.underlying4
  a4 := Tryz.isAgg4
  z4 := Tryz.sizeOf4
  v4 := Tryz.zeroValue4
  t9 := Tryz.underlying9
  a9 := Tryz.isAgg9
  z9 := Tryz.sizeOf9
  v9 := Tryz.zeroValue9
  t20 := Tryz.underlying20
  a20 := Tryz.isAgg20
  z20 := Tryz.sizeOf20
  v20 := Tryz.zeroValue20
  t31 := Tryz.underlying78
  a31 := Tryz.isAgg78
  z31 := Tryz.sizeOf78
  v31 := Tryz.zeroValue78
  t37 := Tryz.underlying111
  a37 := Tryz.isAgg111
  z37 := Tryz.sizeOf111
  v37 := Tryz.zeroValue111
  t70 := Tryz.underlying110
  a70 := Tryz.isAgg110
  z70 := Tryz.sizeOf110
  v70 := Tryz.zeroValue110
  t72 := Tryz.underlying113
  a72 := Tryz.isAgg113
  z72 := Tryz.sizeOf113
  v72 := Tryz.zeroValue113
  t75 := Tryz.underlying116
  a75 := Tryz.isAgg116
  z75 := Tryz.sizeOf116
  v75 := Tryz.zeroValue116
  t76 := Tryz.underlying117
  a76 := Tryz.isAgg117
  z76 := Tryz.sizeOf117
  v76 := Tryz.zeroValue117
  t127 := Tryz.underlying135
  a127 := Tryz.isAgg135
  z127 := Tryz.sizeOf135
  v127 := Tryz.zeroValue135
  t164 := Tryz.underlying145
  a164 := Tryz.isAgg145
  z164 := Tryz.sizeOf145
  v164 := Tryz.zeroValue145 }
theorem Tryz.Builder_Extra_156 : Builder.Extra Tryz.prog Tryz.lays156_ren := {
  sizeBuilder := by kernel_rfl
  liesBuilder := by kernel_rfl
  t5 := Tryz.underlying5
  a5 := Tryz.isAgg5
  z5 := Tryz.sizeOf5
  v5 := Tryz.zeroValue5
  infoByte := by kernel_rfl
  cellsByte := by kernel_rfl
  sizeByte := by kernel_rfl
  neB5 := by decide }
open Go.RowKit in
theorem Tryz.strings_Join_none (a : Option Addr) (c : Nat) (sep : ByteArray) (w : World) :
    Calls Tryz.prog 28 #[.slice a 0 c, .string sep] w fun e w' => e = .returned (.string ⟨#[]⟩) ∧ w' = w := Any.strings_Join_none Tryz.lays156 Tryz.Builder_Extra_156 a c sep w
open Go.RowKit in
theorem Tryz.strings_Join (bk o c : Nat) (xs : List ByteArray) (sep : ByteArray) (w : World) (hcells : ∀ (j : Nat) x, xs[j]? = some x → w.cell? ⟨bk, o + j, none⟩ = some (.string x)) (hbk : bk < w.heap.size) (hN : xs.length ≤ 140737488355328) (hcap : xs.length ≤ c) (hlen : (Lib.join (xs.map (·.data.toList)) sep.data.toList).length ≤ 140737488355328) :
    Calls Tryz.prog 28 #[.slice (some ⟨bk, o, none⟩) xs.length c, .string sep] w fun e w' => e = .returned (.string ⟨(Lib.join (xs.map (·.data.toList)) sep.data.toList).toArray⟩) ∧ Below w.heap.size w w' := Any.strings_Join Tryz.lays156 Tryz.Builder_Extra_156 bk o c xs sep w hcells hbk hN hcap hlen
def Tryz.lays121_ren : Go.Shelf.Ren := ⟨fun | 121 => 50 | 214 => 75 | n => n, fun | 4 => 4 | 9 => 9 | n => n, fun | n => n⟩
theorem Tryz.lays121 : Go.Proofs.Lays.n121 Tryz.prog Tryz.lays121_ren := {
  mixed := by kernel_rfl
  f121 := Tryz.func50.trans (congrArg some (by kernel_rfl))
  f214 := Tryz.func75.trans (congrArg some (by kernel_rfl))
  t4 := Tryz.underlying4
  a4 := Tryz.isAgg4
  z4 := Tryz.sizeOf4
  v4 := Tryz.zeroValue4
  t9 := Tryz.underlying9
  a9 := Tryz.isAgg9
  z9 := Tryz.sizeOf9
  v9 := Tryz.zeroValue9 }
open Go.RowKit in
theorem Tryz.strconv_FormatBool (b : Bool) (w : World) :
    Calls Tryz.prog 50 #[.bool b] w fun e w' => e = .returned (.string ⟨(Lib.formatBool b).toArray⟩) ∧ w' = w := Any.strconv_FormatBool Tryz.lays121 b w
def Tryz.laysM171_ren : Go.Shelf.Ren := ⟨fun | 171 => 51 | 243 => 76 | 246 => 89 | 283 => 100 | 284 => 101 | 285 => 102 | 286 => 103 | 129 => 114 | 317 => 113 | 318 => 115 | 319 => 116 | 320 => 117 | 337 => 122 | 338 => 123 | n => n, fun | 3 => 3 | 9 => 9 | 2 => 2 | 4 => 4 | 171 => 155 | 0 => 0 | 53 => 156 | 37 => 111 | 5 => 5 | 173 => 159 | 212 => 174 | 51 => 175 | 20 => 20 | 213 => 176 | 46 => 134 | 232 => 189 | 233 => 190 | n => n, fun | 17 => 1 | 18 => 4 | 19 => 5 | n => n⟩
theorem Tryz.laysM171 : Go.Proofs.LaysM.n171 Tryz.prog Tryz.laysM171_ren := {
  mixed := by kernel_rfl
  f129 := Tryz.func114.trans (congrArg some (by kernel_rfl))
  f171 := Tryz.func51.trans (congrArg some (by kernel_rfl))
  f243 := Tryz.func76.trans (congrArg some (by kernel_rfl))
  f246 := Tryz.func89.trans (congrArg some (by kernel_rfl))
  f283 := Tryz.func100.trans (congrArg some (by kernel_rfl))
  f284 := Tryz.func101.trans (congrArg some (by kernel_rfl))
  f285 := Tryz.func102.trans (congrArg some (by kernel_rfl))
  f286 := Tryz.func103.trans (congrArg some (by kernel_rfl))
  f317 := Tryz.func113.trans (congrArg some (by kernel_rfl))
  f318 := Tryz.func115.trans (congrArg some (by kernel_rfl))
  f319 := Tryz.func116.trans (congrArg some (by kernel_rfl))
  f320 := Tryz.func117.trans (congrArg some (by kernel_rfl))
  f337 := Tryz.func122.trans (congrArg some (by kernel_rfl))
  f338 := Tryz.func123.trans (congrArg some (by kernel_rfl))
  t0 := Tryz.underlying0
  a0 := Tryz.isAgg0
  z0 := Tryz.sizeOf0
  v0 := Tryz.zeroValue0
  t2 := Tryz.underlying2
  a2 := Tryz.isAgg2
  z2 := Tryz.sizeOf2
  v2 := Tryz.zeroValue2
  t3 := Tryz.underlying3
  a3 := Tryz.isAgg3
  z3 := Tryz.sizeOf3
  v3 := Tryz.zeroValue3
  t4 := Tryz.underlying4
  a4 := Tryz.isAgg4
  z4 := Tryz.sizeOf4
  v4 := Tryz.zeroValue4
  t5 := Tryz.underlying5
  a5 := Tryz.isAgg5
  z5 := Tryz.sizeOf5
  v5 := Tryz.zeroValue5
  t9 := Tryz.underlying9
  a9 := Tryz.isAgg9
  z9 := Tryz.sizeOf9
  v9 := Tryz.zeroValue9
  t20 := Tryz.underlying20
  a20 := Tryz.isAgg20
  z20 := Tryz.sizeOf20
  v20 := Tryz.zeroValue20
  t37 := Tryz.underlying111
  a37 := Tryz.isAgg111
  z37 := Tryz.sizeOf111
  v37 := Tryz.zeroValue111
  t46 := Tryz.underlying134
  a46 := Tryz.isAgg134
  z46 := Tryz.sizeOf134
  v46 := Tryz.zeroValue134
  t51 := Tryz.underlying175
  a51 := Tryz.isAgg175
  z51 := Tryz.sizeOf175
  v51 := Tryz.zeroValue175
  t53 := Tryz.underlying156
  a53 := Tryz.isAgg156
  z53 := Tryz.sizeOf156
  v53 := Tryz.zeroValue156
  t171 := Tryz.underlying155
  a171 := Tryz.isAgg155
  z171 := Tryz.sizeOf155
  v171 := Tryz.zeroValue155
  t173 := Tryz.underlying159
  a173 := Tryz.isAgg159
  z173 := Tryz.sizeOf159
  v173 := Tryz.zeroValue159
  t212 := Tryz.underlying174
  a212 := Tryz.isAgg174
  z212 := Tryz.sizeOf174
  v212 := Tryz.zeroValue174
  t213 := Tryz.underlying176
  a213 := Tryz.isAgg176
  z213 := Tryz.sizeOf176
  t232 := Tryz.underlying189
  a232 := Tryz.isAgg189
  z232 := Tryz.sizeOf189
  v232 := Tryz.zeroValue189
  t233 := Tryz.underlying190
  a233 := Tryz.isAgg190
  z233 := Tryz.sizeOf190
  v233 := Tryz.zeroValue190
  g17 := by kernel_rfl
  g18 := by kernel_rfl
  g19 := by kernel_rfl
  i0 := by kernel_rfl
  i2 := by kernel_rfl
  i3 := by kernel_rfl
  i4 := by kernel_rfl
  i5 := by kernel_rfl
  i9 := by kernel_rfl
  i20 := by kernel_rfl
  i37 := by kernel_rfl
  i46 := by kernel_rfl
  i51 := by kernel_rfl
  i53 := by kernel_rfl
  i171 := by kernel_rfl
  i173 := by kernel_rfl
  i212 := by kernel_rfl
  i232 := by kernel_rfl
  i233 := by kernel_rfl
  m17 := by kernel_rfl
  m18 := by kernel_rfl
  m19 := by kernel_rfl }
open Go.RowKit Go.Sort Go.Lib in
theorem Tryz.strconv_Itoa (n : Int) (h0 : -9223372036854775808 ≤ n) (h1 : n ≤ 9223372036854775807) (w : World) (htab : Lib.TabIs Tryz.prog w "internal/strconv.uint64pow10" .u64 Lib.pow10Tab) :
    Calls Tryz.prog 51 #[.int .i64 n] w fun e w' => e = .returned (.string ⟨(Lib.itoa n).toArray⟩) ∧ ∃ k os, w' = grow (w.drewN k) os := Any.strconv_Itoa Tryz.laysM171 n h0 h1 w htab
end Go.Proofs

set_option linter.unusedSimpArgs false
set_option linter.unusedVariables false
namespace Go.Ab
open Go
def hm2 (i : Nat) (a : Blk) (j : Nat) (b : Blk) : Heap := upd (hm1 i a) j (some b)
theorem Sub.hm2 {h : Heap} {i j : Nat} {a b : Blk} (h1 : h i = some a) (h2 : h j = some b) : Sub (hm2 i a j b) h := fun k c hk => by
  unfold Ab.hm2 at hk
  by_cases e : k = j
  · subst e; rw [upd_same] at hk; cases hk; exact h2
  · rw [upd_other _ _ e] at hk; exact Sub.hm1 h1 k c hk
theorem ne_upd {h : Heap} {i j : Nat} {b : Blk} (e : upd h i (some b) j = none) : j ≠ i := fun hh => by
  subst hh; rw [upd_same] at e; cases e
theorem Sub.put {h g : Heap} (hs : Sub h g) {i : Nat} (hi : h i = Option.none) (x : Option Blk) : Sub h (Ab.upd g i x) := fun k c hk => by
  by_cases e : k = i
  · subst e; rw [hi] at hk; cases hk
  · rw [upd_other _ _ e]; exact hs k c hk
theorem Sub.both {h g : Heap} (hs : Sub h g) (i : Nat) (x : Option Blk) : Sub (Ab.upd h i x) (Ab.upd g i x) := fun k c hk => by
  by_cases e : k = i
  · subst e; rw [upd_same] at hk ⊢; exact hk
  · rw [upd_other _ _ e] at hk ⊢; exact hs k c hk
theorem Acc.put {U : TypeId → TI} {e : TypeId} {h h' : Heap} {y : AV} {xs : List AV} (ha : Acc U e h h' y xs) {id : Nat} (hid : h id = Option.none) {cs : List AV} {t : TypeId} (hob : h' id = some (.obj cs t)) (x : Option Blk) : Acc U e h (Ab.upd h' id x) y xs := by
  obtain ⟨h1, rfl | ⟨k, i1, rfl, i2⟩⟩ := ha
  · exact ⟨h1.put hid x, .inl rfl⟩
  · refine ⟨h1.put hid x, .inr ⟨k, i1, rfl, ?_⟩⟩
    rw [upd_other _ _ fun e => ?_]
    · exact i2
    · subst e; rw [hob] at i2; cases i2
theorem base_start (G : Heap) (id : Nat) (x : Option Blk) : Sub (upd G id Option.none) (upd G id x) := fun k c hk => by
  by_cases e : k = id
  · subst e; rw [upd_same] at hk; cases hk
  · rw [upd_other _ _ e] at hk ⊢; exact hk
theorem base_end {G H : Heap} {id : Nat} {b : Blk} (hs : Sub (upd G id Option.none) H) (hb : H id = some b) : Sub (upd G id (some b)) H := fun k c hk => by
  by_cases e : k = id
  · subst e; rw [upd_same] at hk; cases hk; exact hb
  · rw [upd_other _ _ e] at hk; exact hs k c (by rw [upd_other _ _ e]; exact hk)
theorem weak_tup3 (xs : List AV) (q : Perm) (a b : AV) : Weak (.tup [.sl xs q, a, b]) (.tup [.sl xs .no, a, b]) := .tup _ _ rfl fun i h1 h2 => by
  rcases i with _ | _ | _ | i
  · exact .sl _ _
  · exact .refl _
  · exact .refl _
  · simp at h1; omega
theorem WP.scope2 {P : Program} {U : TypeId → TI} {n : Nat} (hU : ∀ t, AgreeT P U t) (hm : P.follows .mixedOrders = true) {c rest : Code} {ρ : Env} {h : Heap} {K : Exit → Env → Heap → Prop} (l : Nat) (J : Nat → Env → Heap → Prop) (hf : findLabel c l = some (.seq .skip rest))
    (pass : ∀ m ρ h, J m ρ h → WP P n rest ρ h (KJump l (fun ρ' h' => ∃ m', m' < m ∧ J m' ρ' h') K))
    (first : (∀ m ρ h, J m ρ h → WP P n rest ρ h (KJump l (fun ρ h => ∃ m, J m ρ h) K)) → WP P n c ρ h (KJump l (fun ρ h => ∃ m, J m ρ h) K)) : WP P n (.scope c) ρ h K :=
  WP.scope l J hf (first fun m ρ h hJ => (pass m ρ h hJ).weaken fun e ρ h hk => by
    cases e with
    | goto l' => obtain ⟨h1, m', _, h2⟩ := hk; exact ⟨h1, m', h2⟩
    | _ => exact hk) fun m ρ h hJ => WP.seq (vcCode_sound hU hm .skip ρ h _ (pass m ρ h hJ))
end Go.Ab

namespace Go.Ab
attribute [go_sem] Int.natCast_zero Int.ofNat_zero Int.natCast_one Int.cast_ofNat_Int bne_self_eq_false beq_self_eq_true Bool.not_true Bool.not_false
attribute [go_sem] Nat.reduceLT Nat.reduceEqDiff Nat.reduceAdd Nat.reduceLeDiff Nat.reduceMul Nat.reduceSub Int.reduceBEq Int.reduceBNe
attribute [go_sem ↓] reduceIte
end Go.Ab

set_option linter.unusedSimpArgs false
set_option linter.unusedVariables false
namespace Go.Proofs.YtdcchpbncckhlaaGreatDoor
open Go Go.Ab Go.Bf
theorem u9 : (U 9).sz = 1 := by simp only [go_sem]
theorem u9a : (U 9).k.agg = false := by simp only [go_sem]
theorem u9b : (U 9).bytes = 16 := by simp only [go_sem]
theorem u9f : fit (U 9).zero 1 := by simp only [go_sem]
theorem u9n : isAggA (U 9).zero = false := by simp only [go_sem]
def pow10V : List Value := Lib.pow10Tab.map fun z => Value.int .u64 z
abbrev PowT (h : Heap) : Prop := Tab h 1 pow10V
theorem itoa_ok (n : Int) (h : Heap) (hn : -9223372036854775808 ≤ n ∧ n ≤ 9223372036854775807) (ht : PowT h) : FnOK Tryz.prog 51 [.v (.int .i64 n)] h fun r h' => r = .s (Lib.itoa n) ∧ h' = h := by
  refine .lib ⟨_, Tryz.func51, by kernel_rfl, rfl⟩ fun c vs hs g h1 h2 => ?_
  obtain ⟨v, rfl⟩ : ∃ v, vs = #[v] := Array.size_eq_one_iff.1 h1
  have e : v = .int .i64 n := (h2 0 (by simp)).v_inv
  subst e
  have hv := ht.var (P := Tryz.prog) (name := "internal/strconv.uint64pow10") (by kernel_rfl) hs g
  refine (Tryz.strconv_Itoa n hn.1 hn.2 c.w (by unfold Lib.TabIs; rw [hv]; rfl)).mono ?_
  rintro e w' ⟨rfl, k, os, rfl⟩
  refine ⟨⟨_, rfl, fun c' _ => .s _ ?_⟩, rfl, rfl, rfl, ?_, fun k hk => ?_⟩
  · have := Lib.itoa_length_le n hn.1 hn.2
    have : (21 : Nat) < lim := by decide
    omega
  · show _ ≤ (_ ++ os).size
    rw [Array.size_append]
    exact Nat.le_add_right _ _
  · show (_ ++ os)[k]? = _
    rw [Array.getElem?_append, if_pos (show k < (c.w.drewN _).heap.size from hk)]
    rfl
theorem fbool_ok (b : Bool) (h : Heap) : FnOK Tryz.prog 50 [.v (.bool b)] h fun r h' => r = .s (Lib.formatBool b) ∧ h' = h := by
  refine .lib ⟨_, Tryz.func50, by kernel_rfl, rfl⟩ fun c vs hs g h1 h2 => ?_
  obtain ⟨v, rfl⟩ : ∃ v, vs = #[v] := Array.size_eq_one_iff.1 h1
  have e : v = .bool b := (h2 0 (by simp)).v_inv
  subst e
  refine (Tryz.strconv_FormatBool b c.w).mono ?_
  rintro e w' ⟨rfl, rfl⟩
  exact ⟨⟨_, rfl, fun c' _ => .s _ (by cases b <;> decide)⟩, .refl _ _⟩
theorem s_cells (l : List Txt) : One (l.map AV.s) := One.map (fun _ => rfl) l
theorem join_ok (y : AV) (xs : List Txt) (sep : Txt) (h : Heap) (hy : SeqA 9 h y (xs.map AV.s)) (hlen : (Lib.join xs sep).length ≤ 140737488355328) (hn : xs.length ≤ 140737488355328) :
    FnOK Tryz.prog 28 [y, .s sep] h fun r h' => r = .s (Lib.join xs sep) ∧ h' = h := by
  refine .lib ⟨_, Tryz.func28, by kernel_rfl, rfl⟩ fun c vs hs g h1 h2 => ?_
  obtain ⟨u, v, rfl⟩ : ∃ u v, vs = #[u, v] := by
    match vs, h1 with
    | ⟨[u, v]⟩, _ => exact ⟨u, v, rfl⟩
  obtain ⟨e1, e2⟩ := (h2 1 (by simp)).s_inv
  have e1 : v = .string ⟨sep.toArray⟩ := e1
  subst e1
  have hu : Rep c y u := h2 0 (by simp)
  have fin : (Lib.join xs sep).length < lim := by
    have : (140737488355328 : Nat) < lim := by decide
    omega
  by_cases hx : xs = []
  · subst hx
    obtain ⟨a, k, rfl⟩ : ∃ a k, u = .slice a 0 k := by
      rcases hy with ⟨q, rfl⟩ | ⟨id, off, cs, rfl, _⟩
      · obtain ⟨a, cap, sz, val, e, _⟩ := hu.sl_inv; exact ⟨a, cap, e⟩
      · obtain ⟨cap, o, e, _⟩ := hu.oa_inv; exact ⟨_, cap, e⟩
    refine (Tryz.strings_Join_none a k ⟨sep.toArray⟩ c.w).mono ?_
    rintro e w' ⟨rfl, rfl⟩
    exact ⟨⟨_, rfl, fun c' _ => .s [] (by decide)⟩, .refl _ _⟩
  · have hpos : 0 < xs.length := List.length_pos_iff.2 hx
    obtain ⟨bk, o, cap, rfl, hcap, hbk, hcell⟩ : ∃ bk o cap, u = .slice (some ⟨bk, o, none⟩) xs.length cap ∧ xs.length ≤ cap ∧ bk < c.w.heap.size ∧ ∀ j (hj : j < xs.length), c.w.cell? ⟨bk, o + j, none⟩ = some (.string ⟨xs[j].toArray⟩) := by
      rcases hy with ⟨q, rfl⟩ | ⟨id, off, cs, rfl, g1, g2, g3⟩
      · obtain ⟨a, cap, sz, val, e, hsl⟩ := hu.sl_inv
        have hc := hsl.hc
        simp only [List.length_map] at e hc
        have hz1 : sz = 1 := by
          have := hsl.hz 0 (by simpa using hpos)
          simpa [AV.cells] using this.symm
        subst hz1
        cases a with
        | none => have := hsl.h0 rfl; omega
        | some p =>
          obtain ⟨pb, po, ps⟩ := p
          obtain ⟨k1, k2⟩ := hsl.hs _ rfl (by omega)
          simp only at k1 k2
          subst k1
          refine ⟨pb, po, cap, e, hc, k2, fun j hj => ?_⟩
          have f1 := (hsl.hf _ rfl j 0 (by simpa using hj) (by omega)).1
          have f2 := hsl.hr j (by simpa using hj) 0 (by simp [AV.cells])
          have f3 : Rep c (.s xs[j]) (val j 0) := by simpa [AV.cells] using f2
          rw [f3.s_inv.1] at f1
          simpa using f1
      · obtain ⟨cap, o, e, k1, k2, k3, cs', t', k4, k5⟩ := hu.oa_inv
        simp only [List.length_map] at e k1 k3
        rw [hs _ _ g1] at k4
        cases k4
        obtain ⟨vs', m1, m2, m3⟩ := g.obj id _ _ (hs _ _ g1)
        have ho : o = off := k3 (by omega)
        subst ho
        refine ⟨_, o, cap, e, k1, ?_, fun j hj => ?_⟩
        · exact lt_of_get m1
        · simp only [List.length_map] at g2 g3
          have hlt : o + j < cs.length := by omega
          have e5 : cs[o + j]'hlt = .s xs[j] := by
            have := congrArg (fun q => q[j]?) g3
            simp only [List.getElem?_take, hj, if_true, List.getElem?_drop, List.getElem?_map, List.getElem?_eq_getElem hj, Option.map_some] at this
            rw [List.getElem?_eq_getElem hlt] at this
            simpa using this
          have m4 := (m3 (o + j) hlt).1
          rw [e5] at m4
          have m5 := m4.s_inv.1
          have hlv : o + j < vs'.size := by omega
          simp only [World.cell?, m1]
          simp only [Array.getD, hlv, dite_true] at m5
          rw [Array.getElem?_eq_getElem hlv]
          exact congrArg some m5
    have hl : xs.length = (xs.map fun l => (⟨l.toArray⟩ : ByteArray)).length := by simp
    have hmap : (xs.map fun l => (⟨l.toArray⟩ : ByteArray)).map (·.data.toList) = xs := by
      rw [List.map_map]
      exact (List.map_congr_left (g := id) fun _ _ => rfl).trans (List.map_id xs)
    have hsep : (⟨sep.toArray⟩ : ByteArray).data.toList = sep := rfl
    have key := Tryz.strings_Join bk o cap (xs.map fun l => (⟨l.toArray⟩ : ByteArray)) ⟨sep.toArray⟩ c.w (fun j x hjx => by
      rw [List.getElem?_map, Option.map_eq_some_iff] at hjx
      obtain ⟨l, hl, rfl⟩ := hjx
      obtain ⟨hlt, rfl⟩ := List.getElem?_eq_some_iff.1 hl
      exact hcell j hlt) hbk (by simpa using hn) (by simpa using hcap) (by rw [hmap, hsep]; exact hlen)
    rw [hmap, hsep] at key
    simp only [List.length_map] at key
    refine key.mono ?_
    rintro e w' ⟨rfl, hb⟩
    exact ⟨⟨_, rfl, fun c' _ => .s _ fin⟩, hb⟩
end Go.Proofs.YtdcchpbncckhlaaGreatDoor

set_option linter.unusedSimpArgs false
set_option linter.unusedVariables false
namespace Go.Proofs.YtdcchpbncckhlaaGreatDoor
open Go Go.Ab Go.Bf
theorem name_ok (l : Txt) (h : Heap) : FnOK Tryz.prog 74 [.s l] h fun r h' => r = .v (.bool (nameOK l)) ∧ h' = h := by
  refine FnOK.body hU hm Tryz.func74 rfl (by kernel_rfl) 49 rfl [.tmp 2] rfl (Nat.le_of_ble_eq_true rfl) (fun hwf => ?_)
  simp -implicitDefEqProofs only [go_sem]
  refine .intro (fun m ρ h' => h' = h ∧ ∃ i : Nat, i ≤ l.length ∧ m = l.length - i ∧ chsOK (l.take i) = true ∧ lk ρ 0 = some (.s l) ∧ lk ρ 8 = some (.v (.int .i64 l.length)) ∧ lk ρ 9 = some (.v (.int .i64 i))) l.length ?_ ?_
  · refine ⟨rfl, 0, by omega, rfl, rfl, ?_, ?_, ?_⟩ <;> simp -implicitDefEqProofs only [go_sem]
  · rintro m ρ h' ⟨rfl, i, hi, rfl, hc, r0, r8, r9⟩
    simp -implicitDefEqProofs only [go_sem, r0, r8, r9]
    refine .intro (fun e => ?_) (fun e => ?_)
    · have hlt : i < l.length := Int.ofNat_lt.1 (of_decide_eq_true e)
      have w1 : IntKind.i64.wrap ((i : Int) + 1) = ((i + 1 : Nat) : Int) := by rw [wr64 _ (by have := hwf (.s l) (by simp); simp only [wfA, wf1, lim] at this; omega)]; omega
      have w0 : IntKind.i64.wrap (0 + 1) = 1 := rfl
      have hb := chsOK_bad l i hlt
      have hg := chsOK_succ l i hlt
      rw [hc] at hg
      have hcl := chCases l[i]
      have h255 := l[i].toNat_lt
      simp -implicitDefEqProofs only [go_sem, r0, r8, r9]
      refine .at i hlt ?_
      generalize hcc : l[i] = c at hb hg hcl h255 ⊢
      by_cases hi0 : i = 0
      · subst hi0
        rcases hcl with ⟨a1, a2, a3, a4, a5⟩ | ⟨a1, a2, a3, a4, a5⟩ | ⟨a1, a2, a3, a4, a5⟩ | ⟨a1, a2, a3, a4, a5⟩ | ⟨a1, a2, a3, a4, a5⟩ | ⟨a1, a2, a3, a4, a5⟩
        · simp -implicitDefEqProofs only [go_sem, r0, r8, r9, a1, a2, a3, a4, a5, w1, w0]
          refine ⟨_, ?_, rfl, 0 + 1, by omega, rfl, by simp [hg, chOK, ltr, a1, a2], ?_, ?_, ?_⟩
          · omega
          all_goals simp -implicitDefEqProofs only [go_sem, r0, r8, r9, w1, w0]
        all_goals
          simp -implicitDefEqProofs only [go_sem, r0, r8, r9, a1, a2, a3, a4, a5, w1]
          exact .same (.refl _) ⟨by simp [nameOK, hb (by simp [chOK, ltr, a1, a2]), oneOr], rfl⟩
      · have hin : ((i : Int) == 0) = false := by simp; omega
        rcases hcl with ⟨a1, a2, a3, a4, a5⟩ | ⟨a1, a2, a3, a4, a5⟩ | ⟨a1, a2, a3, a4, a5⟩ | ⟨a1, a2, a3, a4, a5⟩ | ⟨a1, a2, a3, a4, a5⟩ | ⟨a1, a2, a3, a4, a5⟩
        · simp -implicitDefEqProofs only [go_sem, r0, r8, r9, a1, a2, a3, a4, a5, w1, hin]
          refine ⟨_, ?_, rfl, i + 1, by omega, rfl, by simp [hg, chOK, ltr, dgt, a1, a2, a3, a4, a5, hi0], ?_, ?_, ?_⟩
          · omega
          all_goals simp -implicitDefEqProofs only [go_sem, r0, r8, r9, w1]
        · simp -implicitDefEqProofs only [go_sem, r0, r8, r9, a1, a2, a3, a4, a5, w1, hin]
          refine ⟨_, ?_, rfl, i + 1, by omega, rfl, by simp [hg, chOK, ltr, dgt, a1, a2, a3, a4, a5, hi0], ?_, ?_, ?_⟩
          · omega
          all_goals simp -implicitDefEqProofs only [go_sem, r0, r8, r9, w1]
        · simp -implicitDefEqProofs only [go_sem, r0, r8, r9, a1, a2, a3, a4, a5, w1, hin]
          refine ⟨_, ?_, rfl, i + 1, by omega, rfl, by simp [hg, chOK, ltr, dgt, a1, a2, a3, a4, a5, hi0], ?_, ?_, ?_⟩
          · omega
          all_goals simp -implicitDefEqProofs only [go_sem, r0, r8, r9, w1]
        · simp -implicitDefEqProofs only [go_sem, r0, r8, r9, a1, a2, a3, a4, a5, w1, hin]
          exact .same (.refl _) ⟨by simp [nameOK, hb (by simp [chOK, ltr, dgt, a1, a2, a3, a4, a5]), oneOr], rfl⟩
        · simp -implicitDefEqProofs only [go_sem, r0, r8, r9, a1, a2, a3, a4, a5, w1, hin]
          exact .same (.refl _) ⟨by simp [nameOK, hb (by simp [chOK, ltr, dgt, a1, a2, a3, a4, a5]), oneOr], rfl⟩
        · simp -implicitDefEqProofs only [go_sem, r0, r8, r9, a1, a2, a3, a4, a5, w1, hin]
          exact .same (.refl _) ⟨by simp [nameOK, hb (by simp [chOK, ltr, dgt, a1, a2, a3, a4, a5]), oneOr], rfl⟩
    · have hge : i = l.length := by have := of_decide_eq_false e; omega
      subst hge
      rw [List.take_length] at hc
      by_cases h0 : l = []
      · subst h0
        have b0 : ((([] : Txt) == []) = true) := rfl
        simp -implicitDefEqProofs only [go_sem, r0, r8, r9, b0]
        exact .same (.refl _) ⟨rfl, rfl⟩
      · have b0 : (l == []) = false := by simpa using h0
        have hp : 1 ≤ l.length := List.length_pos_iff.2 h0
        simp -implicitDefEqProofs only [go_sem, r0, r8, r9, b0]
        exact .same (.refl _) ⟨by simp [nameOK, hc, oneOr, hp]; omega, rfl⟩
end Go.Proofs.YtdcchpbncckhlaaGreatDoor

set_option linter.unusedSimpArgs false
set_option linter.unusedVariables false
namespace Go.Proofs.YtdcchpbncckhlaaGreatDoor
open Go Go.Ab Go.Bf
def Byt (g : FuncId) (p : UInt8 → Bool) : Prop := ∀ (c : UInt8) (h : Heap), FnOK Tryz.prog g [.v (.int .u8 c.toNat)] h fun r h' => r = .v (.bool (p c)) ∧ h' = h
theorem isDigit_ok : Byt 62 dgt := fun c h => by
  refine FnOK.body hU hm Tryz.func62 rfl (by kernel_rfl) 9 rfl [.tmp 2] rfl (Nat.le_of_ble_eq_true rfl) (fun hwf => ?_)
  cases d1 : decide (48 ≤ (c.toNat : Int)) <;> cases d2 : decide ((c.toNat : Int) ≤ 57)
  all_goals
    simp -implicitDefEqProofs only [go_sem, d1, d2]
    exact .same (.refl _) ⟨by simp only [dgt, d1, d2]; rfl, rfl⟩
theorem isWord_ok : Byt 82 wrd := fun c h => by
  refine FnOK.body hU hm Tryz.func82 rfl (by kernel_rfl) 17 rfl [.tmp 2] rfl (Nat.le_of_ble_eq_true rfl) (fun hwf => ?_)
  cases d1 : decide (97 ≤ (c.toNat : Int)) <;> cases d2 : decide ((c.toNat : Int) ≤ 122) <;> cases d3 : dgt c <;> cases d4 : ((c.toNat : Int) == 95)
  all_goals
    simp -implicitDefEqProofs only [go_sem, d1, d2, d4]
    first
      | exact .same (.refl _) ⟨by simp only [wrd, ltr, d1, d2, d3, d4]; rfl, rfl⟩
      | (refine (isDigit_ok c _).pthen ?_
         simp -implicitDefEqProofs only [go_sem, d1, d2, d3, d4]
         exact .same (.refl _) ⟨by simp only [wrd, ltr, d1, d2, d3, d4]; rfl, rfl⟩)
theorem plain_ok : Byt 84 (fun c => !oddB c) := fun c h => by
  refine FnOK.body hU hm Tryz.func84 rfl (by kernel_rfl) 17 rfl [.tmp 2] rfl (Nat.le_of_ble_eq_true rfl) (fun hwf => ?_)
  cases d1 : decide (32 ≤ (c.toNat : Int)) <;> cases d2 : decide ((c.toNat : Int) ≤ 126) <;> cases d3 : ((c.toNat : Int) == 34) <;> cases d4 : ((c.toNat : Int) == 92)
  all_goals
    simp -implicitDefEqProofs only [go_sem, d1, d2, d3, d4, bne]
    refine .same (.refl _) ⟨?_, rfl⟩
    have e1 : decide ((c.toNat : Int) < 32) = !decide (32 ≤ (c.toNat : Int)) := by
      by_cases h : (32 : Int) ≤ c.toNat
      · simp [h, Int.not_lt.2 h]
      · simp [h, Int.not_le.1 h]
    have e2 : decide (126 < (c.toNat : Int)) = !decide ((c.toNat : Int) ≤ 126) := by
      by_cases h : (c.toNat : Int) ≤ 126
      · simp [h, Int.not_lt.2 h]
      · simp [h, Int.not_le.1 h]
    simp only [oddB, e1, e2, d1, d2, d3, d4]
    rfl
theorem tw_succ (p : UInt8 → Bool) (s : Txt) (i : Nat) (hi : i < s.length) (h : i ≤ (s.takeWhile p).length) (hp : p s[i] = true) : i + 1 ≤ (s.takeWhile p).length := by
  induction s generalizing i with
  | nil => cases hi
  | cons c r ih =>
    cases i with
    | zero => simp only [List.getElem_cons_zero] at hp; simp [hp]
    | succ i =>
      by_cases hc : p c = true
      · simp only [List.takeWhile_cons, hc, if_true, List.length_cons] at h ⊢
        have := ih i (by simpa using hi) (by omega) (by simpa using hp)
        omega
      · simp [hc] at h
theorem tw_at (p : UInt8 → Bool) (s : Txt) (i : Nat) (hi : i < s.length) (h : i ≤ (s.takeWhile p).length) (hp : p s[i] = false) : (s.takeWhile p).length = i := by
  induction s generalizing i with
  | nil => cases hi
  | cons c r ih =>
    cases i with
    | zero => simp only [List.getElem_cons_zero] at hp; simp [hp]
    | succ i =>
      by_cases hc : p c = true
      · simp only [List.takeWhile_cons, hc, if_true, List.length_cons] at h ⊢
        rw [ih i (by simpa using hi) (by omega) (by simpa using hp)]
      · simp [hc] at h
theorem run_ok (g : FuncId) (p : UInt8 → Bool) (hg : Byt g p) (s : Txt) (h : Heap) : FnOK Tryz.prog 81 [.s s, .fn g []] h fun r h' => r = .v (.int .i64 (s.takeWhile p).length) ∧ h' = h := by
  refine FnOK.body hU hm Tryz.func81 rfl (by kernel_rfl) 20 rfl [.tmp 4] rfl (Nat.le_of_ble_eq_true rfl) (fun hwf => ?_)
  have hlen := hwf (.s s) (by simp)
  simp only [wfA, wf1, lim] at hlen
  simp -implicitDefEqProofs only [go_sem]
  refine .intro (fun m ρ h' => h' = h ∧ ∃ i : Nat, i ≤ s.length ∧ m = s.length - i ∧ i ≤ (s.takeWhile p).length ∧ lk ρ 0 = some (.s s) ∧ lk ρ 1 = some (.fn g []) ∧ lk ρ 5 = some (.v (.int .i64 i))) s.length ?_ ?_
  · refine ⟨rfl, 0, by omega, rfl, by omega, ?_, ?_, ?_⟩ <;> simp -implicitDefEqProofs only [go_sem]
  · rintro m ρ h' ⟨rfl, i, hi, rfl, hc, r0, r1, r5⟩
    cases d1 : decide ((i : Int) < (s.length : Int))
    · have hge : i = s.length := by have := of_decide_eq_false d1; omega
      have := takeWhile_le p s
      simp -implicitDefEqProofs only [go_sem, r0, r1, r5, d1]
      exact .same (.refl _) ⟨by simp only [oneOr]; congr 3; omega, rfl⟩
    · have hlt : i < s.length := by have := of_decide_eq_true d1; omega
      have w1 : IntKind.i64.wrap ((i : Int) + 1) = ((i + 1 : Nat) : Int) := by rw [wr64 _ (by omega)]; omega
      simp -implicitDefEqProofs only [go_sem, r0, r1, r5, d1]
      refine .at i hlt ?_
      simp -implicitDefEqProofs only [go_sem, r0, r1, r5, d1, byteA]
      refine (hg s[i] _).pthen ?_
      cases d2 : p s[i]
      · have := tw_at p s i hlt hc d2
        simp -implicitDefEqProofs only [go_sem, r0, r1, r5, d1, d2]
        exact .same (.refl _) ⟨by rw [this]; rfl, rfl⟩
      · simp -implicitDefEqProofs only [go_sem, r0, r1, r5, d1, d2, w1]
        refine ⟨_, ?_, rfl, i + 1, by omega, rfl, tw_succ p s i hlt hc d2, ?_, ?_, ?_⟩
        · omega
        all_goals simp -implicitDefEqProofs only [go_sem, r0, r1, r5, w1]
theorem name_ok' (s : Txt) (h : Heap) : FnOK Tryz.prog 61 [.s s] h fun r h' => r = .s (wordD s) ∧ h' = h := by
  refine FnOK.body hU hm Tryz.func61 rfl (by kernel_rfl) 12 rfl [.tmp 2] rfl (Nat.le_of_ble_eq_true rfl) (fun hwf => ?_)
  simp -implicitDefEqProofs only [go_sem]
  refine (run_ok _ _ isWord_ok s _).pthen ?_
  simp -implicitDefEqProofs only [go_sem]
  refine ⟨by omega, by have := takeWhile_le wrd s; omega, ?_⟩
  simp -implicitDefEqProofs only [go_sem, Option.isSome_none, Option.isSome_some, cutL_ft, Int.toNat_natCast, takeWhile_take]
  refine ⟨by have := takeWhile_le wrd s; omega, ?_⟩
  refine (name_ok _ _).pthen ?_
  cases d1 : nameOK (s.takeWhile wrd)
  · simp -implicitDefEqProofs only [go_sem, d1]
    exact .same (.refl _) ⟨by simp [wordD, d1, oneOr], rfl⟩
  · simp -implicitDefEqProofs only [go_sem, d1]
    exact .same (.refl _) ⟨by simp [wordD, d1, oneOr], rfl⟩
theorem wr8 {x : Int} (h : 0 ≤ x ∧ x < 256) : IntKind.u8.wrap x = x := by
  unfold IntKind.wrap
  simp only [IntKind.signed, IntKind.bits]
  simp
  omega
theorem digit_ok (c : UInt8) (h : Heap) : FnOK Tryz.prog 96 [.v (.int .u8 c.toNat)] h fun r h' => r = .v (.int .i64 (hexI c)) ∧ h' = h := by
  refine FnOK.body hU hm Tryz.func96 rfl (by kernel_rfl) 20 rfl [.tmp 2] rfl (Nat.le_of_ble_eq_true rfl) (fun hwf => ?_)
  have hc := c.toNat_lt
  simp -implicitDefEqProofs only [go_sem]
  refine (isDigit_ok c _).pthen ?_
  cases d1 : dgt c
  case true =>
    have e1 : 48 ≤ (c.toNat : Int) ∧ (c.toNat : Int) ≤ 57 := by simpa [dgt] using d1
    have w1 : IntKind.u8.wrap ((c.toNat : Int) - 48) = (c.toNat : Int) - 48 := wr8 (by omega)
    have w2 : IntKind.i64.wrap ((c.toNat : Int) - 48) = (c.toNat : Int) - 48 := wr64 _ (by omega)
    simp -implicitDefEqProofs only [go_sem, d1, w1, w2]
    exact .same (.refl _) ⟨by simp [hexI, d1, oneOr], rfl⟩
  cases d2 : decide (97 ≤ (c.toNat : Int)) <;> cases d3 : decide ((c.toNat : Int) ≤ 102)
  case true.true =>
    have e2 := of_decide_eq_true d2
    have e3 := of_decide_eq_true d3
    have w1 : IntKind.u8.wrap ((c.toNat : Int) - 97) = (c.toNat : Int) - 97 := wr8 (by omega)
    have w2 : IntKind.i64.wrap ((c.toNat : Int) - 97) = (c.toNat : Int) - 97 := wr64 _ (by omega)
    have w3 : IntKind.i64.wrap ((c.toNat : Int) - 97 + 10) = (c.toNat : Int) - 87 := by rw [wr64 _ (by omega)]; omega
    simp -implicitDefEqProofs only [go_sem, d1, d2, d3, w1, w2, w3]
    exact .same (.refl _) ⟨by simp [hexI, d1, e2, e3, oneOr], rfl⟩
  all_goals
    simp -implicitDefEqProofs only [go_sem, d1, d2, d3]
    simp only [decide_eq_true_eq, decide_eq_false_iff_not] at d2 d3
    refine .same (.refl _) ⟨?_, rfl⟩
    have : ¬ (97 ≤ (c.toNat : Int) ∧ (c.toNat : Int) ≤ 102) := by omega
    simp [hexI, d1, this, oneOr]
theorem hexI_le (c : UInt8) : -1 ≤ hexI c ∧ hexI c ≤ 15 := by
  unfold hexI
  split
  · rename_i h; simp [dgt] at h; omega
  · split <;> omega
theorem u8_ofNat (n : Nat) (h : n < 256) : ((UInt8.ofNat n).toNat : Int) = n := by
  simp; omega
theorem odd_ok (s : Txt) (h : Heap) : FnOK Tryz.prog 85 [.s s] h fun r h' => (∃ x : Int, r = .tup [.v (.int .u8 x), .v (.bool (oddD s).isSome)] ∧ ∀ c, oddD s = some c → x = c.toNat) ∧ h' = h := by
  refine FnOK.body hU hm Tryz.func85 rfl (by kernel_rfl) 38 rfl [.tmp 2, .tmp 3] rfl (Nat.le_of_ble_eq_true rfl) (fun hwf => ?_)
  have hlen := hwf (.s s) (by simp)
  simp only [wfA, wf1, lim] at hlen
  cases d0 : decide ((s.length : Int) < 3)
  case true =>
    have e0 : s.length < 3 := by have := of_decide_eq_true d0; omega
    have : oddD s = none := by
      match s, e0 with
      | [], _ => rfl
      | [_], _ => rfl
      | [_, _], _ => rfl
    simp -implicitDefEqProofs only [go_sem, d0]
    exact .same (.refl _) ⟨⟨0, by rw [this]; rfl, fun c hc => by rw [this] at hc; cases hc⟩, rfl⟩
  have e0 : 3 ≤ s.length := by have := of_decide_eq_false d0; omega
  obtain ⟨b, x, y, t, rfl⟩ : ∃ b x y t, s = b :: x :: y :: t := by
    match s, e0 with
    | b :: x :: y :: t, _ => exact ⟨b, x, y, t, rfl⟩
  simp only [List.length_cons] at d0
  have bad : oddD (b :: x :: y :: t) = none → ∃ z : Int, AV.tup [.v (.int .u8 0), .v (.bool false)] = .tup [.v (.int .u8 z), .v (.bool (oddD (b :: x :: y :: t)).isSome)] ∧ ∀ c, oddD (b :: x :: y :: t) = some c → z = c.toNat :=
    fun e => ⟨0, by rw [e]; rfl, fun c hc => by rw [e] at hc; cases hc⟩
  cases d1 : ((b.toNat : Int) != 92)
  case true =>
    have e1 : b ≠ 92 := by rintro rfl; simp at d1
    simp -implicitDefEqProofs only [go_sem, d0]
    refine .at 0 (by simp) ?_
    simp -implicitDefEqProofs only [go_sem, d0, byteA, List.getElem_cons_zero, d1]
    exact .same (.refl _) ⟨bad (by simp [oddD, e1]), rfl⟩
  have e1 : b = 92 := by
    have : (b.toNat : Int) = 92 := by simpa using d1
    exact UInt8.toNat_inj.1 (by show b.toNat = 92; omega)
  simp -implicitDefEqProofs only [go_sem, d0]
  refine .at 0 (by simp) ?_
  simp -implicitDefEqProofs only [go_sem, d0, byteA, List.getElem_cons_zero, d1]
  refine .at 1 (by simp) ?_
  simp -implicitDefEqProofs only [go_sem, d0, byteA, List.getElem_cons_zero, List.getElem_cons_succ, d1]
  refine (digit_ok x _).pthen ?_
  cases d2 : decide (hexI x < 0)
  case true =>
    have e2 := of_decide_eq_true d2
    simp -implicitDefEqProofs only [go_sem, d0, d1, d2]
    exact .same (.refl _) ⟨bad (by simp [oddD]; intros; omega), rfl⟩
  have e2 : 0 ≤ hexI x := by have := of_decide_eq_false d2; omega
  simp -implicitDefEqProofs only [go_sem, d0, d1, d2]
  refine .at 2 (by simp) ?_
  simp -implicitDefEqProofs only [go_sem, d0, d1, d2, byteA, List.getElem_cons_zero, List.getElem_cons_succ]
  refine (digit_ok y _).pthen ?_
  cases d3 : decide (hexI y < 0)
  case true =>
    have e3 := of_decide_eq_true d3
    simp -implicitDefEqProofs only [go_sem, d0, d1, d2, d3]
    exact .same (.refl _) ⟨bad (by simp [oddD]; intros; omega), rfl⟩
  have e3 : 0 ≤ hexI y := by have := of_decide_eq_false d3; omega
  have hx := hexI_le x
  have hy := hexI_le y
  have w1 : IntKind.i64.wrap (16 * hexI x) = 16 * hexI x := wr64 _ (by omega)
  have w2 : IntKind.i64.wrap (16 * hexI x + hexI y) = 16 * hexI x + hexI y := wr64 _ (by omega)
  have w3 : IntKind.u8.wrap (16 * hexI x + hexI y) = ((UInt8.ofNat (16 * hexI x + hexI y).toNat).toNat : Int) := by
    rw [wr8 (by omega), u8_ofNat _ (by omega)]; omega
  simp -implicitDefEqProofs only [go_sem, d0, d1, d2, d3]
  refine .quiet (by kernel_rfl) ?_
  simp -implicitDefEqProofs only [go_sem]
  refine .at 1 (by simp) ?_
  simp -implicitDefEqProofs only [go_sem, byteA, List.getElem_cons_zero, List.getElem_cons_succ]
  refine ⟨_, digit_ok x _, ?_⟩
  simp -implicitDefEqProofs only [go_sem]
  refine .at 2 (by simp) ?_
  simp -implicitDefEqProofs only [go_sem, byteA, List.getElem_cons_zero, List.getElem_cons_succ]
  refine ⟨_, digit_ok y _, ?_⟩
  simp -implicitDefEqProofs only [go_sem, w1, w2, w3]
  refine (plain_ok _ _).pthen ?_
  simp -implicitDefEqProofs only [go_sem]
  refine .same (.refl _) ⟨⟨((UInt8.ofNat (16 * hexI x + hexI y).toNat).toNat : Int), ?_, fun c hc => ?_⟩, rfl⟩
  · cases d5 : oddB (UInt8.ofNat (16 * hexI x + hexI y).toNat) <;> simp [oddD, e1, e2, e3, d5, oneOr]
  · simp only [oddD] at hc
    split at hc
    · cases hc; rfl
    · cases hc
end Go.Proofs.YtdcchpbncckhlaaGreatDoor

set_option linter.unusedSimpArgs false
set_option linter.unusedVariables false
namespace Go.Proofs.YtdcchpbncckhlaaGreatDoor
open Go Go.Ab Go.Bf
theorem u5z : (U 5).sz = 1 := by simp only [go_sem]
theorem u5b : (U 5).bytes = 1 := by simp only [go_sem]
theorem byteA_sized (l : List UInt8) : Sized 1 (l.map byteA) := fun z hz => by
  obtain ⟨c, _, rfl⟩ := List.mem_map.1 hz; rfl
theorem text_ok (s : Txt) (hs : s.length ≤ 10000) (h : Heap) : FnOK Tryz.prog 64 [.s s] h fun r h' => r = .tup [.s (textD s).1, .v (.int .i64 (textD s).2)] ∧ h' = h := by
  refine FnOK.body hU hm Tryz.func64 rfl (by kernel_rfl) 50 rfl [.tmp 2, .tmp 3] rfl (Nat.le_of_ble_eq_true rfl) (fun hwf => ?_)
  simp -implicitDefEqProofs only [go_sem]
  refine .intro (fun m ρ h' => ∃ (i f : Nat) (y : AV) (out : Txt), Acc U 5 h h' y (out.map byteA) ∧ out.length ≤ i ∧ m = s.length + 1 - i ∧ i ≤ s.length + 3 ∧ s.length ≤ f + i ∧ textF f (s.drop i) i out = textD s ∧ lk ρ 0 = some (.s s) ∧ lk ρ 4 = some y ∧ lk ρ 5 = some (.v (.int .i64 i))) s.length ?_ ?_
  · refine ⟨1, s.length, .sl [] .full, [], .full (.refl _), by simp, by omega, by omega, by omega, rfl, ?_, ?_, ?_⟩ <;> simp -implicitDefEqProofs only [go_sem]
  · rintro m ρ h' ⟨i, f, y, out, hy, hoi, rfl, hi, hf, he, r0, r4, r5⟩
    cases d1 : decide ((i : Int) < (s.length : Int))
    · have hge : s.length ≤ i := by have := of_decide_eq_false d1; omega
      have hd : s.drop i = [] := List.drop_of_length_le hge
      have : textD s = ([], 0) := by
        rw [← he, hd]
        cases f <;> rfl
      simp -implicitDefEqProofs only [go_sem, r0, r4, r5, d1]
      exact .mk _ (.refl _) hy.1 ⟨by rw [this]; rfl, rfl⟩
    have hlt : i < s.length := by have := of_decide_eq_true d1; omega
    obtain ⟨f, rfl⟩ : ∃ g, f = g + 1 := ⟨f - 1, by omega⟩
    have hdr : s.drop i = s[i] :: s.drop (i + 1) := List.drop_eq_getElem_cons hlt
    rw [hdr] at he
    simp only [textF] at he
    have w1 : IntKind.i64.wrap ((i : Int) + 1) = ((i + 1 : Nat) : Int) := by rw [wr64 _ (by omega)]; omega
    have w3 : IntKind.i64.wrap ((i : Int) + 3) = ((i + 3 : Nat) : Int) := by rw [wr64 _ (by omega)]; omega
    simp -implicitDefEqProofs only [go_sem, r0, r4, r5, d1]
    refine .at i hlt ?_
    cases d2 : ((s[i].toNat : Int) == 34)
    case true =>
      have e2 : s[i] = 34 := by
        have : (s[i].toNat : Int) = 34 := by simpa using d2
        exact UInt8.toNat_inj.1 (by show s[i].toNat = 34; omega)
      rw [if_pos e2] at he
      cases d3 : decide (64 < (out.length : Int))
      case true =>
        have e3 : 64 < out.length := by have := of_decide_eq_true d3; omega
        rw [if_pos e3] at he
        simp -implicitDefEqProofs only [go_sem, r0, r4, r5, d1, byteA, d2, hy.len, List.length_map, d3]
        exact .mk _ (.refl _) hy.1 ⟨by rw [← he]; rfl, rfl⟩
      have e3 : ¬ 64 < out.length := by have := of_decide_eq_false d3; omega
      rw [if_neg e3] at he
      simp -implicitDefEqProofs only [go_sem, r0, r4, r5, d1, byteA, d2, hy.len, List.length_map, d3, w1]
      obtain ⟨q, rfl⟩ := hy.row
      simp -implicitDefEqProofs only [go_sem, r0, r4, r5, w1]
      exact .mk _ (.refl _) hy.1 ⟨by rw [← he]; rfl, rfl⟩
    have e2 : s[i] ≠ 34 := by intro e; rw [e] at d2; simp at d2
    rw [if_neg e2] at he
    simp -implicitDefEqProofs only [go_sem, r0, r4, r5, d1, byteA, d2]
    refine .at i hlt ?_
    simp -implicitDefEqProofs only [go_sem, r0, r4, r5, d1, byteA, d2]
    refine (plain_ok _ _).pthen ?_
    cases d4 : oddB s[i]
    · rw [if_pos d4] at he
      simp -implicitDefEqProofs only [go_sem, r0, r4, r5, d4]
      refine .at i hlt ?_
      simp -implicitDefEqProofs only [go_sem, r0, r4, r5, d4, byteA]
      refine hy.app (zs := [byteA s[i]]) (by rw [u5z]; decide) (by rw [u5b]; decide) (fun k hk => hk) (by rw [u5z]; exact byteA_sized out) (by rw [u5z]; exact byteA_sized [s[i]]) (by rw [u5b]; simp; omega) fun y' h2 hy' hk2 => ?_
      simp -implicitDefEqProofs only [go_sem, r0, r4, r5, d4, w1]
      refine ⟨_, ?_, i + 1, f, y', out ++ [s[i]], by simpa using hy', by simp; omega, rfl, by omega, by omega, he, ?_, ?_, ?_⟩
      · omega
      all_goals simp -implicitDefEqProofs only [go_sem, r0, r4, r5, w1]
    · rw [if_neg (by simp [d4])] at he
      simp -implicitDefEqProofs only [go_sem, r0, r4, r5, d4]
      refine ⟨by omega, ?_⟩
      simp -implicitDefEqProofs only [go_sem, Option.isSome_none, Option.isSome_some, cutL_tf, Int.toNat_natCast, r0, r4, r5]
      refine ⟨by omega, by omega, ?_⟩
      refine (odd_ok _ _).mono fun x h2 hx => ?_
      obtain ⟨⟨v, rfl, hv⟩, rfl⟩ := hx
      rw [← hdr] at he
      cases e5 : oddD (s.drop i) with
      | none =>
        rw [e5] at he
        simp -implicitDefEqProofs only [go_sem, r0, r4, r5, Option.isSome_none]
        exact .mk _ (.refl _) hy.1 ⟨by rw [← he]; rfl, rfl⟩
      | some b =>
        rw [e5] at he
        have hvb := hv b e5
        subst hvb
        have h3 := oddD_len e5
        simp only [List.length_drop] at h3
        simp -implicitDefEqProofs only [go_sem, r0, r4, r5, Option.isSome_some]
        refine hy.app (zs := [byteA b]) (by rw [u5z]; decide) (by rw [u5b]; decide) (fun k hk => hk) (by rw [u5z]; exact byteA_sized out) (by rw [u5z]; exact byteA_sized [b]) (by rw [u5b]; simp; omega) fun y' h2 hy' hk2 => ?_
        simp -implicitDefEqProofs only [go_sem, r0, r4, r5, w3]
        refine ⟨_, ?_, i + 3, f, y', out ++ [b], by simpa using hy', by simp; omega, rfl, by omega, by omega, ?_, ?_, ?_, ?_⟩
        · omega
        · simp only [List.drop_drop] at he
          exact he
        all_goals simp -implicitDefEqProofs only [go_sem, r0, r4, r5, w3]
end Go.Proofs.YtdcchpbncckhlaaGreatDoor

set_option linter.unusedVariables false
namespace Go.Bf
open Go Go.Ab
theorem dgt_iff (c : UInt8) : dgt c = true ↔ 48 ≤ c.toNat ∧ c.toNat ≤ 57 := by
  simp only [dgt, Bool.and_eq_true, decide_eq_true_eq]; omega
def decA (acc : Nat) (l : Txt) : Nat := l.foldl (fun n c => n * 10 + (c.toNat - 48)) acc
theorem decA_cons (acc : Nat) (c : UInt8) (r : Txt) : decA acc (c :: r) = decA (acc * 10 + (c.toNat - 48)) r := List.foldl_cons ..
theorem dec_mono : ∀ (l : Txt) (acc : Nat), acc ≤ decA acc l
  | [], acc => Nat.le_refl _
  | c :: r, acc => by rw [decA_cons]; exact Nat.le_trans (by omega) (dec_mono r (acc * 10 + (c.toNat - 48)))
theorem parse_digits : ∀ (l : Txt) (acc : Nat), (∀ c ∈ l, dgt c = true) → acc < 18446744073709551616 →
    Lib.parseUint10 acc l = if decA acc l < 18446744073709551616 then .ok (decA acc l) else .range
  | [], acc, _, ha => by
    have : decA acc [] = acc := rfl
    rw [this, if_pos ha]; rfl
  | c :: r, acc, hd, ha => by
    have hc := (dgt_iff c).1 (hd c (by simp))
    have hm := dec_mono r (acc * 10 + (c.toNat - 48))
    rw [decA_cons]
    unfold Lib.parseUint10
    rw [if_pos hc]
    split
    · rw [if_neg (by omega)]
    · split
      · rw [if_neg (by omega)]
      · exact parse_digits r _ (fun x hx => hd x (by simp [hx])) (by omega)
def signT (neg : Bool) : Txt := if neg then [45] else []
theorem atoi_digits (neg : Bool) (d : Txt) (h0 : d ≠ []) (hd : ∀ c ∈ d, dgt c = true) :
    Lib.atoiAll (signT neg ++ d) = if -9223372036854775808 ≤ (if neg then -(decV d : Int) else (decV d : Int)) ∧ (if neg then -(decV d : Int) else (decV d : Int)) ≤ 9223372036854775807 then .ok (if neg then -(decV d : Int) else (decV d : Int)) else .range := by
  have hp : Lib.parseMag d = if decV d < 18446744073709551616 then .ok (decV d) else .range := by
    unfold Lib.parseMag
    rw [if_neg h0]
    exact parse_digits d 0 hd (by decide)
  cases neg
  · obtain ⟨c, r, rfl⟩ := List.exists_cons_of_ne_nil h0
    have hc := (dgt_iff c).1 (hd c (by simp))
    simp only [signT, Bool.false_eq_true, if_false, List.nil_append, Lib.atoiAll]
    rw [if_neg (by omega), hp]
    have e45 : (c.toNat = 45) = False := by simp; omega
    simp only [e45, not_false_eq_true, true_and, false_and, if_false]
    split
    · rename_i h; split at h
      · cases h
      · cases h
    · rename_i h; split at h
      · cases h
      · rw [if_neg (by omega)]
    · rename_i u h; split at h
      · cases h
        split
        · rw [if_neg (by omega)]
        · rw [if_pos (by omega)]
      · cases h
  · simp only [signT, if_true, List.cons_append, List.nil_append, Lib.atoiAll]
    rw [if_pos (.inr (by decide)), hp]
    simp only [show ((45 : UInt8).toNat = 45) = True by simp, not_true_eq_false, false_and, if_false, true_and, if_true]
    split
    · rename_i h; split at h
      · cases h
      · cases h
    · rename_i h; split at h
      · cases h
      · rw [if_neg (by omega)]
    · rename_i u h; split at h
      · cases h
        split
        · rw [if_neg (by omega)]
        · rw [if_pos (by omega)]
      · cases h
theorem takeWhile_dgt (s : Txt) : ∀ c ∈ s.takeWhile dgt, dgt c = true := fun c hc => by
  induction s with
  | nil => cases hc
  | cons x r ih =>
    simp only [List.takeWhile_cons] at hc
    split at hc
    · rename_i hx
      rcases List.mem_cons.1 hc with rfl | hc
      · exact hx
      · exact ih hc
    · cases hc
end Go.Bf

set_option linter.unusedVariables false
namespace Go.Proofs
open Go.Shelf
def Tryz.lays137_ren : Go.Shelf.Ren := ⟨fun | 137 => 65 | 217 => 86 | 266 => 97 | n => n, fun | 9 => 9 | 5 => 5 | 3 => 3 | n => n, fun | n => n⟩
theorem Tryz.lays137 : Go.Proofs.Lays.n137 Tryz.prog Tryz.lays137_ren := {
  mixed := by kernel_rfl
  f137 := Tryz.func65.trans (congrArg some (by kernel_rfl))
  f217 := Tryz.func86.trans (congrArg some (by kernel_rfl))
  f266 := Tryz.func97.trans (congrArg some (by kernel_rfl))
  t3 := Tryz.underlying3
  a3 := Tryz.isAgg3
  z3 := Tryz.sizeOf3
  v3 := Tryz.zeroValue3
  t5 := Tryz.underlying5
  a5 := Tryz.isAgg5
  z5 := Tryz.sizeOf5
  v5 := Tryz.zeroValue5
  t9 := Tryz.underlying9
  a9 := Tryz.isAgg9
  z9 := Tryz.sizeOf9
  v9 := Tryz.zeroValue9 }
open Go.RowKit in
theorem Tryz.strings_IndexByte (s : ByteArray) (c : Int) (w : World) :
    Calls Tryz.prog 65 #[.string s, .int .u8 c] w fun e w' => e = .returned (.int .i64 (Lib.indexByte s.data.toList c.toNat.toUInt8)) ∧ w' = w := Any.strings_IndexByte Tryz.lays137 s c w
def Tryz.laysC172_ren : Go.Shelf.Ren := ⟨fun | 172 => 83 | 244 => 94 | 245 => 95 | 247 => 105 | 279 => 106 | 280 => 107 | 281 => 108 | 282 => 109 | 287 => 118 | 316 => 119 | 171 => 51 | 205 => 120 | 321 => 124 | 322 => 125 | 243 => 76 | 246 => 89 | 283 => 100 | 284 => 101 | 285 => 102 | 286 => 103 | 129 => 114 | 317 => 113 | 318 => 115 | 319 => 116 | 320 => 117 | 337 => 122 | 338 => 123 | n => n, fun | 9 => 9 | 3 => 3 | 75 => 116 | 76 => 117 | 4 => 4 | 5 => 5 | 167 => 162 | 37 => 111 | 0 => 0 | 85 => 163 | 2 => 2 | 168 => 165 | 53 => 156 | 175 => 178 | 46 => 134 | 210 => 181 | 127 => 135 | 145 => 188 | 143 => 186 | 21 => 21 | 171 => 155 | 173 => 159 | 212 => 174 | 51 => 175 | 20 => 20 | 213 => 176 | 232 => 189 | 233 => 190 | 80 => 96 | n => n, fun | 15 => 2 | 16 => 3 | 17 => 1 | 18 => 4 | 19 => 5 | n => n⟩
theorem Tryz.laysC172 : Go.Proofs.LaysC.n172 Tryz.prog Tryz.laysC172_ren := {
  mixed := by kernel_rfl
  f129 := Tryz.func114.trans (congrArg some (by kernel_rfl))
  f171 := Tryz.func51.trans (congrArg some (by kernel_rfl))
  f172 := Tryz.func83.trans (congrArg some (by kernel_rfl))
  f205 := Tryz.func120.trans (congrArg some (by kernel_rfl))
  f243 := Tryz.func76.trans (congrArg some (by kernel_rfl))
  f244 := Tryz.func94.trans (congrArg some (by kernel_rfl))
  f245 := Tryz.func95.trans (congrArg some (by kernel_rfl))
  f246 := Tryz.func89.trans (congrArg some (by kernel_rfl))
  f247 := Tryz.func105.trans (congrArg some (by kernel_rfl))
  f279 := Tryz.func106.trans (congrArg some (by kernel_rfl))
  f280 := Tryz.func107.trans (congrArg some (by kernel_rfl))
  f281 := Tryz.func108.trans (congrArg some (by kernel_rfl))
  f282 := Tryz.func109.trans (congrArg some (by kernel_rfl))
  f283 := Tryz.func100.trans (congrArg some (by kernel_rfl))
  f284 := Tryz.func101.trans (congrArg some (by kernel_rfl))
  f285 := Tryz.func102.trans (congrArg some (by kernel_rfl))
  f286 := Tryz.func103.trans (congrArg some (by kernel_rfl))
  f287 := Tryz.func118.trans (congrArg some (by kernel_rfl))
  f316 := Tryz.func119.trans (congrArg some (by kernel_rfl))
  f317 := Tryz.func113.trans (congrArg some (by kernel_rfl))
  f318 := Tryz.func115.trans (congrArg some (by kernel_rfl))
  f319 := Tryz.func116.trans (congrArg some (by kernel_rfl))
  f320 := Tryz.func117.trans (congrArg some (by kernel_rfl))
  f321 := Tryz.func124.trans (congrArg some (by kernel_rfl))
  f322 := Tryz.func125.trans (congrArg some (by kernel_rfl))
  f337 := Tryz.func122.trans (congrArg some (by kernel_rfl))
  f338 := Tryz.func123.trans (congrArg some (by kernel_rfl))
  t0 := Tryz.underlying0
  a0 := Tryz.isAgg0
  z0 := Tryz.sizeOf0
  v0 := Tryz.zeroValue0
  t2 := Tryz.underlying2
  a2 := Tryz.isAgg2
  z2 := Tryz.sizeOf2
  v2 := Tryz.zeroValue2
  t3 := Tryz.underlying3
  a3 := Tryz.isAgg3
  z3 := Tryz.sizeOf3
  v3 := Tryz.zeroValue3
  t4 := Tryz.underlying4
  a4 := Tryz.isAgg4
  z4 := Tryz.sizeOf4
  v4 := Tryz.zeroValue4
  t5 := Tryz.underlying5
  a5 := Tryz.isAgg5
  z5 := Tryz.sizeOf5
  v5 := Tryz.zeroValue5
  t9 := Tryz.underlying9
  a9 := Tryz.isAgg9
  z9 := Tryz.sizeOf9
  v9 := Tryz.zeroValue9
  t20 := Tryz.underlying20
  a20 := Tryz.isAgg20
  z20 := Tryz.sizeOf20
  v20 := Tryz.zeroValue20
  t21 := Tryz.underlying21
  a21 := Tryz.isAgg21
  z21 := Tryz.sizeOf21
  v21 := Tryz.zeroValue21
  t37 := Tryz.underlying111
  a37 := Tryz.isAgg111
  z37 := Tryz.sizeOf111
  v37 := Tryz.zeroValue111
  t46 := Tryz.underlying134
  a46 := Tryz.isAgg134
  z46 := Tryz.sizeOf134
  v46 := Tryz.zeroValue134
  t51 := Tryz.underlying175
  a51 := Tryz.isAgg175
  z51 := Tryz.sizeOf175
  v51 := Tryz.zeroValue175
  t53 := Tryz.underlying156
  a53 := Tryz.isAgg156
  z53 := Tryz.sizeOf156
  v53 := Tryz.zeroValue156
  t75 := Tryz.underlying116
  a75 := Tryz.isAgg116
  z75 := Tryz.sizeOf116
  v75 := Tryz.zeroValue116
  t76 := Tryz.underlying117
  a76 := Tryz.isAgg117
  z76 := Tryz.sizeOf117
  v76 := Tryz.zeroValue117
  t85 := Tryz.underlying163
  a85 := Tryz.isAgg163
  z85 := Tryz.sizeOf163
  v85 := Tryz.zeroValue163
  t127 := Tryz.underlying135
  a127 := Tryz.isAgg135
  z127 := Tryz.sizeOf135
  v127 := Tryz.zeroValue135
  t143 := Tryz.underlying186
  a143 := Tryz.isAgg186
  z143 := Tryz.sizeOf186
  v143 := Tryz.zeroValue186
  t145 := Tryz.underlying188
  a145 := Tryz.isAgg188
  z145 := Tryz.sizeOf188
  v145 := Tryz.zeroValue188
  t167 := Tryz.underlying162
  a167 := Tryz.isAgg162
  z167 := Tryz.sizeOf162
  v167 := Tryz.zeroValue162
  t168 := Tryz.underlying165
  a168 := Tryz.isAgg165
  z168 := Tryz.sizeOf165
  v168 := Tryz.zeroValue165
  t171 := Tryz.underlying155
  a171 := Tryz.isAgg155
  z171 := Tryz.sizeOf155
  v171 := Tryz.zeroValue155
  t173 := Tryz.underlying159
  a173 := Tryz.isAgg159
  z173 := Tryz.sizeOf159
  v173 := Tryz.zeroValue159
  t175 := Tryz.underlying178
  a175 := Tryz.isAgg178
  z175 := Tryz.sizeOf178
  v175 := Tryz.zeroValue178
  t210 := Tryz.underlying181
  a210 := Tryz.isAgg181
  z210 := Tryz.sizeOf181
  v210 := Tryz.zeroValue181
  t212 := Tryz.underlying174
  a212 := Tryz.isAgg174
  z212 := Tryz.sizeOf174
  v212 := Tryz.zeroValue174
  t213 := Tryz.underlying176
  a213 := Tryz.isAgg176
  z213 := Tryz.sizeOf176
  t232 := Tryz.underlying189
  a232 := Tryz.isAgg189
  z232 := Tryz.sizeOf189
  v232 := Tryz.zeroValue189
  t233 := Tryz.underlying190
  a233 := Tryz.isAgg190
  z233 := Tryz.sizeOf190
  v233 := Tryz.zeroValue190
  g15 := by kernel_rfl
  g16 := by kernel_rfl
  g17 := by kernel_rfl
  g18 := by kernel_rfl
  g19 := by kernel_rfl
  t80 := Tryz.underlying96
  a80 := Tryz.isAgg96
  z80 := Tryz.sizeOf96
  v80 := Tryz.zeroValue96
  i0 := by kernel_rfl
  i2 := by kernel_rfl
  i3 := by kernel_rfl
  i4 := by kernel_rfl
  i5 := by kernel_rfl
  i9 := by kernel_rfl
  i20 := by kernel_rfl
  i21 := by kernel_rfl
  i37 := by kernel_rfl
  i46 := by kernel_rfl
  i51 := by kernel_rfl
  i53 := by kernel_rfl
  i75 := by kernel_rfl
  i76 := by kernel_rfl
  i80 := by kernel_rfl
  i85 := by kernel_rfl
  i127 := by kernel_rfl
  i143 := by kernel_rfl
  i145 := by kernel_rfl
  i167 := by kernel_rfl
  i168 := by kernel_rfl
  i171 := by kernel_rfl
  i173 := by kernel_rfl
  i175 := by kernel_rfl
  i210 := by kernel_rfl
  i212 := by kernel_rfl
  i232 := by kernel_rfl
  i233 := by kernel_rfl
  m15 := by kernel_rfl
  m16 := by kernel_rfl
  m17 := by kernel_rfl
  m18 := by kernel_rfl
  m19 := by kernel_rfl
  c0 := by kernel_rfl
  c2 := by kernel_rfl
  c3 := by kernel_rfl
  c4 := by kernel_rfl
  c5 := by kernel_rfl
  c9 := by kernel_rfl
  c20 := by kernel_rfl
  c21 := by kernel_rfl
  c37 := by kernel_rfl
  c46 := by kernel_rfl
  c51 := by kernel_rfl
  c53 := by kernel_rfl
  c75 := by kernel_rfl
  c76 := by kernel_rfl
  c80 := by kernel_rfl
  c85 := by kernel_rfl
  c127 := by kernel_rfl
  c143 := by kernel_rfl
  c145 := by kernel_rfl
  c167 := by kernel_rfl
  c168 := by kernel_rfl
  c171 := by kernel_rfl
  c173 := by kernel_rfl
  c175 := by kernel_rfl
  c210 := by kernel_rfl
  c212 := by kernel_rfl
  c213 := by kernel_rfl
  c232 := by kernel_rfl
  c233 := by kernel_rfl }
open Go.RowKit in
theorem Tryz.strconv_Atoi_ok (s : ByteArray) (hmax : s.size ≤ 9223372036854775806) (v : Int) (h : Lib.atoiAll s.data.toList = .ok v) (w : World) :
    Calls Tryz.prog 83 #[.string s] w fun e w' => e = .returned (.tuple #[.int .i64 v, .nilIface]) ∧ (w' = w ∨ ∃ t, w' = Lib.bytesWorld w 5 t) := Any.strconv_Atoi_ok Tryz.laysC172 s hmax v h w
open Go.RowKit in
theorem Tryz.strconv_Atoi_range (s : ByteArray) (hlim : s.size ≤ 281474976710656) (h : Lib.atoiAll s.data.toList = .range) (ev : Value) (w : World) (hv : w.cell? ⟨3, 0, none⟩ = some ev) (hev : ev = .nilIface ∨ ∃ te pe, ev = .iface te pe) :
    Calls Tryz.prog 83 #[.string s] w fun e w' => ∃ N, e = .returned (.tuple #[.int .i64 (Lib.atoiSat s.data.toList), .iface 165 (.pointer (some ⟨N, 0, none⟩))]) ∧ w.heap.size ≤ N ∧ w'.heap[N]? = some (.cells #[.string ⟨#[65, 116, 111, 105]⟩, .string s, ev] 181 (0, 0)) ∧ Below w.heap.size w w' := Any.strconv_Atoi_range Tryz.laysC172 s hlim h ev w hv hev
end Go.Proofs

set_option linter.unusedSimpArgs false
set_option linter.unusedVariables false
namespace Go.Proofs.YtdcchpbncckhlaaGreatDoor
open Go Go.Ab Go.Bf Go.RowKit
theorem run_calls (s : Txt) (hs : s.length ≤ 100000) (w : World) : Calls Tryz.prog 81 #[.string ⟨s.toArray⟩, .func (.func 62) #[] #[]] w fun e w' => e = .returned (.int .i64 (s.takeWhile dgt).length) ∧ Below w.heap.size w w' := by
  refine Go.Ab.FnOK.calls (args := [.s s, .fn 62 []]) ((run_ok _ _ isDigit_ok s noHeap).mono fun _ _ h => h.1) rfl (fun i hi => ?_)
  rcases i with _ | _ | i
  · exact .s s (by show s.length < lim; have : (100000 : Nat) < lim := by decide
                   omega)
  · exact .fn _ [] #[] rfl (fun i hi => by cases hi)
  · simp at hi; omega
def valI (neg : Bool) (d : Txt) : Int := if neg then -(decV d : Int) else (decV d : Int)
def inI (neg : Bool) (d : Txt) : Prop := -9223372036854775808 ≤ (if neg then -(decV d : Int) else (decV d : Int)) ∧ (if neg then -(decV d : Int) else (decV d : Int)) ≤ 9223372036854775807
instance (neg : Bool) (d : Txt) : Decidable (inI neg d) := inferInstanceAs (Decidable (_ ∧ _))
theorem signT_le (neg : Bool) : (signT neg).length ≤ 1 := by cases neg <;> decide
theorem atoi_in (neg : Bool) (d : Txt) (h0 : d ≠ []) (hd : ∀ c ∈ d, dgt c = true) (hlen : d.length ≤ 10000) (S : ByteArray) (hS : S = ⟨(signT neg ++ d).toArray⟩) (hr : inI neg d) (W : World) :
    Calls Tryz.prog 83 #[.string S] W fun e w' => e = .returned (.tuple #[.int .i64 (valI neg d), .nilIface]) ∧ Below W.heap.size W w' := by
  have hl := signT_le neg
  have hsz : S.size ≤ 10001 := by rw [hS]; simp [ByteArray.size]; omega
  have ha : Lib.atoiAll S.data.toList = .ok (valI neg d) := by
    rw [hS]
    show Lib.atoiAll (signT neg ++ d) = _
    rw [atoi_digits neg d h0 hd]
    exact if_pos hr
  refine (Tryz.strconv_Atoi_ok S (by omega) _ ha W).mono ?_
  rintro e w' ⟨rfl, rfl | ⟨t, rfl⟩⟩
  · exact ⟨rfl, .refl _ _⟩
  · exact ⟨rfl, Lib.bytesWorld_below W _ t⟩
theorem atoi_out (neg : Bool) (d : Txt) (h0 : d ≠ []) (hd : ∀ c ∈ d, dgt c = true) (hlen : d.length ≤ 10000) (S : ByteArray) (hS : S = ⟨(signT neg ++ d).toArray⟩) (hr : ¬ inI neg d) (W : World) (ev : Value) (hv : W.cell? ⟨3, 0, none⟩ = some ev) (hev : ev = .nilIface ∨ ∃ te pe, ev = .iface te pe) :
    Calls Tryz.prog 83 #[.string S] W fun e w' => (∃ (x : Int) (N : Nat), e = .returned (.tuple #[.int .i64 x, .iface 165 (.pointer (some ⟨N, 0, none⟩))])) ∧ Below W.heap.size W w' := by
  have hl := signT_le neg
  have hsz : S.size ≤ 10001 := by rw [hS]; simp [ByteArray.size]; omega
  have ha : Lib.atoiAll S.data.toList = .range := by
    rw [hS]
    show Lib.atoiAll (signT neg ++ d) = _
    rw [atoi_digits neg d h0 hd]
    exact if_neg hr
  refine (Tryz.strconv_Atoi_range S (by omega) ha ev W hv hev).mono ?_
  rintro e w' ⟨N, rfl, _, _, hb⟩
  exact ⟨⟨_, N, rfl⟩, hb⟩
set_option maxHeartbeats 1000000 in
set_option maxRecDepth 1000000 in
theorem number_walk (neg : Bool) (s : Txt) (hs : s.length ≤ 10000) (w : World) (ev : Value) (hv : w.cell? ⟨3, 0, none⟩ = some ev) (hev : ev = .nilIface ∨ ∃ te pe, ev = .iface te pe) (hg : 3 < w.heap.size) :
    Calls Tryz.prog 63 #[.string ⟨(signT neg).toArray⟩, .string ⟨s.toArray⟩] w fun e w' => e = .returned (.tuple #[.int .i64 (numD neg s).1, .int .i64 ((numD neg s).2 : Nat)]) ∧ Below w.heap.size w w' := by
  have hle := takeWhile_le dgt s
  obtain ⟨d, ed⟩ : ∃ d, s.takeWhile dgt = d := ⟨_, rfl⟩
  have htk : s.take d.length = d := by rw [← ed, takeWhile_take]
  have hrun := run_calls s (by omega) w
  have hall := takeWhile_dgt s
  rw [ed] at hrun hle hall
  go_enter Tryz.func63, Tryz.ntmps63
  by_cases h0 : d.length = 0
  · have e0 : d = [] := List.length_eq_zero_iff.1 h0
    have en : numD neg s = (0, 0) := by unfold numD; rw [ed, if_pos (.inl e0)]
    go_wp2_with (go_at_call 81; refine hrun.mono ?_)
    rintro e W0 ⟨rfl, b0⟩
    rw [h0]
    go_wp2
    go_ret2
    rw [en]
    exact ⟨rfl, b0⟩
  · have e0 : d ≠ [] := by rintro rfl; exact h0 rfl
    go_wp2_with (go_at_call 81; refine hrun.mono ?_)
    rintro e W0 ⟨rfl, b0⟩
    have hpos : 0 < d.length := by omega
    have hs0 : 0 < s.length := by omega
    have hsz : 0 < (⟨s.toArray⟩ : ByteArray).size := by simpa [ByteArray.size] using hs0
    have hg0 : (⟨s.toArray⟩ : ByteArray)[0] = s[0] := rfl
    have hgn : ∀ x : UInt8, (s.head? = some x) ↔ s[0] = x := fun x => by
      rw [List.head?_eq_getElem?, List.getElem?_eq_getElem hs0]; simp
    cases d0 : ((d.length : Int) == 0)
    case true => exact absurd (by simpa using d0) h0
    have hS : (⟨(signT neg).toArray⟩ : ByteArray) ++ (⟨s.toArray⟩ : ByteArray).extract 0 d.length = ⟨(signT neg ++ d).toArray⟩ := by
      apply ByteArray.ext
      simp [ByteArray.data_extract, htk]
    have hcat : ¬ 9223372036854775807 < List.length (signT neg) + d.length := by have := signT_le neg; omega
    cases d1 : decide (1 < (d.length : Int))
    · have f1 : ¬ 1 < d.length := by have := of_decide_eq_false d1; omega
      have en : numD neg s = if inI neg d then (valI neg d, d.length) else (0, 0) := by
        unfold numD
        rw [ed, if_neg (by simp [e0, f1])]
        rfl
      have hv0 : W0.cell? ⟨3, 0, none⟩ = some ev := by rw [b0.cell hg]; exact hv
      by_cases hr : inI neg d
      · rw [if_pos hr] at en
        go_wp2_with (go_at_call 83; refine (atoi_in neg d e0 hall (by omega) _ (by first | exact hS | (apply ByteArray.ext; simp [ByteArray.data_extract, htk])) hr _).mono ?_)
        rintro e W1 ⟨rfl, b1⟩
        go_wp2
        go_ret2
        rw [en]
        exact ⟨rfl, b0.trans (b1.mono b0.size)⟩
      · rw [if_neg hr] at en
        go_wp2_with (go_at_call 83; refine (atoi_out neg d e0 hall (by omega) _ (by first | exact hS | (apply ByteArray.ext; simp [ByteArray.data_extract, htk])) hr _ ev hv0 hev).mono ?_)
        rintro e W1 ⟨⟨x, N, rfl⟩, b1⟩
        go_wp2
        go_ret2
        rw [en]
        exact ⟨rfl, b0.trans (b1.mono b0.size)⟩
    · have f1 : 1 < d.length := by have := of_decide_eq_true d1; omega
      cases d2 : ((s[0].toNat : Int) == 48)
      · have f2 : s.head? ≠ some 48 := by
          rw [ne_eq, hgn]; intro e; rw [e] at d2; simp at d2
        have en : numD neg s = if inI neg d then (valI neg d, d.length) else (0, 0) := by
          unfold numD
          rw [ed, if_neg (by simp [e0, f2])]
          rfl
        have hv0 : W0.cell? ⟨3, 0, none⟩ = some ev := by rw [b0.cell hg]; exact hv
        by_cases hr : inI neg d
        · rw [if_pos hr] at en
          go_wp2_with (go_at_call 83; refine (atoi_in neg d e0 hall (by omega) _ (by first | exact hS | (apply ByteArray.ext; simp [ByteArray.data_extract, htk])) hr _).mono ?_)
          rintro e W1 ⟨rfl, b1⟩
          go_wp2
          go_ret2
          rw [en]
          exact ⟨rfl, b0.trans (b1.mono b0.size)⟩
        · rw [if_neg hr] at en
          go_wp2_with (go_at_call 83; refine (atoi_out neg d e0 hall (by omega) _ (by first | exact hS | (apply ByteArray.ext; simp [ByteArray.data_extract, htk])) hr _ ev hv0 hev).mono ?_)
          rintro e W1 ⟨⟨x, N, rfl⟩, b1⟩
          go_wp2
          go_ret2
          rw [en]
          exact ⟨rfl, b0.trans (b1.mono b0.size)⟩
      · have f2 : s.head? = some 48 := by
          rw [hgn]
          have : (s[0].toNat : Int) = 48 := by simpa using d2
          exact UInt8.toNat_inj.1 (by show s[0].toNat = 48; omega)
        have en : numD neg s = (0, 0) := by unfold numD; rw [ed, if_pos (.inr ⟨f1, f2⟩)]
        go_wp2
        go_ret2
        rw [en]
        exact ⟨rfl, b0⟩
def ErrT (h : Heap) : Prop := ∃ ev : Value, (ev = .nilIface ∨ ∃ te pe, ev = .iface te pe) ∧ Tab h 3 [ev]
theorem ErrT.sub {h h' : Heap} (he : ErrT h) (hs : Ab.Sub h h') : ErrT h' := by
  obtain ⟨ev, h1, h2⟩ := he
  exact ⟨ev, h1, h2.sub hs⟩
theorem number_ok (neg : Bool) (s : Txt) (hs : s.length ≤ 10000) (h : Heap) (he : ErrT h) : FnOK Tryz.prog 63 [.s (signT neg), .s s] h fun r h' => r = .tup [.v (.int .i64 (numD neg s).1), .v (.int .i64 ((numD neg s).2 : Nat))] ∧ h' = h := by
  obtain ⟨ev, hev, id, hi⟩ := he
  refine .lib ⟨_, Tryz.func63, by kernel_rfl, rfl⟩ fun c vs hs' g h1 h2 => ?_
  obtain ⟨u, v, rfl⟩ : ∃ u v, vs = #[u, v] := by
    match vs, h1 with
    | ⟨[u, v]⟩, _ => exact ⟨u, v, rfl⟩
  have e1 : u = .string ⟨(signT neg).toArray⟩ := ((h2 0 (by simp)).s_inv).1
  have e2 : v = .string ⟨s.toArray⟩ := ((h2 1 (by simp)).s_inv).1
  subst e1; subst e2
  obtain ⟨_, t, fr, hh⟩ := g.ro id _ _ (hs' _ _ hi)
  have hc : c.w.cell? ⟨3, 0, none⟩ = some ev := by simp [World.cell?, hh]
  refine (number_walk neg s hs c.w ev hc hev (lt_of_get hh)).mono ?_
  rintro e w' ⟨rfl, hb⟩
  refine ⟨⟨_, rfl, fun c' _ => ?_⟩, hb⟩
  refine .tup _ _ rfl fun i hi => ?_
  rcases i with _ | _ | i
  · exact .v _
  · exact .v _
  · simp at hi; omega
end Go.Proofs.YtdcchpbncckhlaaGreatDoor

set_option linter.unusedSimpArgs false
set_option linter.unusedVariables false
namespace Go.Bf
open Go Go.Ab
def marks : Txt := [123, 125, 40, 41, 46, 44, 59, 61, 60, 62, 33]
set_option maxRecDepth 100000 in
theorem idx_marks_fin : ∀ n : Fin 256, decide (0 ≤ Lib.indexByte marks (UInt8.ofNat n.val)) = markB (UInt8.ofNat n.val) := by decide
theorem idx_marks (c : UInt8) : decide (0 ≤ Lib.indexByte marks c) = markB c := by
  have := idx_marks_fin ⟨c.toNat, c.toNat_lt⟩
  simpa using this
end Go.Bf
namespace Go.Proofs.YtdcchpbncckhlaaGreatDoor
open Go Go.Ab Go.Bf
theorem index_ok (l : Txt) (c : UInt8) (h : Heap) : FnOK Tryz.prog 65 [.s l, .v (.int .u8 c.toNat)] h fun r h' => r = .v (.int .i64 (Lib.indexByte l c)) ∧ h' = h := by
  refine .lib ⟨_, Tryz.func65, by kernel_rfl, rfl⟩ fun cx vs hs' g h1 h2 => ?_
  obtain ⟨u, v, rfl⟩ : ∃ u v, vs = #[u, v] := by
    match vs, h1 with
    | ⟨[u, v]⟩, _ => exact ⟨u, v, rfl⟩
  have e1 : u = .string ⟨l.toArray⟩ := ((h2 0 (by simp)).s_inv).1
  have e2 : v = .int .u8 c.toNat := (h2 1 (by simp)).v_inv
  subst e1; subst e2
  refine (Tryz.strings_IndexByte ⟨l.toArray⟩ c.toNat cx.w).mono ?_
  rintro e w' ⟨rfl, rfl⟩
  refine ⟨⟨_, rfl, fun c' _ => ?_⟩, .refl _ _⟩
  have : ((c.toNat : Int).toNat).toUInt8 = c := by simp
  rw [this]
  exact .v _
theorem begins_ok (s : Txt) (h0 : s ≠ []) (hs : s.length ≤ 4096) (h : Heap) (he : ErrT h) : FnOK Tryz.prog 40 [.s s] h fun r h' => r = .tup [tokA (beginsD s).1, .v (.int .i64 ((beginsD s).2 : Nat))] ∧ h' = h := by
  refine FnOK.body hU hm Tryz.func40 rfl (by kernel_rfl) 106 rfl [.cell 2 73, .tmp 3] rfl (Nat.le_of_ble_eq_true rfl) (fun hwf => ?_)
  obtain ⟨c, r, rfl⟩ := List.exists_cons_of_ne_nil h0
  have hsl : r.length ≤ 4095 := by simpa using hs
  simp -implicitDefEqProofs only [go_sem]
  intro i2 hi2
  simp -implicitDefEqProofs only [go_sem]
  intro i4 hi4
  have n24 := ne_upd hi4
  have g2 : ∀ (f : Heap) (x : Option Blk), upd f i4 x i2 = f i2 := fun f x => upd_other f x n24.symm
  have g4 : ∀ (f : Heap) (x : Option Blk), upd f i2 x i4 = f i4 := fun f x => upd_other f x n24
  have hsub : Ab.Sub h (upd (upd h i2 (some (.obj [.v (.int .i64 0), .v (.int .i64 0), .v (.int .i64 0), .s []] 73))) i4 (some (.obj [.v (.int .i64 0), .v (.int .i64 0), .v (.int .i64 0), .s []] 73))) := (Sub.upd_new hi2).trans (.upd_new hi4)
  have he2 := he.sub hsub
  have hi4h : h i4 = none := by rw [upd_other _ _ n24] at hi4; exact hi4
  simp -implicitDefEqProofs only [go_sem]
  refine .at 0 (by simp) ?_
  cases la : decide (97 ≤ (c.toNat : Int))
  · have hl : ltr c = false := by simp only [ltr, la, Bool.false_and]
    simp -implicitDefEqProofs only [go_sem, byteA, List.getElem_cons_zero, la]
    have hlt : (c :: r).headD 0 = c := rfl
    refine (isDigit_ok c _).pthen ?_
    cases d1 : dgt c
    case true =>
      simp -implicitDefEqProofs only [go_sem, d1, g2, g4, upd_same]
      refine (number_ok false (c :: r) (by simp; omega) _ (he.sub (by repeat (first | exact .refl _ | refine Sub.put ?_ (by assumption) _)))).pthen ?_
      simp -implicitDefEqProofs only [go_sem, d1, g2, g4, upd_same]
      exact .mk _ (.refl _) (by repeat (first | exact .refl _ | refine Sub.put ?_ (by assumption) _)) ⟨by simp [beginsD, hl, d1, tokA, oneOr], rfl⟩
    have nb : ∀ (x : UInt8) (n : Int), n = x.toNat → ((c.toNat : Int) == n) = true → c = x := fun x n e h => by
      have : (c.toNat : Int) = n := by simpa using h
      exact UInt8.toNat_inj.1 (by omega)
    have nn : ∀ (x : UInt8) (n : Int), n = x.toNat → ((c.toNat : Int) == n) = false → c ≠ x := fun x n e h hc => by
      subst hc; rw [e] at h; simp at h
    have k1 := numD_le true r
    have k2 := numD_le false r
    have k3 := wordD_le r
    cases d2 : ((c.toNat : Int) == 45)
    case true =>
      have e2 := nb 45 45 rfl d2
      simp -implicitDefEqProofs only [go_sem, d1, d2, g2, g4, upd_same, cutL_tf, Option.isSome_none, Option.isSome_some, Int.reduceToNat, List.drop_succ_cons, List.drop_zero, List.length_cons]
      refine ⟨by omega, by omega, by omega, ?_⟩
      refine (number_ok true r (by omega) _ (he.sub (by repeat (first | exact .refl _ | refine Sub.put ?_ (by assumption) _)))).pthen ?_
      cases d3 : ((numD true r).1 == 0)
      · have e3 : (numD true r).1 ≠ 0 := by simpa using d3
        have w1 : IntKind.i64.wrap (((numD true r).2 : Int) + 1) = (((numD true r).2 + 1 : Nat) : Int) := by rw [wr64 _ (by omega)]; omega
        simp -implicitDefEqProofs only [go_sem, d1, d2, d3, g2, g4, upd_same, w1]
        exact .mk _ (.refl _) (by repeat (first | exact .refl _ | refine Sub.put ?_ (by assumption) _)) ⟨by subst e2; simp [beginsD, hl, d1, e3, tokA, oneOr], rfl⟩
      · have e3 : (numD true r).1 = 0 := by simpa using d3
        simp -implicitDefEqProofs only [go_sem, d1, d2, d3, g2, g4, upd_same]
        exact .mk _ (.refl _) (by repeat (first | exact .refl _ | refine Sub.put ?_ (by assumption) _)) ⟨by subst e2; simp [beginsD, hl, d1, e3, tokA, oneOr], rfl⟩
    have e2 := nn 45 45 rfl d2
    cases d4 : ((c.toNat : Int) == 64)
    case true =>
      have e4 := nb 64 64 rfl d4
      simp -implicitDefEqProofs only [go_sem, d1, d2, d4, g2, g4, upd_same, cutL_tf, Option.isSome_none, Option.isSome_some, Int.reduceToNat, List.drop_succ_cons, List.drop_zero, List.length_cons]
      refine ⟨by omega, by omega, by omega, ?_⟩
      refine (number_ok false r (by omega) _ (he.sub (by repeat (first | exact .refl _ | refine Sub.put ?_ (by assumption) _)))).pthen ?_
      cases d3 : (((numD false r).2 : Int) == 0)
      case true =>
        have e3 : (numD false r).2 = 0 := by simpa using d3
        simp -implicitDefEqProofs only [go_sem, d1, d2, d4, d3, g2, g4, upd_same]
        exact .mk _ (.refl _) (by repeat (first | exact .refl _ | refine Sub.put ?_ (by assumption) _)) ⟨by subst e4; simp [beginsD, hl, d1, e3, tokA, oneOr], rfl⟩
      have e3 : (numD false r).2 ≠ 0 := by simpa using d3
      cases d5 : decide (1099511627776 < (numD false r).1)
      · have e5 : ¬ 1099511627776 < (numD false r).1 := of_decide_eq_false d5
        have w1 : IntKind.i64.wrap (((numD false r).2 : Int) + 1) = (((numD false r).2 + 1 : Nat) : Int) := by rw [wr64 _ (by omega)]; omega
        simp -implicitDefEqProofs only [go_sem, d1, d2, d4, d3, d5, g2, g4, upd_same, w1]
        exact .mk _ (.refl _) (by repeat (first | exact .refl _ | refine Sub.put ?_ (by assumption) _)) ⟨by subst e4; simp [beginsD, hl, d1, e3, e5, tokA, oneOr], rfl⟩
      · have e5 : 1099511627776 < (numD false r).1 := of_decide_eq_true d5
        simp -implicitDefEqProofs only [go_sem, d1, d2, d4, d3, d5, g2, g4, upd_same]
        exact .mk _ (.refl _) (by repeat (first | exact .refl _ | refine Sub.put ?_ (by assumption) _)) ⟨by subst e4; simp [beginsD, hl, d1, e3, e5, tokA, oneOr], rfl⟩
    have e4 := nn 64 64 rfl d4
    cases d6 : ((c.toNat : Int) == 35)
    case true =>
      have e6 := nb 35 35 rfl d6
      simp -implicitDefEqProofs only [go_sem, d1, d2, d4, d6, g2, g4, upd_same, cutL_tf, Option.isSome_none, Option.isSome_some, Int.reduceToNat, List.drop_succ_cons, List.drop_zero, List.length_cons]
      refine ⟨by omega, by omega, by omega, ?_⟩
      refine (name_ok' r _).pthen ?_
      cases d3 : (wordD r == [])
      · have e3 : wordD r ≠ [] := by simpa using d3
        have w1 : IntKind.i64.wrap (((wordD r).length : Int) + 1) = (((wordD r).length + 1 : Nat) : Int) := by rw [wr64 _ (by omega)]; omega
        simp -implicitDefEqProofs only [go_sem, d1, d2, d4, d6, d3, g2, g4, upd_same, w1]
        exact .mk _ (.refl _) (by repeat (first | exact .refl _ | refine Sub.put ?_ (by assumption) _)) ⟨by subst e6; simp [beginsD, hl, d1, e3, tokA, oneOr], rfl⟩
      · have e3 : wordD r = [] := by simpa using d3
        simp -implicitDefEqProofs only [go_sem, d1, d2, d4, d6, d3, g2, g4, upd_same]
        exact .mk _ (.refl _) (by repeat (first | exact .refl _ | refine Sub.put ?_ (by assumption) _)) ⟨by subst e6; simp [beginsD, hl, d1, e3, tokA, oneOr], rfl⟩
    have e6 := nn 35 35 rfl d6
    cases d7 : ((c.toNat : Int) == 34)
    case true =>
      have e7 := nb 34 34 rfl d7
      simp -implicitDefEqProofs only [go_sem, d1, d2, d4, d6, d7, g2, g4, upd_same]
      refine (text_ok (c :: r) (by simp; omega) _).pthen ?_
      simp -implicitDefEqProofs only [go_sem, d1, d2, d4, d6, d7, g2, g4, upd_same]
      exact .mk _ (.refl _) (by repeat (first | exact .refl _ | refine Sub.put ?_ (by assumption) _)) ⟨by subst e7; simp [beginsD, hl, d1, tokA, oneOr], rfl⟩
    have e7 := nn 34 34 rfl d7
    simp -implicitDefEqProofs only [go_sem, d1, d2, d4, d6, d7, g2, g4, upd_same]
    refine (index_ok marks c _).pthen ?_
    cases d8 : markB c
    · simp -implicitDefEqProofs only [go_sem, d1, d2, d4, d6, d7, g2, g4, upd_same, idx_marks, d8]
      exact .mk _ (.refl _) (by repeat (first | exact .refl _ | refine Sub.put ?_ (by assumption) _)) ⟨by simp [beginsD, hl, d1, e2, e4, e6, e7, d8, tokA, oneOr], rfl⟩
    · simp -implicitDefEqProofs only [go_sem, d1, d2, d4, d6, d7, g2, g4, upd_same, idx_marks, d8]
      refine .calls noHeap [0, 1, 2, 3, 4, 5, 6] (fun _ _ h => by cases h) (by kernel_rfl) rfl ?_
      simp -implicitDefEqProofs only [go_sem, d1, d2, d4, d6, d7, d8, g2, g4, upd_same, cutL_ft, Option.isSome_none, Option.isSome_some, Int.reduceToNat, List.take_succ_cons, List.take_zero, List.length_cons]
      refine ⟨by omega, by omega, by omega, (fun _ _ h => (by cases h)), (fun _ _ h => (by cases h)), ?_⟩
      exact .mk _ (.refl _) (by repeat (first | exact .refl _ | refine Sub.put ?_ (by assumption) _)) ⟨by simp [beginsD, hl, d1, e2, e4, e6, e7, d8, tokA, oneOr], rfl⟩
  · cases lb : decide ((c.toNat : Int) ≤ 122)
    · have hl : ltr c = false := by simp only [ltr, lb, Bool.and_false]
      simp -implicitDefEqProofs only [go_sem, byteA, List.getElem_cons_zero, la, lb]
      have hlt : (c :: r).headD 0 = c := rfl
      refine (isDigit_ok c _).pthen ?_
      cases d1 : dgt c
      case true =>
        simp -implicitDefEqProofs only [go_sem, d1, g2, g4, upd_same]
        refine (number_ok false (c :: r) (by simp; omega) _ (he.sub (by repeat (first | exact .refl _ | refine Sub.put ?_ (by assumption) _)))).pthen ?_
        simp -implicitDefEqProofs only [go_sem, d1, g2, g4, upd_same]
        exact .mk _ (.refl _) (by repeat (first | exact .refl _ | refine Sub.put ?_ (by assumption) _)) ⟨by simp [beginsD, hl, d1, tokA, oneOr], rfl⟩
      have nb : ∀ (x : UInt8) (n : Int), n = x.toNat → ((c.toNat : Int) == n) = true → c = x := fun x n e h => by
        have : (c.toNat : Int) = n := by simpa using h
        exact UInt8.toNat_inj.1 (by omega)
      have nn : ∀ (x : UInt8) (n : Int), n = x.toNat → ((c.toNat : Int) == n) = false → c ≠ x := fun x n e h hc => by
        subst hc; rw [e] at h; simp at h
      have k1 := numD_le true r
      have k2 := numD_le false r
      have k3 := wordD_le r
      cases d2 : ((c.toNat : Int) == 45)
      case true =>
        have e2 := nb 45 45 rfl d2
        simp -implicitDefEqProofs only [go_sem, d1, d2, g2, g4, upd_same, cutL_tf, Option.isSome_none, Option.isSome_some, Int.reduceToNat, List.drop_succ_cons, List.drop_zero, List.length_cons]
        refine ⟨by omega, by omega, by omega, ?_⟩
        refine (number_ok true r (by omega) _ (he.sub (by repeat (first | exact .refl _ | refine Sub.put ?_ (by assumption) _)))).pthen ?_
        cases d3 : ((numD true r).1 == 0)
        · have e3 : (numD true r).1 ≠ 0 := by simpa using d3
          have w1 : IntKind.i64.wrap (((numD true r).2 : Int) + 1) = (((numD true r).2 + 1 : Nat) : Int) := by rw [wr64 _ (by omega)]; omega
          simp -implicitDefEqProofs only [go_sem, d1, d2, d3, g2, g4, upd_same, w1]
          exact .mk _ (.refl _) (by repeat (first | exact .refl _ | refine Sub.put ?_ (by assumption) _)) ⟨by subst e2; simp [beginsD, hl, d1, e3, tokA, oneOr], rfl⟩
        · have e3 : (numD true r).1 = 0 := by simpa using d3
          simp -implicitDefEqProofs only [go_sem, d1, d2, d3, g2, g4, upd_same]
          exact .mk _ (.refl _) (by repeat (first | exact .refl _ | refine Sub.put ?_ (by assumption) _)) ⟨by subst e2; simp [beginsD, hl, d1, e3, tokA, oneOr], rfl⟩
      have e2 := nn 45 45 rfl d2
      cases d4 : ((c.toNat : Int) == 64)
      case true =>
        have e4 := nb 64 64 rfl d4
        simp -implicitDefEqProofs only [go_sem, d1, d2, d4, g2, g4, upd_same, cutL_tf, Option.isSome_none, Option.isSome_some, Int.reduceToNat, List.drop_succ_cons, List.drop_zero, List.length_cons]
        refine ⟨by omega, by omega, by omega, ?_⟩
        refine (number_ok false r (by omega) _ (he.sub (by repeat (first | exact .refl _ | refine Sub.put ?_ (by assumption) _)))).pthen ?_
        cases d3 : (((numD false r).2 : Int) == 0)
        case true =>
          have e3 : (numD false r).2 = 0 := by simpa using d3
          simp -implicitDefEqProofs only [go_sem, d1, d2, d4, d3, g2, g4, upd_same]
          exact .mk _ (.refl _) (by repeat (first | exact .refl _ | refine Sub.put ?_ (by assumption) _)) ⟨by subst e4; simp [beginsD, hl, d1, e3, tokA, oneOr], rfl⟩
        have e3 : (numD false r).2 ≠ 0 := by simpa using d3
        cases d5 : decide (1099511627776 < (numD false r).1)
        · have e5 : ¬ 1099511627776 < (numD false r).1 := of_decide_eq_false d5
          have w1 : IntKind.i64.wrap (((numD false r).2 : Int) + 1) = (((numD false r).2 + 1 : Nat) : Int) := by rw [wr64 _ (by omega)]; omega
          simp -implicitDefEqProofs only [go_sem, d1, d2, d4, d3, d5, g2, g4, upd_same, w1]
          exact .mk _ (.refl _) (by repeat (first | exact .refl _ | refine Sub.put ?_ (by assumption) _)) ⟨by subst e4; simp [beginsD, hl, d1, e3, e5, tokA, oneOr], rfl⟩
        · have e5 : 1099511627776 < (numD false r).1 := of_decide_eq_true d5
          simp -implicitDefEqProofs only [go_sem, d1, d2, d4, d3, d5, g2, g4, upd_same]
          exact .mk _ (.refl _) (by repeat (first | exact .refl _ | refine Sub.put ?_ (by assumption) _)) ⟨by subst e4; simp [beginsD, hl, d1, e3, e5, tokA, oneOr], rfl⟩
      have e4 := nn 64 64 rfl d4
      cases d6 : ((c.toNat : Int) == 35)
      case true =>
        have e6 := nb 35 35 rfl d6
        simp -implicitDefEqProofs only [go_sem, d1, d2, d4, d6, g2, g4, upd_same, cutL_tf, Option.isSome_none, Option.isSome_some, Int.reduceToNat, List.drop_succ_cons, List.drop_zero, List.length_cons]
        refine ⟨by omega, by omega, by omega, ?_⟩
        refine (name_ok' r _).pthen ?_
        cases d3 : (wordD r == [])
        · have e3 : wordD r ≠ [] := by simpa using d3
          have w1 : IntKind.i64.wrap (((wordD r).length : Int) + 1) = (((wordD r).length + 1 : Nat) : Int) := by rw [wr64 _ (by omega)]; omega
          simp -implicitDefEqProofs only [go_sem, d1, d2, d4, d6, d3, g2, g4, upd_same, w1]
          exact .mk _ (.refl _) (by repeat (first | exact .refl _ | refine Sub.put ?_ (by assumption) _)) ⟨by subst e6; simp [beginsD, hl, d1, e3, tokA, oneOr], rfl⟩
        · have e3 : wordD r = [] := by simpa using d3
          simp -implicitDefEqProofs only [go_sem, d1, d2, d4, d6, d3, g2, g4, upd_same]
          exact .mk _ (.refl _) (by repeat (first | exact .refl _ | refine Sub.put ?_ (by assumption) _)) ⟨by subst e6; simp [beginsD, hl, d1, e3, tokA, oneOr], rfl⟩
      have e6 := nn 35 35 rfl d6
      cases d7 : ((c.toNat : Int) == 34)
      case true =>
        have e7 := nb 34 34 rfl d7
        simp -implicitDefEqProofs only [go_sem, d1, d2, d4, d6, d7, g2, g4, upd_same]
        refine (text_ok (c :: r) (by simp; omega) _).pthen ?_
        simp -implicitDefEqProofs only [go_sem, d1, d2, d4, d6, d7, g2, g4, upd_same]
        exact .mk _ (.refl _) (by repeat (first | exact .refl _ | refine Sub.put ?_ (by assumption) _)) ⟨by subst e7; simp [beginsD, hl, d1, tokA, oneOr], rfl⟩
      have e7 := nn 34 34 rfl d7
      simp -implicitDefEqProofs only [go_sem, d1, d2, d4, d6, d7, g2, g4, upd_same]
      refine (index_ok marks c _).pthen ?_
      cases d8 : markB c
      · simp -implicitDefEqProofs only [go_sem, d1, d2, d4, d6, d7, g2, g4, upd_same, idx_marks, d8]
        exact .mk _ (.refl _) (by repeat (first | exact .refl _ | refine Sub.put ?_ (by assumption) _)) ⟨by simp [beginsD, hl, d1, e2, e4, e6, e7, d8, tokA, oneOr], rfl⟩
      · simp -implicitDefEqProofs only [go_sem, d1, d2, d4, d6, d7, g2, g4, upd_same, idx_marks, d8]
        refine .calls noHeap [0, 1, 2, 3, 4, 5, 6] (fun _ _ h => by cases h) (by kernel_rfl) rfl ?_
        simp -implicitDefEqProofs only [go_sem, d1, d2, d4, d6, d7, d8, g2, g4, upd_same, cutL_ft, Option.isSome_none, Option.isSome_some, Int.reduceToNat, List.take_succ_cons, List.take_zero, List.length_cons]
        refine ⟨by omega, by omega, by omega, (fun _ _ h => (by cases h)), (fun _ _ h => (by cases h)), ?_⟩
        exact .mk _ (.refl _) (by repeat (first | exact .refl _ | refine Sub.put ?_ (by assumption) _)) ⟨by simp [beginsD, hl, d1, e2, e4, e6, e7, d8, tokA, oneOr], rfl⟩
    · have hl : ltr c = true := by simp only [ltr, la, lb]; rfl
      simp -implicitDefEqProofs only [go_sem, byteA, List.getElem_cons_zero, la, lb]
      refine (name_ok' _ _).pthen ?_
      simp -implicitDefEqProofs only [go_sem, g2, g4, upd_same]
      exact .mk _ (.refl _) (by repeat (first | exact .refl _ | refine Sub.put ?_ (by assumption) _)) ⟨by simp [beginsD, hl, tokA, oneOr], rfl⟩
end Go.Proofs.YtdcchpbncckhlaaGreatDoor

set_option linter.unusedSimpArgs false
set_option linter.unusedVariables false
namespace Go.Proofs.YtdcchpbncckhlaaGreatDoor
open Go Go.Ab Go.Bf
theorem u97z : (U 73).sz = 4 := by simp only [go_sem]
theorem u97b : (U 73).bytes = 40 := by simp only [go_sem]
theorem tokA_sized (l : List TokD) : Sized 4 (l.map tokA) := fun z hz => by
  obtain ⟨c, _, rfl⟩ := List.mem_map.1 hz; rfl
def lexR : Lexed → AV
  | .bad e a => .tup [.sl [] .no, .v (.int .i64 e), .v (.int .i64 a)]
  | .ok l => .tup [.sl (l.map tokA) .no, .v (.int .i64 0), .v (.int .i64 0)]
def AtBlanks (s : Txt) (h : Heap) (m : Nat) (ρ : Env) (h' : Heap) : Prop :=
  ∃ (i f : Nat) (y : AV) (out : List TokD) (id : Nat), Acc U 73 h h' y (out.map tokA) ∧ out.length ≤ i ∧ i ≤ s.length ∧ m = s.length - i ∧ s.length < f + i ∧ s.length ≤ 4096 ∧ h id = none ∧ (∃ c0 c1 c2 c3, h' id = some (.obj [c0, c1, c2, c3] 73)) ∧ lexF f (s.drop i) i out = lexD s ∧ lk ρ 0 = some (.s s) ∧ lk ρ 5 = some y ∧ lk ρ 6 = some (.ptr id 0) ∧ lk ρ 7 = some (.v (.int .i64 i))
theorem all_tok_ok (s : Txt) (h : Heap) (he : ErrT h) : FnOK Tryz.prog 18 [.s s] h fun r h' => r = lexR (lexD s) ∧ h' = h := by
  refine FnOK.of_wp hU Tryz.func18 rfl (by kernel_rfl) 52 rfl [.tmp 2, .tmp 3, .tmp 4] rfl (Nat.le_of_ble_eq_true rfl) ?_
  refine .one hU hm ?_
  simp -implicitDefEqProofs only [go_sem]
  refine WP.scope2 hU hm 0 (AtBlanks s h) rfl ?_ ?_
  · rintro m ρ h' ⟨i, f, y, out, id, hy, hoi, hi, rfl, hf, hs, hid, ⟨c0, c1, c2, c3, hob⟩, hl, r0, r5, r6, r7⟩
    refine .vc hU hm ?_
    cases d1 : ((i : Int) == (s.length : Int))
    case true =>
      have e1 : i = s.length := by have : (i : Int) = s.length := by simpa using d1
                                   omega
      subst e1
      obtain ⟨f, rfl⟩ : ∃ g, f = g + 1 := ⟨f - 1, by omega⟩
      rw [List.drop_length] at hl
      simp only [lexF] at hl
      simp -implicitDefEqProofs only [go_sem, r0, r5, r6, r7, d1]
      refine hy.app (zs := [tokA ⟨7, s.length, 0, []⟩]) (by rw [u97z]; decide) (by rw [u97b]; decide) (fun k hk => hk) (by rw [u97z]; exact tokA_sized out) (by rw [u97z]; exact tokA_sized [⟨7, s.length, 0, []⟩]) (by rw [u97b]; simp; omega) fun y' h2 hy' hk2 => ?_
      simp -implicitDefEqProofs only [go_sem, r0, r5, r6, r7]
      obtain ⟨q, rfl⟩ := hy'.row
      refine .mk _ (weak_tup3 _ _ _ _) hy'.1 ⟨?_, rfl⟩
      rw [← hl, lexR, List.map_append]; rfl
    have e1 : i ≠ s.length := by intro e; rw [e] at d1; simp at d1
    have hlt : i < s.length := by omega
    obtain ⟨f, rfl⟩ : ∃ g, f = g + 1 := ⟨f - 1, by omega⟩
    have hdr : s.drop i = s[i] :: s.drop (i + 1) := List.drop_eq_getElem_cons hlt
    have w1 : IntKind.i64.wrap ((i : Int) + 1) = ((i + 1 : Nat) : Int) := by rw [wr64 _ (by omega)]; omega
    have hl2 := hl
    rw [hdr] at hl2
    simp only [lexF] at hl2
    rw [← hdr] at hl2
    have blank : blankB s[i] = true → ∃ m', m' < s.length - i ∧ True := fun _ => ⟨s.length - (i + 1), by omega, trivial⟩
    cases d2 : ((s[i].toNat : Int) == 32)
    case true =>
      have hb : blankB s[i] = true := by simp only [blankB, d2, Bool.true_or]
      rw [if_pos hb] at hl2
      simp -implicitDefEqProofs only [go_sem, r0, r5, r6, r7, d1]
      refine .at i hlt ?_
      simp -implicitDefEqProofs only [go_sem, r0, r5, r6, r7, d1, byteA, d2, w1]
      refine ⟨s.length - (i + 1), by omega, i + 1, f, y, out, id, hy, by omega, by omega, rfl, by omega, hs, hid, ⟨c0, c1, c2, c3, hob⟩, hl2, ?_, ?_, ?_, ?_⟩ <;> simp -implicitDefEqProofs only [go_sem, r0, r5, r6, r7, w1]
    cases d3 : ((s[i].toNat : Int) == 10)
    case true =>
      have hb : blankB s[i] = true := by simp only [blankB, d3, Bool.or_true]
      rw [if_pos hb] at hl2
      simp -implicitDefEqProofs only [go_sem, r0, r5, r6, r7, d1]
      refine .at i hlt ?_
      simp -implicitDefEqProofs only [go_sem, r0, r5, r6, r7, d1, byteA, d2]
      refine .at i hlt ?_
      simp -implicitDefEqProofs only [go_sem, r0, r5, r6, r7, d1, byteA, d2, d3, w1]
      refine ⟨s.length - (i + 1), by omega, i + 1, f, y, out, id, hy, by omega, by omega, rfl, by omega, hs, hid, ⟨c0, c1, c2, c3, hob⟩, hl2, ?_, ?_, ?_, ?_⟩ <;> simp -implicitDefEqProofs only [go_sem, r0, r5, r6, r7, w1]
    have hb : ¬ blankB s[i] = true := by simp only [blankB, d2, d3]; decide
    rw [if_neg hb] at hl2
    have hne : s.drop i ≠ [] := fun e => by have := congrArg List.length e; simp at this; omega
    have hle := beginsD_le (s.drop i) hne
    have hdl : (s.drop i).length = s.length - i := by simp
    have hbo := fun hh eh => begins_ok (s.drop i) hne (by omega) hh eh
    obtain ⟨t, n, etn⟩ : ∃ t n, beginsD (s.drop i) = (t, n) := ⟨_, _, rfl⟩
    rw [etn] at hbo hl2 hle
    simp only [tokA] at hbo hl2 hle
    simp -implicitDefEqProofs only [go_sem, r0, r5, r6, r7, d1]
    refine .at i hlt ?_
    simp -implicitDefEqProofs only [go_sem, r0, r5, r6, r7, d1, byteA, d2]
    refine .at i hlt ?_
    simp -implicitDefEqProofs only [go_sem, r0, r5, r6, r7, d1, byteA, d2, d3, cutL_tf, Option.isSome_none, Option.isSome_some, Int.toNat_natCast]
    refine ⟨by omega, by omega, by omega, ?_⟩
    refine (hbo _ (he.sub hy.1)).pthen ?_
    cases d4 : ((n : Int) == 0)
    case true =>
      have e4 : n = 0 := by have : (n : Int) = 0 := by simpa using d4
                            omega
      rw [if_pos e4] at hl2
      simp -implicitDefEqProofs only [go_sem, r0, r5, r6, r7, hob, d4]
      refine .mk _ (weak_tup3 _ _ _ _) (hy.1.put hid _) ⟨?_, rfl⟩
      rw [← hl2]; rfl
    have e4 : n ≠ 0 := by intro e; rw [e] at d4; simp at d4
    rw [if_neg e4] at hl2
    have w2 : IntKind.i64.wrap ((i : Int) + (n : Int)) = ((i + n : Nat) : Int) := by rw [wr64 _ (by omega)]; omega
    simp -implicitDefEqProofs only [go_sem, r0, r5, r6, r7, hob, d4]
    refine (hy.put hid hob _).app (zs := [tokA { t with pos := i }]) (by rw [u97z]; decide) (by rw [u97b]; decide) (fun k hk => hk) (by rw [u97z]; exact tokA_sized out) (by rw [u97z]; exact tokA_sized [{ t with pos := i }]) (by rw [u97b]; simp; omega) fun y' h2 hy' hk2 => ?_
    simp -implicitDefEqProofs only [go_sem, r0, r5, r6, r7, w2]
    refine ⟨s.length - (i + n), by omega, i + n, f, y', out ++ [{ t with pos := i }], id, by simpa using hy', by simp; omega, by omega, rfl, by omega, hs, hid, ⟨_, _, _, _, hk2 _ _ _ (upd_same ..)⟩, ?_, ?_, ?_, ?_, ?_⟩
    · rw [List.drop_drop] at hl2; exact hl2
    all_goals simp -implicitDefEqProofs only [go_sem, r0, r5, r6, r7, w2]
  · intro nx
    cases d0 : decide (4096 < (s.length : Int))
    case true =>
      have e0 : s.length > 4096 := by have := of_decide_eq_true d0; omega
      refine .one hU hm ?_
      simp -implicitDefEqProofs only [go_sem, d0]
      exact .mk (.tup [.sl [] .no, .v (.int .i64 6), .v (.int .i64 4096)]) (weak_strip (.tup [.sl [] .full, .v (.int .i64 6), .v (.int .i64 4096)])) (.refl _) ⟨by rw [lexD, if_pos e0]; rfl, rfl⟩
    have e0 : ¬ s.length > 4096 := by have := of_decide_eq_false d0; omega
    refine .one hU hm ?_
    simp -implicitDefEqProofs only [go_sem, d0]
    refine .one hU hm ?_
    simp -implicitDefEqProofs only [go_sem]
    refine .one hU hm ?_
    simp -implicitDefEqProofs only [go_sem]
    intro id hid
    simp -implicitDefEqProofs only [go_sem]
    refine .one hU hm ?_
    simp -implicitDefEqProofs only [go_sem]
    refine .one hU hm ?_
    simp -implicitDefEqProofs only [go_sem]
    refine nx (s.length - 0) _ _ ⟨0, s.length + 1, _, [], id, .full (.upd_new hid), by simp, by omega, rfl, by omega, by omega, hid, ⟨_, _, _, _, upd_same ..⟩, by rw [lexD, if_neg e0]; rfl, ?_, ?_, ?_, ?_⟩ <;> simp -implicitDefEqProofs only [go_sem]
end Go.Proofs.YtdcchpbncckhlaaGreatDoor

set_option linter.unusedSimpArgs false
set_option linter.unusedVariables false
namespace Go.Proofs.YtdcchpbncckhlaaGreatDoor
open Go Go.Ab Go.Bf
def PO (st : PS) : Blk := .obj [.sl (st.ts.map tokA) .no, .v (.int .i64 st.pos), .v (.int .i64 st.rules), .v (.int .i64 st.bad), .v (.int .i64 st.place)] 70
def PC (f : FuncId) (args : List AV) (st : PS) (R : AV) (st' : PS) : Prop := ∀ (h : Heap) (id : Nat), h id = some (PO st) → FnOK Tryz.prog f (.ptr id 0 :: args) h fun r h' => r = R ∧ h' = upd h id (some (PO st'))
theorem PC.go {f : FuncId} {args : List AV} {st st' : PS} {R : AV} (hc : PC f args st R st') {h : Heap} {id : Nat} {Q : AV → Heap → Prop} (hid : h id = some (PO st)) (k : Q R (upd h id (some (PO st')))) : FnOK Tryz.prog f (.ptr id 0 :: args) h Q :=
  (hc h id hid).mono fun r h' ⟨e1, e2⟩ => by subst e1; subst e2; exact k
theorem upd_self {h : Heap} {id : Nat} {b : Option Blk} (e : h id = b) : upd h id b = h := by
  funext j
  by_cases hj : j = id
  · subst hj; rw [upd_same, e]
  · rw [upd_other _ _ hj]
theorem wrong_ok (st : PS) (e p : Int) : PC 22 [.v (.int .i64 e), .v (.int .i64 p)] st (.tup []) (wrongD st e p) := fun h id hid => by
  refine FnOK.body hU hm Tryz.func22 rfl (by kernel_rfl) 19 rfl [] rfl (Nat.le_of_ble_eq_true rfl) (fun hwf => ?_)
  have g := hid
  unfold PO at g
  cases d1 : (st.bad == 0)
  · have e1 : st.bad ≠ 0 := by simpa using d1
    simp -implicitDefEqProofs only [go_sem, g, d1]
    exact .mk _ (.refl _) (.refl _) ⟨rfl, by rw [wrongD, if_neg e1, upd_self hid]⟩
  · have e1 : st.bad = 0 := by simpa using d1
    simp -implicitDefEqProofs only [go_sem, g, d1]
    exact .mk _ (.refl _) (.refl _) ⟨rfl, by rw [wrongD, if_pos e1]; rfl⟩
theorem here_ok (st : PS) (hw : WfP st) : PC 20 [] st (tokA (hereD st)) st := fun h id hid => by
  refine FnOK.body hU hm Tryz.func20 rfl (by kernel_rfl) 13 rfl [.cell 2 73] rfl (Nat.le_of_ble_eq_true rfl) (fun hwf => ?_)
  have g := hid
  unfold PO at g
  simp -implicitDefEqProofs only [go_sem]
  intro i2 hi2
  have n2 : id ≠ i2 := fun e => by rw [e, hi2] at hid; cases hid
  simp -implicitDefEqProofs only [go_sem, g, upd_ne, n2]
  refine ⟨.of (by kernel_rfl), ?_⟩
  refine .at st.pos (by simpa using hw.1) (by rw [List.getElem_map]; rfl) ?_
  simp -implicitDefEqProofs only [go_sem, g, upd_ne, n2, List.getElem_map, tokA]
  refine .mk _ (.refl _) (.upd_new hi2) ⟨by rw [hereD_eq hw.1]; rfl, (upd_self hid).symm⟩
theorem stuck_ok (st : PS) (hw : WfP st) : PC 21 [] st (.tup []) (stuckD st) := fun h id hid => by
  refine FnOK.body hU hm Tryz.func21 rfl (by kernel_rfl) 7 rfl [] rfl (Nat.le_of_ble_eq_true rfl) (fun hwf => ?_)
  simp -implicitDefEqProofs only [go_sem]
  refine (here_ok st hw).go hid ?_
  rw [upd_self hid]
  simp -implicitDefEqProofs only [go_sem, tokA]
  refine (wrong_ok st 5 _).go hid ?_
  simp -implicitDefEqProofs only [go_sem]
  exact .mk _ (.refl _) (.refl _) ⟨rfl, rfl⟩
theorem limit_ok (st : PS) (b : Bool) (hw : WfP st) : PC 69 [.v (.bool b)] st (.tup []) (limitD st b) := fun h id hid => by
  refine FnOK.body hU hm Tryz.func69 rfl (by kernel_rfl) 10 rfl [] rfl (Nat.le_of_ble_eq_true rfl) (fun hwf => ?_)
  cases b
  · simp -implicitDefEqProofs only [go_sem]
    exact .mk _ (.refl _) (.refl _) ⟨rfl, (upd_self hid).symm⟩
  simp -implicitDefEqProofs only [go_sem]
  refine (here_ok st hw).go hid ?_
  rw [upd_self hid]
  simp -implicitDefEqProofs only [go_sem, tokA]
  refine (wrong_ok st 6 _).go hid ?_
  simp -implicitDefEqProofs only [go_sem]
  exact .mk _ (.refl _) (.refl _) ⟨rfl, rfl⟩
theorem is_ok (st : PS) (s : Txt) (hw : WfP st) : PC 70 [.s s] st (.v (.bool (isD st s))) st := fun h id hid => by
  refine FnOK.body hU hm Tryz.func70 rfl (by kernel_rfl) 29 rfl [.tmp 4] rfl (Nat.le_of_ble_eq_true rfl) (fun hwf => ?_)
  have g := hid
  unfold PO at g
  simp -implicitDefEqProofs only [go_sem]
  refine (here_ok st hw).go hid ?_
  rw [upd_self hid]
  simp -implicitDefEqProofs only [go_sem, tokA]
  intro i2 hi2
  have n2 : id ≠ i2 := fun e => by rw [e, hi2] at hid; cases hid
  cases d1 : (st.bad == 0) <;> cases d2 : ((hereD st).s == s) <;> cases d3 : ((hereD st).kind == 1) <;> cases d4 : ((hereD st).kind == 6)
  all_goals
    simp -implicitDefEqProofs only [go_sem, g, upd_ne, n2, d1, d2, d3, d4]
    exact .mk _ (.refl _) (.upd_new hi2) ⟨by simp only [isD, d1, d2, d3, d4]; rfl, rfl⟩
theorem take_ok (st : PS) (s : Txt) (hw : WfP st) : PC 67 [.s s] st (.v (.bool (takeD st s).1)) (takeD st s).2 := fun h id hid => by
  refine FnOK.body hU hm Tryz.func67 rfl (by kernel_rfl) 18 rfl [.tmp 4] rfl (Nat.le_of_ble_eq_true rfl) (fun hwf => ?_)
  have g := hid
  unfold PO at g
  simp -implicitDefEqProofs only [go_sem]
  refine (is_ok st s hw).go hid ?_
  rw [upd_self hid]
  cases d1 : isD st s
  · have e : takeD st s = (false, st) := by simp [takeD, d1]
    simp -implicitDefEqProofs only [go_sem, d1]
    exact .mk _ (.refl _) (.refl _) ⟨by rw [e]; rfl, by rw [e, upd_self hid]⟩
  · have e : takeD st s = (true, nextD st) := by simp [takeD, d1]
    have w1 : IntKind.i64.wrap ((st.pos : Int) + 1) = ((st.pos + 1 : Nat) : Int) := by have := hw.1; have := hw.2.2; rw [wr64 _ (by omega)]; omega
    simp -implicitDefEqProofs only [go_sem, g, d1, w1]
    exact .mk _ (.refl _) (.refl _) ⟨by rw [e]; rfl, by rw [e]; rfl⟩
theorem must_ok (st : PS) (s : Txt) (hw : WfP st) : PC 44 [.s s] st (.tup []) (mustD st s) := fun h id hid => by
  refine FnOK.body hU hm Tryz.func44 rfl (by kernel_rfl) 10 rfl [] rfl (Nat.le_of_ble_eq_true rfl) (fun hwf => ?_)
  simp -implicitDefEqProofs only [go_sem]
  refine (take_ok st s hw).go hid ?_
  cases d1 : isD st s
  · have e : takeD st s = (false, st) := by simp [takeD, d1]
    rw [e, upd_self hid]
    simp -implicitDefEqProofs only [go_sem]
    refine (stuck_ok st hw).go hid ?_
    simp -implicitDefEqProofs only [go_sem]
    exact .mk _ (.refl _) (.refl _) ⟨rfl, by simp [mustD, d1]⟩
  · have e : takeD st s = (true, nextD st) := by simp [takeD, d1]
    rw [e]
    simp -implicitDefEqProofs only [go_sem]
    exact .mk _ (.refl _) (.refl _) ⟨rfl, by simp [mustD, d1]⟩
theorem pname_ok (st : PS) (hw : WfP st) : PC 42 [] st (.s (nameP st).1) (nameP st).2 := fun h id hid => by
  refine FnOK.body hU hm Tryz.func42 rfl (by kernel_rfl) 25 rfl [.tmp 2] rfl (Nat.le_of_ble_eq_true rfl) (fun hwf => ?_)
  have g := hid
  unfold PO at g
  have w1 : IntKind.i64.wrap ((st.pos : Int) + 1) = ((st.pos + 1 : Nat) : Int) := by have := hw.1; have := hw.2.2; rw [wr64 _ (by omega)]; omega
  simp -implicitDefEqProofs only [go_sem]
  refine (here_ok st hw).go hid ?_
  rw [upd_self hid]
  simp -implicitDefEqProofs only [go_sem, tokA]
  intro i2 hi2
  have n2 : id ≠ i2 := fun e => by rw [e, hi2] at hid; cases hid
  cases d1 : ((hereD st).kind != 1)
  case true =>
    have e1 : (hereD st).kind ≠ 1 := by simpa using d1
    have en : nameP st = ([], stuckD st) := by simp [nameP, e1]
    simp -implicitDefEqProofs only [go_sem, g, upd_ne, n2, d1]
    have hid2 : upd h i2 (some (.obj [.v (.int .i64 (hereD st).kind), .v (.int .i64 (hereD st).pos), .v (.int .i64 (hereD st).n), .s (hereD st).s] 73)) id = some (PO st) := by rw [upd_other _ _ n2]; exact hid
    refine (stuck_ok st hw).go hid2 ?_
    have hb : (stuckD st).bad ≠ 0 := by
      unfold stuckD wrongD; split
      · show (5 : Int) ≠ 0; decide
      · assumption
    have d2 : ((stuckD st).bad != 0) = true := by simpa using hb
    simp -implicitDefEqProofs only [go_sem, PO, d2]
    exact .mk _ (.refl _) (Sub.both (.upd_new hi2) _ _) ⟨by rw [en]; rfl, by rw [en]; try rfl⟩
  have e1 : (hereD st).kind = 1 := by simpa using d1
  cases d2 : (st.bad != 0)
  case true =>
    have e2 : st.bad ≠ 0 := by simpa using d2
    have en : nameP st = ([], st) := by simp [nameP, e1, e2]
    simp -implicitDefEqProofs only [go_sem, g, upd_ne, n2, d1, d2]
    exact .mk _ (.refl _) (.upd_new hi2) ⟨by rw [en]; rfl, by rw [en]; exact (upd_self hid).symm⟩
  have e2 : st.bad = 0 := by simpa using d2
  have en : nameP st = ((hereD st).s, nextD st) := by simp [nameP, e1, e2]
  simp -implicitDefEqProofs only [go_sem, g, upd_ne, n2, n2.symm, d1, d2, w1]
  exact .mk _ (.refl _) (Sub.both (.upd_new hi2) _ _) ⟨by rw [en]; rfl, by rw [en]; try rfl⟩
theorem PC.run {f : FuncId} {args : List AV} {st st' : PS} {R : AV} (hc : PC f args st R st') {G : Heap} {id : Nat} {Q : AV → Heap → Prop} (k : Q R (upd G id (some (PO st')))) : FnOK Tryz.prog f (.ptr id 0 :: args) (upd G id (some (PO st))) Q :=
  hc.go (upd_same ..) (by rw [upd_upd]; exact k)
theorem PC.of {f : FuncId} {args : List AV} {st st' : PS} {R : AV} (hk : ∀ (G : Heap) (id : Nat), FnOK Tryz.prog f (.ptr id 0 :: args) (upd G id (some (PO st))) fun r h' => r = R ∧ h' = upd G id (some (PO st'))) : PC f args st R st' := fun h id hid => by
  have := hk h id
  rw [upd_self hid] at this
  exact this
theorem upd_comm {α : Type} (f : Nat → α) {i j : Nat} (x y : α) (h : i ≠ j) : upd (upd f i x) j y = upd (upd f j y) i x := by
  funext k
  by_cases hi : k = i
  · subst hi; rw [upd_other _ _ h, upd_same, upd_same]
  · by_cases hj : k = j
    · subst hj; rw [upd_same, upd_other _ _ hi, upd_same]
    · rw [upd_other _ _ hj, upd_other _ _ hi, upd_other _ _ hi, upd_other _ _ hj]
theorem idxT_lt {s : Txt} : ∀ {ws : List Txt} {i : Nat}, idxT s ws = some i → i < ws.length
  | w :: r, i, h => by
    simp only [idxT] at h
    split at h
    · cases h; simp
    · cases hr : idxT s r with
      | none => rw [hr] at h; cases h
      | some j => rw [hr] at h; cases h; have := idxT_lt hr; simp; omega
theorem idxT_at {s : Txt} : ∀ {ws : List Txt} (i : Nat) (hi : i < ws.length), (∀ j (hj : j < ws.length), j < i → ws[j] ≠ s) → ws[i] = s → idxT s ws = some i
  | w :: r, 0, _, _, h => by simp only [List.getElem_cons_zero] at h; simp [idxT, h]
  | w :: r, i + 1, hi, hb, h => by
    have h0 := hb 0 (by simp) (by omega)
    simp only [List.getElem_cons_zero] at h0
    simp only [idxT, if_neg h0]
    rw [idxT_at i (by simpa using hi) (fun j hj hlt => by have := hb (j + 1) (by simpa using hj) (by omega); simpa using this) (by simpa using h)]
    rfl
theorem idxT_none {s : Txt} : ∀ {ws : List Txt}, (∀ j (hj : j < ws.length), ws[j] ≠ s) → idxT s ws = none
  | [], _ => rfl
  | w :: r, hb => by
    have h0 := hb 0 (by simp)
    simp only [List.getElem_cons_zero] at h0
    simp only [idxT, if_neg h0]
    rw [idxT_none (fun j hj => by have := hb (j + 1) (by simpa using hj); simpa using this)]
    rfl
def idxI (o : Option Nat) : Int := match o with
  | some i => i
  | none => -1
theorem indexT_ok (ws : List Txt) (q : Perm) (s : Txt) (hl : ws.length ≤ 1000) (h : Heap) : FnOK Tryz.prog 66 [.sl (ws.map AV.s) q, .s s] h fun r h' => r = .v (.int .i64 (idxI (idxT s ws))) ∧ h' = h := by
  refine FnOK.body hU hm Tryz.func66 rfl (by kernel_rfl) 19 rfl [.tmp 4] rfl (Nat.le_of_ble_eq_true rfl) (fun hwf => ?_)
  simp -implicitDefEqProofs only [go_sem, List.length_map]
  refine .intro (fun m ρ h' => h' = h ∧ ∃ i : Nat, i ≤ ws.length ∧ m = ws.length - i ∧ (∀ j (hj : j < ws.length), j < i → ws[j] ≠ s) ∧ lk ρ 0 = some (.sl (ws.map AV.s) q) ∧ lk ρ 1 = some (.s s) ∧ lk ρ 7 = some (.v (.int .i64 ws.length)) ∧ lk ρ 8 = some (.v (.int .i64 i))) ws.length ?_ ?_
  · refine ⟨rfl, 0, by omega, rfl, fun j _ hj => (by omega), ?_, ?_, ?_, ?_⟩ <;> simp -implicitDefEqProofs only [go_sem]
  · rintro m ρ h' ⟨rfl, i, hi, rfl, hc, r0, r1, r7, r8⟩
    simp -implicitDefEqProofs only [go_sem, r0, r1, r7, r8]
    refine .intro (fun e => ?_) (fun e => ?_)
    · have hlt : i < ws.length := Int.ofNat_lt.1 (of_decide_eq_true e)
      have w1 : IntKind.i64.wrap ((i : Int) + 1) = ((i + 1 : Nat) : Int) := by rw [wr64 _ (by omega)]; omega
      simp -implicitDefEqProofs only [go_sem, r0, r1, r7, r8]
      refine .at i (by simpa using hlt) (by rw [List.getElem_map]; rfl) ?_
      cases d1 : (s == ws[i])
      · have e1 : ws[i] ≠ s := by intro e; rw [e] at d1; simp at d1
        simp -implicitDefEqProofs only [go_sem, r0, r1, r7, r8, List.getElem_map, d1, w1]
        refine ⟨_, ?_, rfl, i + 1, by omega, rfl, fun j hj hji => ?_, ?_, ?_, ?_, ?_⟩
        · omega
        · by_cases e : j = i
          · subst e; exact e1
          · exact hc j hj (by omega)
        all_goals simp -implicitDefEqProofs only [go_sem, r0, r1, r7, r8, w1]
      · have e1 : ws[i] = s := by have : s = ws[i] := by simpa using d1
                                  exact this.symm
        simp -implicitDefEqProofs only [go_sem, r0, r1, r7, r8, List.getElem_map, d1]
        exact .same (.refl _) ⟨by rw [idxT_at i hlt hc e1]; rfl, rfl⟩
    · have hge : i = ws.length := by have := of_decide_eq_false e; omega
      subst hge
      simp -implicitDefEqProofs only [go_sem, r0, r1, r7, r8]
      exact .same (.refl _) ⟨by rw [idxT_none fun j hj => hc j hj hj]; rfl, rfl⟩
theorem among_ok (st : PS) (ws : List Txt) (q : Perm) (hl : ws.length ≤ 1000) (hw : WfP st) : PC 41 [.sl (ws.map AV.s) q] st (.v (.int .i64 (amongD st ws).1)) (amongD st ws).2 := .of fun G id => by
  refine FnOK.body hU hm Tryz.func41 rfl (by kernel_rfl) 28 rfl [.tmp 4] rfl (Nat.le_of_ble_eq_true rfl) (fun hwf => ?_)
  simp -implicitDefEqProofs only [go_sem]
  refine (here_ok st hw).run ?_
  simp -implicitDefEqProofs only [go_sem, tokA]
  intro i2 hi2
  have n2 := ne_upd hi2
  have hG2 : G i2 = none := by rw [upd_other _ _ n2] at hi2; exact hi2
  have c2 : ∀ (f : Heap) (x y : Option Blk), upd (upd f id x) i2 y = upd (upd f i2 y) id x := fun f x y => upd_comm f x y n2.symm
  cases d1 : ((hereD st).kind == 1)
  · have e1 : (hereD st).kind ≠ 1 := by simpa using d1
    have en : amongD st ws = (0, stuckD st) := by unfold amongD; split <;> simp [e1]
    simp -implicitDefEqProofs only [go_sem, c2, upd_ne, n2, d1]
    refine (stuck_ok st hw).run ?_
    simp -implicitDefEqProofs only [go_sem]
    exact .mk _ (.refl _) (Sub.both (.upd_new hG2) _ _) ⟨by rw [en]; rfl, by rw [en]⟩
  have e1 : (hereD st).kind = 1 := by simpa using d1
  simp -implicitDefEqProofs only [go_sem, c2, upd_ne, n2, d1]
  refine (indexT_ok ws q _ hl _).pthen ?_
  cases ei : idxT (hereD st).s ws with
  | none =>
    have en : amongD st ws = (0, stuckD st) := by simp [amongD, ei]
    have dm : decide ((0 : Int) ≤ -1) = false := by decide
    simp -implicitDefEqProofs only [go_sem, idxI, dm]
    refine (stuck_ok st hw).run ?_
    simp -implicitDefEqProofs only [go_sem]
    exact .mk _ (.refl _) (Sub.both (.upd_new hG2) _ _) ⟨by rw [en]; rfl, by rw [en]⟩
  | some i =>
    have hil := idxT_lt ei
    have d2 : decide (0 ≤ (i : Int)) = true := by simp
    have w1 : IntKind.i64.wrap ((i : Int) + 1) = ((i : Int) + 1) := by rw [wr64 _ (by omega)]
    simp -implicitDefEqProofs only [go_sem, idxI, d2, upd_ne, n2]
    refine (take_ok st _ hw).run ?_
    cases d3 : (st.bad == 0)
    · have e3 : st.bad ≠ 0 := by simpa using d3
      have et : takeD st (hereD st).s = (false, st) := by simp [takeD, isD, d3]
      have en : amongD st ws = (0, stuckD st) := by simp [amongD, ei, e3]
      rw [et]
      simp -implicitDefEqProofs only [go_sem]
      refine (stuck_ok st hw).run ?_
      simp -implicitDefEqProofs only [go_sem]
      exact .mk _ (.refl _) (Sub.both (.upd_new hG2) _ _) ⟨by rw [en]; rfl, by rw [en]⟩
    · have e3 : st.bad = 0 := by simpa using d3
      have et : takeD st (hereD st).s = (true, nextD st) := by simp [takeD, isD, e3, e1]
      have en : amongD st ws = ((i : Int) + 1, nextD st) := by simp [amongD, ei, e3, e1]
      rw [et]
      simp -implicitDefEqProofs only [go_sem, w1]
      exact .mk _ (.refl _) (Sub.both (.upd_new hG2) _ _) ⟨by rw [en]; rfl, by rw [en]⟩
end Go.Proofs.YtdcchpbncckhlaaGreatDoor

set_option linter.unusedSimpArgs false
set_option linter.unusedVariables false
namespace Go.Proofs.YtdcchpbncckhlaaGreatDoor
open Go Go.Ab Go.Bf
theorem attr_p (st : PS) (hw : WfP st) : PC 110 [] st (attrA (attrP st).1) (attrP st).2 := .of fun G id => by
  have h1 := ah_among catWs hw
  have h2 := ah_must [46] h1.1
  have h3 := ah_name h2.1
  refine FnOK.body hU hm Tryz.func110 rfl (by kernel_rfl) 17 rfl [.cell 2 46] rfl (Nat.le_of_ble_eq_true rfl) (fun hwf => ?_)
  simp -implicitDefEqProofs only [go_sem]
  intro i2 hi2
  have n2 := ne_upd hi2
  have hG2 : G i2 = none := by rw [upd_other _ _ n2] at hi2; exact hi2
  have c2 : ∀ (f : Heap) (x y : Option Blk), upd (upd f id x) i2 y = upd (upd f i2 y) id x := fun f x y => upd_comm f x y n2.symm
  simp -implicitDefEqProofs only [go_sem, c2]
  intro i3 hi3
  have n3 := ne_upd hi3
  have hi3' := hi3
  rw [upd_other _ _ n3] at hi3'
  have n32 := ne_upd hi3'
  have hG3 : G i3 = none := by rw [upd_other _ _ n32] at hi3'; exact hi3'
  have c3 : ∀ (f : Heap) (x y : Option Blk), upd (upd f id x) i3 y = upd (upd f i3 y) id x := fun f x y => upd_comm f x y n3.symm
  have c23 : ∀ (f : Heap) (x y : Option Blk), upd (upd f i3 x) i2 y = upd (upd f i2 y) i3 x := fun f x y => upd_comm f x y n32
  have m32 : ¬ i3 = i2 := n32
  have m23 : ¬ i2 = i3 := n32.symm
  simp -implicitDefEqProofs only [go_sem, c2, c3, c23]
  refine (among_ok st catWs .full (by decide) hw).run ?_
  simp -implicitDefEqProofs only [go_sem, c2, c3, c23, upd_ne, n2, n3, m32, m23]
  refine (must_ok _ [46] h1.1).run ?_
  simp -implicitDefEqProofs only [go_sem, c2, c3, c23, upd_ne, n2, n3, m32, m23]
  refine (pname_ok _ h2.1).run ?_
  simp -implicitDefEqProofs only [go_sem, c2, c3, c23, upd_ne, n2, n3, m32, m23]
  refine (take_ok _ [33] h3.1).run ?_
  simp -implicitDefEqProofs only [go_sem, c2, c3, c23, upd_ne, n2, n3, m32, m23]
  exact .mk _ (.refl _) (Sub.both (by repeat (first | exact .refl _ | refine Sub.put ?_ (by assumption) _)) _ _) ⟨rfl, rfl⟩
set_option maxRecDepth 20000 in
theorem value_p (st : PS) (hw : WfP st) : PC 111 [] st (valA (valueP st).1) (valueP st).2 := .of fun G id => by
  refine FnOK.body hU hm Tryz.func111 rfl (by kernel_rfl) 56 rfl [.cell 2 44] rfl (Nat.le_of_ble_eq_true rfl) (fun hwf => ?_)
  have w1 : IntKind.i64.wrap ((st.pos : Int) + 1) = ((st.pos + 1 : Nat) : Int) := by have := hw.1; have := hw.2.2; rw [wr64 _ (by omega)]; omega
  simp -implicitDefEqProofs only [go_sem]
  intro i2 hi2
  have n2 := ne_upd hi2
  have hG2 : G i2 = none := by rw [upd_other _ _ n2] at hi2; exact hi2
  have c2 : ∀ (f : Heap) (x y : Option Blk), upd (upd f id x) i2 y = upd (upd f i2 y) id x := fun f x y => upd_comm f x y n2.symm
  simp -implicitDefEqProofs only [go_sem, c2]
  refine (here_ok st hw).run ?_
  simp -implicitDefEqProofs only [go_sem, tokA]
  intro i3 hi3
  have n3 := ne_upd hi3
  have hi3' := hi3
  rw [upd_other _ _ n3] at hi3'
  have n32 := ne_upd hi3'
  have hG3 : G i3 = none := by rw [upd_other _ _ n32] at hi3'; exact hi3'
  have c3 : ∀ (f : Heap) (x y : Option Blk), upd (upd f id x) i3 y = upd (upd f i3 y) id x := fun f x y => upd_comm f x y n3.symm
  have c23 : ∀ (f : Heap) (x y : Option Blk), upd (upd f i3 x) i2 y = upd (upd f i2 y) i3 x := fun f x y => upd_comm f x y n32
  have m32 : ¬ i3 = i2 := n32
  have m23 : ¬ i2 = i3 := n32.symm
  simp -implicitDefEqProofs only [go_sem, c2, c3, c23, upd_ne, n2, n3, m32, m23]
  intro i4 hi4
  have n4 := ne_upd hi4
  have hi4' := hi4
  rw [upd_other _ _ n4] at hi4'
  have n43 := ne_upd hi4'
  have hi4'' := hi4'
  rw [upd_other _ _ n43] at hi4''
  have n42 := ne_upd hi4''
  have hG4 : G i4 = none := by rw [upd_other _ _ n42] at hi4''; exact hi4''
  have c4 : ∀ (f : Heap) (x y : Option Blk), upd (upd f id x) i4 y = upd (upd f i4 y) id x := fun f x y => upd_comm f x y n4.symm
  have c24 : ∀ (f : Heap) (x y : Option Blk), upd (upd f i4 x) i2 y = upd (upd f i2 y) i4 x := fun f x y => upd_comm f x y n42
  have c34 : ∀ (f : Heap) (x y : Option Blk), upd (upd f i4 x) i3 y = upd (upd f i3 y) i4 x := fun f x y => upd_comm f x y n43
  have m42 : ¬ i4 = i2 := n42
  have m24 : ¬ i2 = i4 := n42.symm
  have m43 : ¬ i4 = i3 := n43
  have m34 : ¬ i3 = i4 := n43.symm
  cases k2 : ((hereD st).kind == 2)
  case true =>
    have e2 : (hereD st).kind = 2 := by simpa using k2
    have ev : valueV st = (⟨2, (hereD st).n, (hereD st).s⟩, st) := by simp [valueV, e2]
    cases kb : (st.bad != 0)
    · have eb : st.bad = 0 := by simpa using kb
      have en : valueP st = (⟨2, (hereD st).n, (hereD st).s⟩, nextD st) := by simp [valueP, ev, eb]
      simp -implicitDefEqProofs only [go_sem, c2, c3, c4, c23, c24, c34, upd_ne, n2, n3, n4, m32, m23, m42, m24, m43, m34, k2, PO, kb, w1]
      exact .mk (h' := upd G id (some (PO (valueP st).2))) _ (.refl _) (by rw [en]; exact Sub.both (by repeat (first | exact .refl _ | refine Sub.put ?_ (by assumption) _)) _ _) ⟨by rw [en]; rfl, rfl⟩
    · have eb : st.bad ≠ 0 := by simpa using kb
      have en : valueP st = (⟨0, 0, []⟩, st) := by simp [valueP, ev, eb]
      simp -implicitDefEqProofs only [go_sem, c2, c3, c4, c23, c24, c34, upd_ne, n2, n3, n4, m32, m23, m42, m24, m43, m34, k2, PO, kb, w1]
      exact .mk (h' := upd G id (some (PO (valueP st).2))) _ (.refl _) (by rw [en]; exact Sub.both (by repeat (first | exact .refl _ | refine Sub.put ?_ (by assumption) _)) _ _) ⟨by rw [en]; rfl, rfl⟩
  have e2 : (hereD st).kind ≠ 2 := by simpa using k2
  cases k3 : ((hereD st).kind == 3)
  case true =>
    have e3 : (hereD st).kind = 3 := by simpa using k3
    have ev : valueV st = (⟨4, (hereD st).n, (hereD st).s⟩, st) := by simp [valueV, e3]
    cases kb : (st.bad != 0)
    · have eb : st.bad = 0 := by simpa using kb
      have en : valueP st = (⟨4, (hereD st).n, (hereD st).s⟩, nextD st) := by simp [valueP, ev, eb]
      simp -implicitDefEqProofs only [go_sem, c2, c3, c4, c23, c24, c34, upd_ne, n2, n3, n4, m32, m23, m42, m24, m43, m34, k2, k3, PO, kb, w1]
      exact .mk (h' := upd G id (some (PO (valueP st).2))) _ (.refl _) (by rw [en]; exact Sub.both (by repeat (first | exact .refl _ | refine Sub.put ?_ (by assumption) _)) _ _) ⟨by rw [en]; rfl, rfl⟩
    · have eb : st.bad ≠ 0 := by simpa using kb
      have en : valueP st = (⟨0, 0, []⟩, st) := by simp [valueP, ev, eb]
      simp -implicitDefEqProofs only [go_sem, c2, c3, c4, c23, c24, c34, upd_ne, n2, n3, n4, m32, m23, m42, m24, m43, m34, k2, k3, PO, kb, w1]
      exact .mk (h' := upd G id (some (PO (valueP st).2))) _ (.refl _) (by rw [en]; exact Sub.both (by repeat (first | exact .refl _ | refine Sub.put ?_ (by assumption) _)) _ _) ⟨by rw [en]; rfl, rfl⟩
  have e3 : (hereD st).kind ≠ 3 := by simpa using k3
  cases k4 : ((hereD st).kind == 4)
  case true =>
    have e4 : (hereD st).kind = 4 := by simpa using k4
    have ev : valueV st = (⟨5, (hereD st).n, (hereD st).s⟩, st) := by simp [valueV, e4]
    cases kb : (st.bad != 0)
    · have eb : st.bad = 0 := by simpa using kb
      have en : valueP st = (⟨5, (hereD st).n, (hereD st).s⟩, nextD st) := by simp [valueP, ev, eb]
      simp -implicitDefEqProofs only [go_sem, c2, c3, c4, c23, c24, c34, upd_ne, n2, n3, n4, m32, m23, m42, m24, m43, m34, k2, k3, k4, PO, kb, w1]
      exact .mk (h' := upd G id (some (PO (valueP st).2))) _ (.refl _) (by rw [en]; exact Sub.both (by repeat (first | exact .refl _ | refine Sub.put ?_ (by assumption) _)) _ _) ⟨by rw [en]; rfl, rfl⟩
    · have eb : st.bad ≠ 0 := by simpa using kb
      have en : valueP st = (⟨0, 0, []⟩, st) := by simp [valueP, ev, eb]
      simp -implicitDefEqProofs only [go_sem, c2, c3, c4, c23, c24, c34, upd_ne, n2, n3, n4, m32, m23, m42, m24, m43, m34, k2, k3, k4, PO, kb, w1]
      exact .mk (h' := upd G id (some (PO (valueP st).2))) _ (.refl _) (by rw [en]; exact Sub.both (by repeat (first | exact .refl _ | refine Sub.put ?_ (by assumption) _)) _ _) ⟨by rw [en]; rfl, rfl⟩
  have e4 : (hereD st).kind ≠ 4 := by simpa using k4
  cases k5 : ((hereD st).kind == 5)
  case true =>
    have e5 : (hereD st).kind = 5 := by simpa using k5
    have ev : valueV st = (⟨3, (hereD st).n, (hereD st).s⟩, st) := by simp [valueV, e5]
    cases kb : (st.bad != 0)
    · have eb : st.bad = 0 := by simpa using kb
      have en : valueP st = (⟨3, (hereD st).n, (hereD st).s⟩, nextD st) := by simp [valueP, ev, eb]
      simp -implicitDefEqProofs only [go_sem, c2, c3, c4, c23, c24, c34, upd_ne, n2, n3, n4, m32, m23, m42, m24, m43, m34, k2, k3, k4, k5, PO, kb, w1]
      exact .mk (h' := upd G id (some (PO (valueP st).2))) _ (.refl _) (by rw [en]; exact Sub.both (by repeat (first | exact .refl _ | refine Sub.put ?_ (by assumption) _)) _ _) ⟨by rw [en]; rfl, rfl⟩
    · have eb : st.bad ≠ 0 := by simpa using kb
      have en : valueP st = (⟨0, 0, []⟩, st) := by simp [valueP, ev, eb]
      simp -implicitDefEqProofs only [go_sem, c2, c3, c4, c23, c24, c34, upd_ne, n2, n3, n4, m32, m23, m42, m24, m43, m34, k2, k3, k4, k5, PO, kb, w1]
      exact .mk (h' := upd G id (some (PO (valueP st).2))) _ (.refl _) (by rw [en]; exact Sub.both (by repeat (first | exact .refl _ | refine Sub.put ?_ (by assumption) _)) _ _) ⟨by rw [en]; rfl, rfl⟩
  have e5 : (hereD st).kind ≠ 5 := by simpa using k5
  simp -implicitDefEqProofs only [go_sem, c2, c3, c4, c23, c24, c34, upd_ne, n2, n3, n4, m32, m23, m42, m24, m43, m34, k2, k3, k4, k5]
  refine (is_ok st trueT hw).run ?_
  cases kt : isD st trueT
  case true =>
    have ev : valueV st = (⟨1, 1, []⟩, st) := by simp [valueV, e2, e3, e4, e5, kt]
    cases kb : (st.bad != 0)
    · have eb : st.bad = 0 := by simpa using kb
      have en : valueP st = (⟨1, 1, []⟩, nextD st) := by simp [valueP, ev, eb]
      simp -implicitDefEqProofs only [go_sem, c2, c3, c4, c23, c24, c34, upd_ne, n2, n3, n4, m32, m23, m42, m24, m43, m34, k2, k3, k4, k5, kt, PO, kb, w1]
      exact .mk (h' := upd G id (some (PO (valueP st).2))) _ (.refl _) (by rw [en]; exact Sub.both (by repeat (first | exact .refl _ | refine Sub.put ?_ (by assumption) _)) _ _) ⟨by rw [en]; rfl, rfl⟩
    · have eb : st.bad ≠ 0 := by simpa using kb
      have en : valueP st = (⟨0, 0, []⟩, st) := by simp [valueP, ev, eb]
      simp -implicitDefEqProofs only [go_sem, c2, c3, c4, c23, c24, c34, upd_ne, n2, n3, n4, m32, m23, m42, m24, m43, m34, k2, k3, k4, k5, kt, PO, kb, w1]
      exact .mk (h' := upd G id (some (PO (valueP st).2))) _ (.refl _) (by rw [en]; exact Sub.both (by repeat (first | exact .refl _ | refine Sub.put ?_ (by assumption) _)) _ _) ⟨by rw [en]; rfl, rfl⟩
  simp -implicitDefEqProofs only [go_sem, c2, c3, c4, c23, c24, c34, upd_ne, n2, n3, n4, m32, m23, m42, m24, m43, m34, k2, k3, k4, k5, kt]
  refine (is_ok st falseT hw).run ?_
  cases kf : isD st falseT
  case true =>
    have ev : valueV st = (⟨1, 0, []⟩, st) := by simp [valueV, e2, e3, e4, e5, kt, kf]
    cases kb : (st.bad != 0)
    · have eb : st.bad = 0 := by simpa using kb
      have en : valueP st = (⟨1, 0, []⟩, nextD st) := by simp [valueP, ev, eb]
      simp -implicitDefEqProofs only [go_sem, c2, c3, c4, c23, c24, c34, upd_ne, n2, n3, n4, m32, m23, m42, m24, m43, m34, k2, k3, k4, k5, kt, kf, PO, kb, w1]
      exact .mk (h' := upd G id (some (PO (valueP st).2))) _ (.refl _) (by rw [en]; exact Sub.both (by repeat (first | exact .refl _ | refine Sub.put ?_ (by assumption) _)) _ _) ⟨by rw [en]; rfl, rfl⟩
    · have eb : st.bad ≠ 0 := by simpa using kb
      have en : valueP st = (⟨0, 0, []⟩, st) := by simp [valueP, ev, eb]
      simp -implicitDefEqProofs only [go_sem, c2, c3, c4, c23, c24, c34, upd_ne, n2, n3, n4, m32, m23, m42, m24, m43, m34, k2, k3, k4, k5, kt, kf, PO, kb, w1]
      exact .mk (h' := upd G id (some (PO (valueP st).2))) _ (.refl _) (by rw [en]; exact Sub.both (by repeat (first | exact .refl _ | refine Sub.put ?_ (by assumption) _)) _ _) ⟨by rw [en]; rfl, rfl⟩
  have ev : valueV st = (⟨0, (hereD st).n, (hereD st).s⟩, stuckD st) := by simp [valueV, e2, e3, e4, e5, kt, kf]
  have en : valueP st = (⟨0, 0, []⟩, stuckD st) := by simp [valueP, ev, stuck_bad]
  have kb : ((stuckD st).bad != 0) = true := by simpa using stuck_bad st
  simp -implicitDefEqProofs only [go_sem, c2, c3, c4, c23, c24, c34, upd_ne, n2, n3, n4, m32, m23, m42, m24, m43, m34, k2, k3, k4, k5, kt, kf]
  refine (stuck_ok st hw).run ?_
  simp -implicitDefEqProofs only [go_sem, c2, c3, c4, c23, c24, c34, upd_ne, n2, n3, n4, m32, m23, m42, m24, m43, m34, k2, k3, k4, k5, kt, kf, PO, kb]
  exact .mk (h' := upd G id (some (PO (valueP st).2))) _ (.refl _) (by rw [en]; exact Sub.both (by repeat (first | exact .refl _ | refine Sub.put ?_ (by assumption) _)) _ _) ⟨by rw [en]; rfl, rfl⟩
end Go.Proofs.YtdcchpbncckhlaaGreatDoor

set_option linter.unusedSimpArgs false
set_option linter.unusedVariables false
namespace Go.Proofs.YtdcchpbncckhlaaGreatDoor
open Go Go.Ab Go.Bf
def opsT : List Txt := [[61], [60], [62]]
theorem opP_at {st : PS} (i : Nat) (hi : i < opsT.length) (hb : ∀ j (hj : j < opsT.length), j < i → isD st opsT[j] = false) (h : isD st opsT[i] = true) : opP st = ((i : Int) + 1, nextD st) := by
  have h3 : i < 3 := hi
  rcases (by omega : i = 0 ∨ i = 1 ∨ i = 2) with rfl | rfl | rfl
  · simp only [opP, show isD st [61] = true from h, if_true]; rfl
  · simp only [opP, show isD st [61] = false from hb 0 (by decide) (by decide), show isD st [60] = true from h, if_true]; rfl
  · simp only [opP, show isD st [61] = false from hb 0 (by decide) (by decide), show isD st [60] = false from hb 1 (by decide) (by decide), show isD st [62] = true from h, if_true]; rfl
theorem opP_none {st : PS} (hb : ∀ j (hj : j < opsT.length), isD st opsT[j] = false) : opP st = (0, stuckD st) := by
  simp only [opP, show isD st [61] = false from hb 0 (by decide), show isD st [60] = false from hb 1 (by decide), show isD st [62] = false from hb 2 (by decide)]; rfl
set_option maxRecDepth 20000 in
theorem match_p (st : PS) (hw : WfP st) : PC 98 [] st (matchA (matchP st).1) (matchP st).2 := .of fun G id => by
  have h1 := ah_attr hw
  obtain ⟨a, st1, e1⟩ : ∃ a st1, attrP st = (a, st1) := ⟨_, _, rfl⟩
  have hat := attr_p st hw
  rw [e1] at h1 hat
  simp only at h1 hat
  refine FnOK.body hU hm Tryz.func98 rfl (by kernel_rfl) 32 rfl [.cell 2 60] rfl (Nat.le_of_ble_eq_true rfl) (fun hwf => ?_)
  simp -implicitDefEqProofs only [go_sem]
  intro i2 hi2
  have n2 := ne_upd hi2
  have hG2 : G i2 = none := by rw [upd_other _ _ n2] at hi2; exact hi2
  have c2 : ∀ (f : Heap) (x y : Option Blk), upd (upd f id x) i2 y = upd (upd f i2 y) id x := fun f x y => upd_comm f x y n2.symm
  simp -implicitDefEqProofs only [go_sem, c2]
  refine hat.run ?_
  simp -implicitDefEqProofs only [go_sem, attrA]
  intro i3 hi3
  have n3 := ne_upd hi3
  have hi3' := hi3
  rw [upd_other _ _ n3] at hi3'
  have n32 := ne_upd hi3'
  have hG3 : G i3 = none := by rw [upd_other _ _ n32] at hi3'; exact hi3'
  have c3 : ∀ (f : Heap) (x y : Option Blk), upd (upd f id x) i3 y = upd (upd f i3 y) id x := fun f x y => upd_comm f x y n3.symm
  have c23 : ∀ (f : Heap) (x y : Option Blk), upd (upd f i3 x) i2 y = upd (upd f i2 y) i3 x := fun f x y => upd_comm f x y n32
  have m32 : ¬ i3 = i2 := n32
  have m23 : ¬ i2 = i3 := n32.symm
  simp -implicitDefEqProofs only [go_sem, c2, c3, c23, upd_ne, n2, n3, m32, m23, attrA]
  refine .intro (fun m ρ H => H = upd (upd (upd G i2 (some (.obj [.v (.int .i64 0), .s [], .v (.bool false), .v (.int .i64 0), .v (.int .i64 0), .v (.int .i64 0), .s []] 60))) i3 (some (.obj [.v (.int .i64 a.cat), .s a.name, .v (.bool a.must), .v (.int .i64 0), .v (.int .i64 0), .v (.int .i64 0), .s []] 60))) id (some (PO st1)) ∧
    ∃ i : Nat, i ≤ 3 ∧ m = 3 - i ∧ (∀ j (hj : j < opsT.length), j < i → isD st1 opsT[j] = false) ∧ lk ρ 0 = some (.ptr id 0) ∧ lk ρ 2 = some (.ptr i2 0) ∧ lk ρ 3 = some (.ptr i3 0) ∧ lk ρ 9 = some (.sl (opsT.map AV.s) .full) ∧ lk ρ 10 = some (.v (.int .i64 3)) ∧ lk ρ 11 = some (.v (.int .i64 i))) 3 ?_ ?_
  · refine ⟨rfl, 0, by omega, rfl, fun j _ hj => (by omega), ?_, ?_, ?_, ?_, ?_, ?_⟩ <;> simp -implicitDefEqProofs only [go_sem] <;> rfl
  · rintro m ρ H ⟨rfl, i, hi, rfl, hb, r0, r2, r3, r9, r10, r11⟩
    simp -implicitDefEqProofs only [go_sem, r0, r2, r3, r9, r10, r11]
    refine .intro (fun e => ?_) (fun e => ?_)
    · have hlt : i < 3 := by have := of_decide_eq_true e; omega
      have hlo : i < opsT.length := hlt
      have w1 : IntKind.i64.wrap ((i : Int) + 1) = ((i + 1 : Nat) : Int) := by rw [wr64 _ (by omega)]; omega
      have w2 : IntKind.i64.wrap (1 + (i : Int)) = ((i : Int) + 1) := by rw [wr64 _ (by omega)]; omega
      simp -implicitDefEqProofs only [go_sem, r0, r2, r3, r9, r10, r11]
      refine .at i (by simpa using hlo) (by rw [List.getElem_map]; rfl) ?_
      simp -implicitDefEqProofs only [go_sem, r0, r2, r3, r9, r10, r11, List.getElem_map]
      refine (take_ok st1 opsT[i] h1.1).run ?_
      cases d1 : isD st1 opsT[i]
      · have et : takeD st1 opsT[i] = (false, st1) := by simp [takeD, d1]
        rw [et]
        simp -implicitDefEqProofs only [go_sem, r0, r2, r3, r9, r10, r11, w1]
        refine ⟨_, ?_, rfl, i + 1, by omega, rfl, fun j hj hji => ?_, ?_, ?_, ?_, ?_, ?_, ?_⟩
        · omega
        · by_cases e : j = i
          · subst e; exact d1
          · exact hb j hj (by omega)
        all_goals simp -implicitDefEqProofs only [go_sem, r0, r2, r3, r9, r10, r11, w1]
      · have et : takeD st1 opsT[i] = (true, nextD st1) := by simp [takeD, d1]
        have eo := opP_at i hlo hb d1
        have h2 : Ah st1 (nextD st1) := ah_next h1.1 (isD_kind d1)
        have en : matchP st = (⟨a, (i : Int) + 1, (valueP (nextD st1)).1⟩, (valueP (nextD st1)).2) := by simp [matchP, e1, eo]
        have d2 : (((i : Int) + 1) == 0) = false := by simp; omega
        rw [et]
        simp -implicitDefEqProofs only [go_sem, c2, c3, c23, upd_ne, n2, n3, m32, m23, attrA, r0, r2, r3, r9, r10, r11, w2, d2]
        refine (value_p (nextD st1) h2.1).run ?_
        simp -implicitDefEqProofs only [go_sem, c2, c3, c23, upd_ne, n2, n3, m32, m23, attrA, valA, r0, r2, r3]
        exact .mk (h' := upd G id (some (PO (matchP st).2))) _ (.refl _) (by rw [en]; exact Sub.both (by repeat (first | exact .refl _ | refine Sub.put ?_ (by assumption) _)) _ _) ⟨by rw [en]; rfl, rfl⟩
    · have hge : i = 3 := by have := of_decide_eq_false e; omega
      subst hge
      have eo := opP_none fun j hj => hb j hj hj
      have h2 : Ah st1 (stuckD st1) := ah_stuck h1.1
      have en : matchP st = (⟨a, 0, (valueP (stuckD st1)).1⟩, (valueP (stuckD st1)).2) := by simp [matchP, e1, eo]
      simp -implicitDefEqProofs only [go_sem, r0, r2, r3, r9, r10, r11, c2, c3, c23, upd_ne, n2, n3, m32, m23, attrA]
      refine (stuck_ok st1 h1.1).run ?_
      simp -implicitDefEqProofs only [go_sem, c2, c3, c23, upd_ne, n2, n3, m32, m23, attrA, r0, r2, r3, r9, r10, r11]
      refine (value_p (stuckD st1) h2.1).run ?_
      simp -implicitDefEqProofs only [go_sem, c2, c3, c23, upd_ne, n2, n3, m32, m23, attrA, valA, r0, r2, r3]
      exact .mk (h' := upd G id (some (PO (matchP st).2))) _ (.refl _) (by rw [en]; exact Sub.both (by repeat (first | exact .refl _ | refine Sub.put ?_ (by assumption) _)) _ _) ⟨by rw [en]; rfl, rfl⟩
end Go.Proofs.YtdcchpbncckhlaaGreatDoor

set_option linter.unusedSimpArgs false
set_option linter.unusedVariables false
namespace Go.Proofs.YtdcchpbncckhlaaGreatDoor
open Go Go.Ab Go.Bf
theorem uz_m : (U 60).sz = 7 := by simp only [go_sem]
theorem ub_m : (U 60).bytes = 72 := by simp only [go_sem]
theorem sized_m (l : List MatchD) : Sized 7 (l.map matchA) := fun z hz => by
  obtain ⟨c, _, rfl⟩ := List.mem_map.1 hz; rfl
theorem uz_a : (U 61).sz = 1 := by simp only [go_sem]
theorem ub_a : (U 61).bytes = 24 := by simp only [go_sem]
theorem sized_a (l : List (List MatchD)) : Sized 1 (l.map allA) := fun z hz => by
  obtain ⟨c, _, rfl⟩ := List.mem_map.1 hz; rfl
theorem uz_y : (U 62).sz = 1 := by simp only [go_sem]
theorem ub_y : (U 62).bytes = 24 := by simp only [go_sem]
theorem sized_y (l : List (List (List MatchD))) : Sized 1 (l.map anyA) := fun z hz => by
  obtain ⟨c, _, rfl⟩ := List.mem_map.1 hz; rfl
theorem all_p (st : PS) (hw : WfP st) : PC 87 [] st (allA (allP st).1) (allP st).2 := .of fun G id => by
  have h1 := ah_match hw
  have hm1 := match_p st hw
  obtain ⟨x0, st1, e1⟩ : ∃ x0 st1, matchP st = (x0, st1) := ⟨_, _, rfl⟩
  have ep : manyF matchP [44] 8 st.ts.length st1 [x0] = allP st := by simp only [allP, e1]
  rw [e1] at h1 hm1
  simp only [matchA] at h1 hm1
  refine FnOK.body hU hm Tryz.func87 rfl (by kernel_rfl) 20 rfl [.tmp 2] rfl (Nat.le_of_ble_eq_true rfl) (fun hwf => ?_)
  simp -implicitDefEqProofs only [go_sem]
  refine hm1.run ?_
  simp -implicitDefEqProofs only [go_sem]
  have hB : upd G id none id = none := upd_same ..
  refine .intro (fun m ρ H => ∃ (f : Nat) (st' : PS) (l : List _) (y : AV), H id = some (PO st') ∧ Acc U 60 (upd G id none) H y (l.map matchA) ∧ Ah st1 st' ∧ manyF matchP [44] 8 f st' l = allP st ∧ st1.ts.length ≤ f + st'.pos ∧ l.length ≤ st'.pos + 1 ∧ m = st1.ts.length - st'.pos ∧ lk ρ 0 = some (.ptr id 0) ∧ lk ρ 3 = some y) (st1.ts.length - st1.pos) ?_ ?_
  · refine ⟨st.ts.length, st1, [x0], .sl ([x0].map matchA) .full, upd_same .., .full (base_start G id _), .refl h1.1, ep, by rw [h1.2.1]; omega, by simp, rfl, ?_, ?_⟩ <;> simp -implicitDefEqProofs only [go_sem] <;> rfl
  · rintro m ρ H ⟨f, st', l, y, hH, hy, ha, hfin, hf, hll, rfl, r0, r3⟩
    have hlen := ha.1.2.2
    have hpos := ha.1.1
    have htl := ha.2.1
    simp -implicitDefEqProofs only [go_sem, r0, r3]
    refine (take_ok st' [44] ha.1).go hH ?_
    cases d1 : isD st' [44]
    · have et : takeD st' [44] = (false, st') := by simp [takeD, d1]
      have ef : manyF matchP [44] 8 f st' l = (l, st') := by cases f <;> simp [manyF, d1]
      rw [et, upd_self hH]
      rw [ef] at hfin
      simp -implicitDefEqProofs only [go_sem, r0, r3]
      exact .mk (h' := upd G id (some (PO (allP st).2))) (allA l) hy.weak (by rw [← hfin]; exact base_end hy.1 hH) ⟨by rw [← hfin], rfl⟩
    · have et : takeD st' [44] = (true, nextD st') := by simp [takeD, d1]
      obtain ⟨g, rfl⟩ : ∃ g, f = g + 1 := ⟨f - 1, by rw [htl] at hpos; omega⟩
      simp only [manyF, d1, if_true] at hfin
      have h2 := ah_next ha.1 (isD_kind d1)
      have hone := match_p (nextD st') h2.1
      have h3 := (fun _ h => ah_match h : ∀ st, WfP st → Ah st (matchP st).2) _ h2.1
      obtain ⟨x, st2, e2⟩ : ∃ x st2, matchP (nextD st') = (x, st2) := ⟨_, _, rfl⟩
      rw [e2] at hfin hone h3
      simp only [matchA] at hfin hone h3
      have hdec : decide ((8 : Int) < ((l.length + 1 : Nat) : Int)) = decide (8 < l.length + 1) := by
        by_cases h : 8 < l.length + 1
        · simp only [h, decide_true]; exact decide_eq_true (by omega)
        · simp only [h, decide_false]; exact decide_eq_false (by omega)
      have h4 := ah_limit (decide (8 < l.length + 1)) h3.1
      have hnp : (nextD st').pos = st'.pos + 1 := rfl
      have hp3 := h3.2.2
      have hp4 := h4.2.2
      rw [et]
      simp -implicitDefEqProofs only [go_sem, r0, r3]
      refine hone.run ?_
      simp -implicitDefEqProofs only [go_sem, r0, r3]
      refine (hy.put hB hH _).app (zs := [matchA x]) (by rw [uz_m]; decide) (by rw [ub_m]; decide) (fun k hk => hk) (by rw [uz_m]; exact sized_m l) (by rw [uz_m]; exact sized_m [x]) (by rw [ub_m]; simp; omega) fun y' H2 hy' hk2 => ?_
      have hH2 : H2 id = some (PO st2) := hk2 _ _ _ (upd_same ..)
      simp -implicitDefEqProofs only [go_sem, r0, r3, hy'.len, List.length_append, List.length_map, List.length_cons, List.length_nil, Nat.zero_add, hdec]
      refine (limit_ok st2 _ h3.1).go hH2 ?_
      simp -implicitDefEqProofs only [go_sem, r0, r3]
      refine ⟨_, ?_, g, limitD st2 (decide (8 < l.length + 1)), l ++ [x], y', upd_same .., by rw [List.map_append]; exact hy'.put hB hH2 _, (((ha.trans h2).trans h3).trans h4), hfin, by omega, by simp; omega, rfl, ?_, ?_⟩
      · have : st1.ts.length = st'.ts.length := by rw [htl]
        omega
      all_goals simp -implicitDefEqProofs only [go_sem, r0, r3]
theorem any_p (st : PS) (hw : WfP st) : PC 68 [] st (anyA (anyP st).1) (anyP st).2 := .of fun G id => by
  have h0 := ah_must [40] hw
  have h1 := ah_all h0.1
  have hm1 := all_p _ h0.1
  obtain ⟨x0, st1, e1⟩ : ∃ x0 st1, allP (mustD st [40]) = (x0, st1) := ⟨_, _, rfl⟩
  obtain ⟨M, eM⟩ : ∃ M, manyF allP orT 8 st.ts.length st1 [x0] = M := ⟨_, rfl⟩
  have epp : (M.1, mustD M.2 [41]) = anyP st := by simp only [anyP, e1, eM]
  rw [e1] at h1 hm1
  simp only [allA] at h1 hm1
  refine FnOK.body hU hm Tryz.func68 rfl (by kernel_rfl) 24 rfl [.tmp 2] rfl (Nat.le_of_ble_eq_true rfl) (fun hwf => ?_)
  simp -implicitDefEqProofs only [go_sem]
  refine (must_ok st [40] hw).run ?_
  simp -implicitDefEqProofs only [go_sem]
  refine hm1.run ?_
  simp -implicitDefEqProofs only [go_sem]
  have hB : upd G id none id = none := upd_same ..
  refine .intro (fun m ρ H => ∃ (f : Nat) (st' : PS) (l : List _) (y : AV), H id = some (PO st') ∧ Acc U 61 (upd G id none) H y (l.map allA) ∧ Ah st1 st' ∧ manyF allP orT 8 f st' l = M ∧ st1.ts.length ≤ f + st'.pos ∧ l.length ≤ st'.pos + 1 ∧ m = st1.ts.length - st'.pos ∧ lk ρ 0 = some (.ptr id 0) ∧ lk ρ 3 = some y) (st1.ts.length - st1.pos) ?_ ?_
  · refine ⟨st.ts.length, st1, [x0], .sl ([x0].map allA) .full, upd_same .., .full (base_start G id _), .refl h1.1, eM, by rw [h1.2.1, h0.2.1]; omega, by simp, rfl, ?_, ?_⟩ <;> simp -implicitDefEqProofs only [go_sem] <;> rfl
  · rintro m ρ H ⟨f, st', l, y, hH, hy, ha, hfin, hf, hll, rfl, r0, r3⟩
    have hlen := ha.1.2.2
    have hpos := ha.1.1
    have htl := ha.2.1
    simp -implicitDefEqProofs only [go_sem, r0, r3]
    refine (take_ok st' orT ha.1).go hH ?_
    cases d1 : isD st' orT
    · have et : takeD st' orT = (false, st') := by simp [takeD, d1]
      have ef : manyF allP orT 8 f st' l = (l, st') := by cases f <;> simp [manyF, d1]
      rw [et, upd_self hH]
      rw [ef] at hfin
      simp -implicitDefEqProofs only [go_sem, r0, r3]
      refine (must_ok st' [41] ha.1).go hH ?_
      simp -implicitDefEqProofs only [go_sem, r0, r3]
      exact .mk (h' := upd G id (some (PO (anyP st).2))) (anyA l) hy.weak (by rw [← epp, ← hfin]; exact base_end (hy.1.put hB _) (upd_same ..)) ⟨by rw [← epp, ← hfin], rfl⟩
    · have et : takeD st' orT = (true, nextD st') := by simp [takeD, d1]
      obtain ⟨g, rfl⟩ : ∃ g, f = g + 1 := ⟨f - 1, by rw [htl] at hpos; omega⟩
      simp only [manyF, d1, if_true] at hfin
      have h2 := ah_next ha.1 (isD_kind d1)
      have hone := all_p (nextD st') h2.1
      have h3 := (fun _ h => ah_all h : ∀ st, WfP st → Ah st (allP st).2) _ h2.1
      obtain ⟨x, st2, e2⟩ : ∃ x st2, allP (nextD st') = (x, st2) := ⟨_, _, rfl⟩
      rw [e2] at hfin hone h3
      simp only [allA] at hfin hone h3
      have hdec : decide ((8 : Int) < ((l.length + 1 : Nat) : Int)) = decide (8 < l.length + 1) := by
        by_cases h : 8 < l.length + 1
        · simp only [h, decide_true]; exact decide_eq_true (by omega)
        · simp only [h, decide_false]; exact decide_eq_false (by omega)
      have h4 := ah_limit (decide (8 < l.length + 1)) h3.1
      have hnp : (nextD st').pos = st'.pos + 1 := rfl
      have hp3 := h3.2.2
      have hp4 := h4.2.2
      rw [et]
      simp -implicitDefEqProofs only [go_sem, r0, r3]
      refine hone.run ?_
      simp -implicitDefEqProofs only [go_sem, r0, r3]
      refine (hy.put hB hH _).app (zs := [allA x]) (by rw [uz_a]; decide) (by rw [ub_a]; decide) (fun k hk => hk) (by rw [uz_a]; exact sized_a l) (by rw [uz_a]; exact sized_a [x]) (by rw [ub_a]; simp; omega) fun y' H2 hy' hk2 => ?_
      have hH2 : H2 id = some (PO st2) := hk2 _ _ _ (upd_same ..)
      simp -implicitDefEqProofs only [go_sem, r0, r3, hy'.len, List.length_append, List.length_map, List.length_cons, List.length_nil, Nat.zero_add, hdec]
      refine (limit_ok st2 _ h3.1).go hH2 ?_
      simp -implicitDefEqProofs only [go_sem, r0, r3]
      refine ⟨_, ?_, g, limitD st2 (decide (8 < l.length + 1)), l ++ [x], y', upd_same .., by rw [List.map_append]; exact hy'.put hB hH2 _, (((ha.trans h2).trans h3).trans h4), hfin, by omega, by simp; omega, rfl, ?_, ?_⟩
      · have : st1.ts.length = st'.ts.length := by rw [htl]
        omega
      all_goals simp -implicitDefEqProofs only [go_sem, r0, r3]
theorem tgt_p (st : PS) (hw : WfP st) : PC 43 [] st (tgtA (tgtP st).1) (tgtP st).2 := .of fun G id => by
  refine FnOK.body hU hm Tryz.func43 rfl (by kernel_rfl) 23 rfl [.tmp 2] rfl (Nat.le_of_ble_eq_true rfl) (fun hwf => ?_)
  simp -implicitDefEqProofs only [go_sem]
  refine (take_ok st whenT hw).run ?_
  cases d0 : isD st whenT
  · have et : takeD st whenT = (false, st) := by simp [takeD, d0]
    have ep : tgtP st = ([], st) := by simp [tgtP, d0]
    rw [et]
    simp -implicitDefEqProofs only [go_sem]
    exact .mk (h' := upd G id (some (PO (tgtP st).2))) (tgtA []) (.sl _ _) (by rw [ep]; exact .refl _) ⟨by rw [ep], rfl⟩
  have et : takeD st whenT = (true, nextD st) := by simp [takeD, d0]
  have h0 := ah_next hw (isD_kind d0)
  have h1 := ah_any h0.1
  have hm1 := any_p _ h0.1
  obtain ⟨x0, st1, e1⟩ : ∃ x0 st1, anyP (nextD st) = (x0, st1) := ⟨_, _, rfl⟩
  obtain ⟨M, eM⟩ : ∃ M, manyF anyP andT 8 st.ts.length st1 [x0] = M := ⟨_, rfl⟩
  have ep : M = tgtP st := by simp only [tgtP, d0, if_true, e1, eM]
  rw [e1] at h1 hm1
  simp only [anyA] at h1 hm1
  rw [et]
  simp -implicitDefEqProofs only [go_sem]
  refine hm1.run ?_
  simp -implicitDefEqProofs only [go_sem]
  have hB : upd G id none id = none := upd_same ..
  refine .intro (fun m ρ H => ∃ (f : Nat) (st' : PS) (l : List _) (y : AV), H id = some (PO st') ∧ Acc U 62 (upd G id none) H y (l.map anyA) ∧ Ah st1 st' ∧ manyF anyP andT 8 f st' l = M ∧ st1.ts.length ≤ f + st'.pos ∧ l.length ≤ st'.pos + 1 ∧ m = st1.ts.length - st'.pos ∧ lk ρ 0 = some (.ptr id 0) ∧ lk ρ 3 = some y) (st1.ts.length - st1.pos) ?_ ?_
  · refine ⟨st.ts.length, st1, [x0], .sl ([x0].map anyA) .full, upd_same .., .full (base_start G id _), .refl h1.1, eM, by rw [h1.2.1, h0.2.1]; omega, by simp, rfl, ?_, ?_⟩ <;> simp -implicitDefEqProofs only [go_sem] <;> rfl
  · rintro m ρ H ⟨f, st', l, y, hH, hy, ha, hfin, hf, hll, rfl, r0, r3⟩
    have hlen := ha.1.2.2
    have hpos := ha.1.1
    have htl := ha.2.1
    simp -implicitDefEqProofs only [go_sem, r0, r3]
    refine (take_ok st' andT ha.1).go hH ?_
    cases d1 : isD st' andT
    · have et : takeD st' andT = (false, st') := by simp [takeD, d1]
      have ef : manyF anyP andT 8 f st' l = (l, st') := by cases f <;> simp [manyF, d1]
      rw [et, upd_self hH]
      rw [ef] at hfin
      simp -implicitDefEqProofs only [go_sem, r0, r3]
      exact .mk (h' := upd G id (some (PO (tgtP st).2))) (tgtA l) hy.weak (by rw [← ep, ← hfin]; exact base_end hy.1 hH) ⟨by rw [← ep, ← hfin], rfl⟩
    · have et : takeD st' andT = (true, nextD st') := by simp [takeD, d1]
      obtain ⟨g, rfl⟩ : ∃ g, f = g + 1 := ⟨f - 1, by rw [htl] at hpos; omega⟩
      simp only [manyF, d1, if_true] at hfin
      have h2 := ah_next ha.1 (isD_kind d1)
      have hone := any_p (nextD st') h2.1
      have h3 := (fun _ h => ah_any h : ∀ st, WfP st → Ah st (anyP st).2) _ h2.1
      obtain ⟨x, st2, e2⟩ : ∃ x st2, anyP (nextD st') = (x, st2) := ⟨_, _, rfl⟩
      rw [e2] at hfin hone h3
      simp only [anyA] at hfin hone h3
      have hdec : decide ((8 : Int) < ((l.length + 1 : Nat) : Int)) = decide (8 < l.length + 1) := by
        by_cases h : 8 < l.length + 1
        · simp only [h, decide_true]; exact decide_eq_true (by omega)
        · simp only [h, decide_false]; exact decide_eq_false (by omega)
      have h4 := ah_limit (decide (8 < l.length + 1)) h3.1
      have hnp : (nextD st').pos = st'.pos + 1 := rfl
      have hp3 := h3.2.2
      have hp4 := h4.2.2
      rw [et]
      simp -implicitDefEqProofs only [go_sem, r0, r3]
      refine hone.run ?_
      simp -implicitDefEqProofs only [go_sem, r0, r3]
      refine (hy.put hB hH _).app (zs := [anyA x]) (by rw [uz_y]; decide) (by rw [ub_y]; decide) (fun k hk => hk) (by rw [uz_y]; exact sized_y l) (by rw [uz_y]; exact sized_y [x]) (by rw [ub_y]; simp; omega) fun y' H2 hy' hk2 => ?_
      have hH2 : H2 id = some (PO st2) := hk2 _ _ _ (upd_same ..)
      simp -implicitDefEqProofs only [go_sem, r0, r3, hy'.len, List.length_append, List.length_map, List.length_cons, List.length_nil, Nat.zero_add, hdec]
      refine (limit_ok st2 _ h3.1).go hH2 ?_
      simp -implicitDefEqProofs only [go_sem, r0, r3]
      refine ⟨_, ?_, g, limitD st2 (decide (8 < l.length + 1)), l ++ [x], y', upd_same .., by rw [List.map_append]; exact hy'.put hB hH2 _, (((ha.trans h2).trans h3).trans h4), hfin, by omega, by simp; omega, rfl, ?_, ?_⟩
      · have : st1.ts.length = st'.ts.length := by rw [htl]
        omega
      all_goals simp -implicitDefEqProofs only [go_sem, r0, r3]
end Go.Proofs.YtdcchpbncckhlaaGreatDoor

set_option linter.unusedSimpArgs false
set_option linter.unusedVariables false
namespace Go.Proofs.YtdcchpbncckhlaaGreatDoor
open Go Go.Ab Go.Bf
theorem operands_ok (op : Int) (h : Heap) : FnOK Tryz.prog 121 [.v (.int .i64 op)] h fun r h' => r = .sl ((opers op).map boolA) .no ∧ h' = h := by
  refine FnOK.body hU hm Tryz.func121 rfl (by kernel_rfl) 15 rfl [.tmp 2] rfl (Nat.le_of_ble_eq_true rfl) (fun hwf => ?_)
  cases k3 : (op == 3) <;> cases k4 : (op == 4) <;> cases k5 : (op == 5) <;> cases k11 : (op == 11)
  all_goals
    simp -implicitDefEqProofs only [go_sem, k3, k4, k5, k11]
    simp only [beq_iff_eq, beq_eq_false_iff_ne] at k3 k4 k5 k11
    refine .mk _ (.sl _ _) (.refl _) ⟨?_, rfl⟩
    simp [opers, k3, k4, k5, k11, boolA]
theorem uz_o : (U 64).sz = 3 := by simp only [go_sem]
theorem ub_o : (U 64).bytes = 32 := by simp only [go_sem]
theorem sized_o (l : List OblD) : Sized 3 (l.map oblA) := fun z hz => by
  obtain ⟨c, _, rfl⟩ := List.mem_map.1 hz; rfl
set_option maxRecDepth 20000 in
theorem duties_p (st : PS) (hw : WfP st) : PC 47 [] st (oblsA (oblsP st).1) (oblsP st).2 := .of fun G id => by
  obtain ⟨M, eM⟩ : ∃ M, oblsP st = M := ⟨_, rfl⟩
  have eM2 : manyF oblP onceT 8 st.ts.length st [] = M := eM
  refine FnOK.body hU hm Tryz.func47 rfl (by kernel_rfl) 28 rfl [.tmp 2] rfl (Nat.le_of_ble_eq_true rfl) (fun hwf => ?_)
  simp -implicitDefEqProofs only [go_sem]
  have hB : upd G id none id = none := upd_same ..
  refine .intro (fun m ρ H => ∃ (f : Nat) (st' : PS) (l : List OblD) (y : AV), H id = some (PO st') ∧ Acc U 64 (upd G id none) H y (l.map oblA) ∧ Ah st st' ∧ manyF oblP onceT 8 f st' l = M ∧ st.ts.length ≤ f + st'.pos ∧ l.length ≤ st'.pos + 1 ∧ m = st.ts.length - st'.pos ∧ lk ρ 0 = some (.ptr id 0) ∧ lk ρ 3 = some y) (st.ts.length - st.pos) ?_ ?_
  · refine ⟨st.ts.length, st, [], .sl ([].map oblA) .full, upd_same .., .full (base_start G id _), .refl hw, eM2, by omega, by simp, rfl, ?_, ?_⟩ <;> simp -implicitDefEqProofs only [go_sem] <;> rfl
  · rintro m ρ H ⟨f, st', l, y, hH, hy, ha, hfin, hf, hll, rfl, r0, r3⟩
    have hlen := ha.1.2.2
    have hpos := ha.1.1
    have htl := ha.2.1
    simp -implicitDefEqProofs only [go_sem, r0, r3]
    refine (take_ok st' onceT ha.1).go hH ?_
    cases d1 : isD st' onceT
    · have et : takeD st' onceT = (false, st') := by simp [takeD, d1]
      have ef : manyF oblP onceT 8 f st' l = (l, st') := by cases f <;> simp [manyF, d1]
      rw [et, upd_self hH]
      rw [ef] at hfin
      simp -implicitDefEqProofs only [go_sem, r0, r3]
      exact .mk (h' := upd G id (some (PO (oblsP st).2))) (oblsA l) hy.weak (by rw [eM, ← hfin]; exact base_end hy.1 hH) ⟨by rw [eM, ← hfin], rfl⟩
    · have et : takeD st' onceT = (true, nextD st') := by simp [takeD, d1]
      obtain ⟨g, rfl⟩ : ∃ g, f = g + 1 := ⟨f - 1, by rw [htl] at hpos; omega⟩
      simp only [manyF, d1, if_true] at hfin
      have h2 := ah_next ha.1 (isD_kind d1)
      have ho1 := ah_among onWs h2.1
      have ho2 := ah_among dutyWs ho1.1
      have ho3 := ah_name ho2.1
      have h3 : Ah (nextD st') (oblP (nextD st')).2 := ah_obl h2.1
      have hdec : decide ((8 : Int) < ((l.length + 1 : Nat) : Int)) = decide (8 < l.length + 1) := by
        by_cases h : 8 < l.length + 1
        · simp only [h, decide_true]; exact decide_eq_true (by omega)
        · simp only [h, decide_false]; exact decide_eq_false (by omega)
      have h4 := ah_limit (decide (8 < l.length + 1)) h3.1
      have hnp : (nextD st').pos = st'.pos + 1 := rfl
      have hp3 := h3.2.2
      have hp4 := h4.2.2
      have eX : (oblP (nextD st')) = (⟨(amongD (nextD st') onWs).1, (amongD (amongD (nextD st') onWs).2 dutyWs).1, (nameP (amongD (amongD (nextD st') onWs).2 dutyWs).2).1⟩, (nameP (amongD (amongD (nextD st') onWs).2 dutyWs).2).2) := rfl
      obtain ⟨x, st2, e2⟩ : ∃ x st2, oblP (nextD st') = (x, st2) := ⟨_, _, rfl⟩
      rw [et]
      simp -implicitDefEqProofs only [go_sem, r0, r3]
      intro i4 hi4
      have n4 := ne_upd hi4
      have hH4 : H i4 = none := by rw [upd_other _ _ n4] at hi4; exact hi4
      have c4 : ∀ (f : Heap) (x y : Option Blk), upd (upd f id x) i4 y = upd (upd f i4 y) id x := fun f x y => upd_comm f x y n4.symm
      simp -implicitDefEqProofs only [go_sem, r0, r3, c4]
      refine (among_ok _ onWs .full (by decide) h2.1).run ?_
      simp -implicitDefEqProofs only [go_sem, r0, r3, c4, upd_ne, n4]
      refine (among_ok _ dutyWs .full (by decide) ho1.1).run ?_
      simp -implicitDefEqProofs only [go_sem, r0, r3, c4, upd_ne, n4]
      refine (pname_ok _ ho2.1).run ?_
      simp -implicitDefEqProofs only [go_sem, r0, r3, c4, upd_ne, n4]
      rw [e2] at hfin h3 h4 hp3 hp4
      simp only at hfin h3 h4 hp3 hp4
      have ex1 : x = (oblP (nextD st')).1 := by rw [e2]
      have ex2 : st2 = (nameP (amongD (amongD (nextD st') onWs).2 dutyWs).2).2 := by
        have : st2 = (oblP (nextD st')).2 := by rw [e2]
        exact this
      rw [← ex2]
      refine ((hy.sub (Sub.upd_new (k := _) hH4)).put hB (by rw [upd_other _ _ n4.symm]; exact hH) _).app (zs := [oblA x]) (by rw [uz_o]; decide) (by rw [ub_o]; decide) (fun k hk => by rw [ex1] at hk; exact hk) (by rw [uz_o]; exact sized_o l) (by rw [uz_o]; exact sized_o [x]) (by rw [ub_o]; simp; omega) fun y' H2 hy' hk2 => ?_
      have hH2 : H2 id = some (PO st2) := hk2 _ _ _ (upd_same ..)
      simp -implicitDefEqProofs only [go_sem, r0, r3, hy'.len, List.length_append, List.length_map, List.length_cons, List.length_nil, Nat.zero_add, hdec]
      refine (limit_ok st2 _ h3.1).go hH2 ?_
      simp -implicitDefEqProofs only [go_sem, r0, r3]
      refine ⟨_, ?_, g, limitD st2 (decide (8 < l.length + 1)), l ++ [x], y', upd_same .., by rw [List.map_append]; exact hy'.put hB hH2 _, (((ha.trans h2).trans h3).trans h4), hfin, by omega, by simp; omega, rfl, ?_, ?_⟩
      · have : st.ts.length = st'.ts.length := by rw [htl]
        omega
      all_goals simp -implicitDefEqProofs only [go_sem, r0, r3]
end Go.Proofs.YtdcchpbncckhlaaGreatDoor
