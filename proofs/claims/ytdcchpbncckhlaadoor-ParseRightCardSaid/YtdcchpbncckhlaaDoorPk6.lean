/- The law ParseRight: pack 6 of its texts. -/
import Derived.Test.YtdcchpbncckhlaaDoorPk1
import Derived.Test.YtdcchpbncckhlaaDoorPk2
import Derived.Test.YtdcchpbncckhlaaDoorPk3
import Derived.Test.YtdcchpbncckhlaaDoorPk4
import Derived.Test.YtdcchpbncckhlaaDoorPk5
/- How long texts of right things may be. -/
set_option linter.unusedSimpArgs false
set_option linter.unusedVariables false
namespace Go.Bf
open Go Go.Ab

theorem lens_le (xs : List Txt) (B : Nat) (h : ∀ x ∈ xs, x.length ≤ B) : Lib.lens xs ≤ xs.length * B := by
  induction xs with
  | nil => simp [Lib.lens]
  | cons x r ih =>
    have h1 := h x (by simp)
    have h2 := ih fun y hy => h y (by simp [hy])
    simp only [Lib.lens, List.map_cons, List.sum_cons, List.length_cons, Nat.add_mul, Nat.one_mul] at h2 ⊢
    omega
theorem join_length (xs : List Txt) (sep : Txt) : (Lib.join xs sep).length ≤ Lib.lens xs + xs.length * sep.length := by
  cases xs with
  | nil => simp [Lib.join_nil]
  | cons x r =>
    rw [Lib.join_cons, List.length_append, Lib.joinTail_length]
    simp only [Lib.lens, List.map_cons, List.sum_cons, List.length_cons, Nat.add_mul, Nat.one_mul, Nat.mul_comm sep.length]
    omega
theorem join_le (xs : List Txt) (sep : Txt) (n B : Nat) (hn : xs.length ≤ n) (h : ∀ x ∈ xs, x.length ≤ B) : (Lib.join xs sep).length ≤ n * (B + sep.length) := by
  have h1 := join_length xs sep
  have h2 := lens_le xs B h
  have h3 : xs.length * (B + sep.length) ≤ n * (B + sep.length) := Nat.mul_le_mul_right _ hn
  rw [Nat.mul_add] at h3
  omega
theorem flatten_le (xs : List Txt) (n B : Nat) (hn : xs.length ≤ n) (h : ∀ x ∈ xs, x.length ≤ B) : xs.flatten.length ≤ n * B := by
  have h2 := lens_le xs B h
  have h3 : xs.length * B ≤ n * B := Nat.mul_le_mul_right _ hn
  have h4 : xs.flatten.length = Lib.lens xs := by rw [List.length_flatten]; rfl
  omega
theorem nameOK_le {s : Txt} (h : nameOK s = true) : s.length ≤ 16 := by
  simp [nameOK] at h; exact h.2
theorem catW_le (n : Int) : (catW n).length ≤ 7 := by
  unfold catW; repeat' split
  all_goals decide
theorem opW_le (n : Int) : (opW n).length = 1 := by
  unfold opW; repeat' split
  all_goals rfl
theorem fnW_le (n : Int) : (fnW n).length ≤ 4 := by
  unfold fnW; repeat' split
  all_goals decide
theorem onW_le (n : Int) : (onW n).length ≤ 6 := by
  unfold onW; split <;> decide
theorem dutyW_le (n : Int) : (dutyW n).length ≤ 6 := by
  unfold dutyW; repeat' split
  all_goals decide
theorem algW_le (n : Int) : (algW n).length ≤ 12 := by
  unfold algW; repeat' split
  all_goals decide
theorem attrT_le {a : AttrD} (h : attrOK a = true) : (attrT a).length ≤ 25 := by
  simp only [attrOK, Bool.and_eq_true] at h
  have h1 := nameOK_le h.2
  have h2 := catW_le a.cat
  unfold attrT
  simp only [List.length_append, List.length_cons, List.length_nil]
  split <;> simp <;> omega
theorem quoteT_le (l : Txt) (h : l.length ≤ 64) : (quoteT l).length ≤ 194 := by
  have := flatten_le (l.map quoteB) 64 3 (by simpa using h) fun x hx => by
    obtain ⟨c, _, rfl⟩ := List.mem_map.1 hx
    unfold quoteB; split <;> simp
  unfold quoteT
  simp only [List.length_append, List.length_cons, List.length_nil]
  omega
theorem valT_le {v : ValD} (h : valOK v = true) (h1 : -9223372036854775808 ≤ v.n) (h2 : v.n ≤ 9223372036854775807) : (valT v).length ≤ 194 := by
  have hi := Lib.itoa_length_le v.n h1 h2
  unfold valT
  unfold valOK at h
  split
  · cases (v.n == 1) <;> decide
  split
  · simp only [List.length_append, List.length_cons, List.length_nil]; omega
  split
  · rename_i k5
    simp only [k5] at h
    simp at h
    have := nameOK_le h.2
    simp only [List.length_append, List.length_cons, List.length_nil]; omega
  split
  · rename_i k3
    simp only [k3] at h
    simp at h
    exact quoteT_le _ h.2
  · omega
theorem matchT_le {m : MatchD} (h : attrOK m.attr = true) (hv : (valT m.val).length ≤ 194) : (matchT m).length ≤ 222 := by
  have h1 := attrT_le h
  have h2 := opW_le m.op
  unfold matchT
  simp only [List.length_append, List.length_cons, List.length_nil]
  omega
theorem oblT_le {o : OblD} (h : oblOK o = true) : (oblT o).length ≤ 34 := by
  simp only [oblOK, Bool.and_eq_true] at h
  have h1 := nameOK_le h.2
  have h2 := onW_le o.on
  have h3 := dutyW_le o.kind
  unfold oblT
  simp only [List.length_append, List.length_cons, List.length_nil]
  omega
theorem oblsE_zero {l : List OblD} (h : oblsE l = 0) : l.length ≤ 8 ∧ ∀ o ∈ l, oblOK o = true := by
  unfold oblsE at h
  split at h
  · cases h
  · rename_i h8
    split at h
    · rename_i ha; exact ⟨by omega, fun o ho => List.all_eq_true.1 ha o ho⟩
    · cases h
theorem oblsT_le {l : List OblD} (h : oblsE l = 0) : (oblsT l).length ≤ 272 := by
  obtain ⟨h1, h2⟩ := oblsE_zero h
  exact flatten_le (l.map oblT) 8 34 (by simpa using h1) fun x hx => by
    obtain ⟨o, ho, rfl⟩ := List.mem_map.1 hx
    exact oblT_le (h2 o ho)
theorem manyE_zero {n : Nat} (h : manyE n = 0) : 0 < n ∧ n ≤ 8 := by
  unfold manyE at h
  split at h
  · cases h
  · split at h
    · cases h
    · omega
theorem firstE_zero {α : Type} {f : α → Int} {l : List α} (h : firstE f l = 0) : ∀ x ∈ l, f x = 0 := by
  induction l with
  | nil => intro x hx; cases hx
  | cons y r ih =>
    simp only [firstE] at h
    split at h
    · rename_i hy
      intro x hx
      rcases List.mem_cons.1 hx with rfl | hx
      · exact hy
      · exact ih h x hx
    · rename_i hy; exact (hy h).elim
theorem allE_zero {l : List MatchD} (h : allE l = 0) : 0 < l.length ∧ l.length ≤ 8 ∧ ∀ m ∈ l, matchOK m = true := by
  unfold allE at h
  split at h
  · rename_i hm
    have := manyE_zero hm
    split at h
    · rename_i ha; exact ⟨this.1, this.2, fun o ho => List.all_eq_true.1 ha o ho⟩
    · cases h
  · rename_i hm; exact (hm h).elim
theorem anyE_zero {l : List (List MatchD)} (h : anyE l = 0) : 0 < l.length ∧ l.length ≤ 8 ∧ ∀ m ∈ l, allE m = 0 := by
  unfold anyE at h
  split at h
  · rename_i hm
    have := manyE_zero hm
    exact ⟨this.1, this.2, firstE_zero h⟩
  · rename_i hm; exact (hm h).elim
theorem tgtE_zero {l : TgtD} (h : tgtE l = 0) : l.length ≤ 8 ∧ ∀ m ∈ l, anyE m = 0 := by
  unfold tgtE at h
  split at h
  · cases h
  · exact ⟨by omega, firstE_zero h⟩
theorem matchOK_cases {m : MatchD} (h : matchOK m = true) : attrOK m.attr = true ∧ 1 ≤ m.op ∧ m.op ≤ 3 ∧ valOK m.val = true := by
  simp only [matchOK, Bool.and_eq_true, decide_eq_true_eq] at h
  exact ⟨h.1.1.1, h.1.1.2, h.1.2, h.2⟩
/-- The stack of texts: so long in all, a mark behind each. -/
def tot (st : List Txt) : Nat := Lib.lens st + st.length
theorem tot_append (a b : List Txt) : tot (a ++ b) = tot a + tot b := by
  simp [tot, Lib.lens]; omega
theorem tot_one (s : Txt) : tot [s] = s.length + 1 := by simp [tot, Lib.lens]
theorem mem_tot {st : List Txt} {s : Txt} (h : s ∈ st) : s.length ≤ tot st := by
  induction st with
  | nil => cases h
  | cons x r ih =>
    have : tot (x :: r) = tot [x] + tot r := tot_append [x] r
    rw [this, tot_one]
    rcases List.mem_cons.1 h with rfl | h
    · omega
    · have := ih h; omega
theorem fn_tot (st : List Txt) (k : Nat) (w : Txt) (hw : w.length ≤ 4) : tot (st.take k ++ [[40] ++ w ++ [32] ++ Lib.join (st.drop k) [32] ++ [41]]) ≤ tot st + 9 := by
  have e : tot st = tot (st.take k) + tot (st.drop k) := by rw [← tot_append, List.take_append_drop]
  have hj := join_length (st.drop k) [32]
  rw [tot_append, tot_one, e]
  simp only [List.length_append, List.length_cons, List.length_nil, tot] at hj ⊢
  omega
/-- What a node that may stand there is, and does. -/
theorem stepD_some {bs bs' : List Bool} {n : NodeD} (h : stepD bs n = some bs') :
    (n.op = 1 ∧ valOK n.val = true ∧ bs' = bs ++ [false]) ∨ (n.op = 2 ∧ attrOK n.attr = true ∧ bs' = bs ++ [true]) ∨
    (3 ≤ n.op ∧ n.op ≤ 13 ∧ arity n.op ≤ bs.length ∧ bs'.length = bs.length - arity n.op + 1) := by
  unfold stepD at h
  split at h
  · cases h
  rename_i w hw
  split at h
  case isFalse => cases h
  rename_i hc
  obtain ⟨hf, hl, hd⟩ := hc
  cases h
  unfold wantsD at hw
  unfold fieldsOK at hf
  split at hw
  · rename_i h12
    cases hw
    rcases h12 with h1 | h2
    · rw [if_pos h1, Bool.and_eq_true] at hf
      exact .inl ⟨h1, hf.1, by simp [h1]⟩
    · rw [if_neg (by omega), if_pos h2, Bool.and_eq_true] at hf
      exact .inr (.inl ⟨h2, hf.1, by simp [h2]⟩)
  · rename_i h12
    have ha : 3 ≤ n.op ∧ n.op ≤ 13 ∧ w.length = arity n.op := by
      unfold arity
      split at hw
      · rename_i h3; cases hw; rw [if_pos (by omega)]; exact ⟨by omega, by omega, rfl⟩
      split at hw
      · rename_i h3; cases hw; rw [if_neg (by omega)]; exact ⟨by omega, by omega, rfl⟩
      split at hw
      · rename_i h3; cases hw; rw [if_pos (by omega)]; exact ⟨by omega, by omega, rfl⟩
      split at hw
      · rename_i h3; cases hw; rw [if_neg (by omega)]; exact ⟨by omega, by omega, rfl⟩
      · cases hw
    refine .inr (.inr ⟨ha.1, ha.2.1, by omega, ?_⟩)
    rw [List.length_append, List.length_take, ha.2.2]
    simp only [List.length_singleton]
    omega
theorem stepT_length {bs bs' : List Bool} {st : List Txt} {n : NodeD} (h : stepD bs n = some bs') (hl : st.length = bs.length) : (stepT st n).length = bs'.length := by
  unfold stepT
  rcases stepD_some h with ⟨h1, _, rfl⟩ | ⟨h1, _, rfl⟩ | ⟨h1, h2, h3, h4⟩
  · rw [if_pos h1]; simp [hl]
  · rw [if_neg (by omega), if_pos h1]; simp [hl]
  · rw [if_neg (by omega), if_neg (by omega), h4]; simp [hl]
end Go.Bf

/- How long texts of right policies may be. -/
set_option linter.unusedSimpArgs false
set_option linter.unusedVariables false
namespace Go.Bf
open Go Go.Ab

def inV (v : ValD) : Prop := -9223372036854775808 ≤ v.n ∧ v.n ≤ 9223372036854775807
def inA (l : List MatchD) : Prop := ∀ m ∈ l, inV m.val
def inY (l : List (List MatchD)) : Prop := ∀ a ∈ l, inA a
def inT (t : TgtD) : Prop := ∀ a ∈ t, inY a
def inL (l : List NodeD) : Prop := ∀ n ∈ l, inV n.val
def inR (r : RuleD) : Prop := inT r.tgt ∧ inL r.cond
mutual
def inP : PolD → Prop
  | .mk id set alg tgt rules kids obls => inT tgt ∧ (∀ r ∈ rules, inR r) ∧ inK kids
def inK : List PolD → Prop
  | [] => True
  | k :: r => inP k ∧ inK r
end
theorem inK_eq : ∀ l : List PolD, inK l ↔ ∀ k ∈ l, inP k
  | [] => by simp [inK]
  | k :: r => by simp [inK, inK_eq r]

theorem allT_le {l : List MatchD} (h : allE l = 0) (hi : inA l) : (allT l).length ≤ 1792 := by
  obtain ⟨_, h1, h2⟩ := allE_zero h
  exact join_le (l.map matchT) [44, 32] 8 222 (by simpa using h1) fun x hx => by
    obtain ⟨m, hm, rfl⟩ := List.mem_map.1 hx
    have := matchOK_cases (h2 m hm)
    exact matchT_le this.1 (valT_le this.2.2.2 (hi m hm).1 (hi m hm).2)
theorem anyT_le {l : List (List MatchD)} (h : anyE l = 0) (hi : inY l) : (anyT l).length ≤ 14370 := by
  obtain ⟨_, h1, h2⟩ := anyE_zero h
  have := join_le (l.map allT) [32, 111, 114, 32] 8 1792 (by simpa using h1) fun x hx => by
    obtain ⟨m, hm, rfl⟩ := List.mem_map.1 hx
    exact allT_le (h2 m hm) (hi m hm)
  unfold anyT
  simp only [List.length_append, List.length_cons, List.length_nil] at this ⊢
  omega
theorem tgtT_le {t : TgtD} (h : tgtE t = 0) (hi : inT t) : (tgtT t).length ≤ 115006 := by
  obtain ⟨h1, h2⟩ := tgtE_zero h
  have := join_le (t.map anyT) [32, 97, 110, 100, 32] 8 14370 (by simpa using h1) fun x hx => by
    obtain ⟨m, hm, rfl⟩ := List.mem_map.1 hx
    exact anyT_le (h2 m hm) (hi m hm)
  unfold tgtT
  split
  · simp
  · simp only [List.length_append, List.length_cons, List.length_nil] at this ⊢
    omega
theorem stepT_tot {bs bs' : List Bool} {st : List Txt} {n : NodeD} (h : stepD bs n = some bs') (hi : inV n.val) : tot (stepT st n) ≤ tot st + 195 := by
  unfold stepT
  rcases stepD_some h with ⟨h1, h2, rfl⟩ | ⟨h1, h2, rfl⟩ | ⟨h1, h2, h3, h4⟩
  · have := valT_le h2 hi.1 hi.2
    rw [if_pos h1, tot_append, tot_one]; omega
  · have := attrT_le h2
    rw [if_neg (by omega), if_pos h1, tot_append, tot_one]; omega
  · have := fn_tot st (st.length - arity n.op) (fnW n.op) (fnW_le _)
    rw [if_neg (by omega), if_neg (by omega)]; omega
theorem stepsT_tot : ∀ (l : List NodeD) (bs bs' : List Bool) (st : List Txt), stepsD bs l = some bs' → inL l → st.length = bs.length → (l.foldl stepT st).length = bs'.length ∧ tot (l.foldl stepT st) ≤ tot st + 195 * l.length
  | [], bs, bs', st, h, hi, hl => by
    simp only [stepsD, Option.some.injEq] at h; subst h
    simp [hl]
  | n :: r, bs, bs', st, h, hi, hl => by
    simp only [stepsD] at h
    cases hs : stepD bs n with
    | none => rw [hs] at h; cases h
    | some b2 =>
      rw [hs] at h
      have h1 := stepT_tot (st := st) hs (hi n (by simp))
      have h2 := stepsT_tot r b2 bs' (stepT st n) h (fun x hx => hi x (by simp [hx])) (stepT_length hs hl)
      simp only [List.foldl_cons, List.length_cons]
      omega
theorem exprE_zero {l : List NodeD} (h : exprE l = 0) (hn : l ≠ []) : l.length ≤ 32 ∧ stepsD [] l = some [false] := by
  unfold exprE at h
  split at h
  · cases h
  · split at h
    · cases h
    · rename_i st hst
      split at h
      · rename_i hx
        rcases hx with hx | hx
        · exact (hn hx).elim
        · subst hx; exact ⟨by omega, hst⟩
      · cases h
theorem exprE_take {l : List NodeD} (h : exprE l = 0) (i : Nat) : ∃ bs, stepsD [] (l.take i) = some bs := by
  by_cases hn : l = []
  · subst hn; exact ⟨[], by simp [stepsD]⟩
  · have h2 := (exprE_zero h hn).2
    have : ∀ (l : List NodeD) (bs : List Bool) (b : List Bool) (i : Nat), stepsD bs l = some b → ∃ bs', stepsD bs (l.take i) = some bs' := by
      intro l
      induction l with
      | nil => intro bs b i _; exact ⟨bs, by simp [stepsD]⟩
      | cons n r ih =>
        intro bs b i hh
        cases i with
        | zero => exact ⟨bs, by simp [stepsD]⟩
        | succ i =>
          simp only [List.take_succ_cons, stepsD] at hh ⊢
          cases hs : stepD bs n with
          | none => rw [hs] at hh; cases hh
          | some b2 => rw [hs] at hh; exact ih b2 b i hh
    exact this l [] _ i h2
theorem exprT_le {l : List NodeD} (h : exprE l = 0) (hi : inL l) : (exprT l).length ≤ 6240 := by
  by_cases hn : l = []
  · subst hn; simp [exprT]
  obtain ⟨h1, h2⟩ := exprE_zero h hn
  obtain ⟨h3, h4⟩ := stepsT_tot l [] [false] [] h2 hi rfl
  unfold exprT
  cases hx : l.foldl stepT [] with
  | nil => simp
  | cons s r =>
    have := mem_tot (st := l.foldl stepT []) (s := s) (by rw [hx]; simp)
    simp only [tot, Lib.lens] at h4
    simp only [List.headD_cons]
    simp only [tot, Lib.lens] at this
    simp at h4
    omega
def ruleE (r : RuleD) : Prop := nameOK r.id = true ∧ tgtE r.tgt = 0 ∧ exprE r.cond = 0 ∧ oblsE r.obls = 0
theorem ruleT_le {r : RuleD} (h : ruleE r) (hi : inR r) : (ruleT r).length ≤ 122000 := by
  have h1 := nameOK_le h.1
  have h2 := tgtT_le h.2.1 hi.1
  have h3 := exprT_le h.2.2.1 hi.2
  have h4 := oblsT_le h.2.2.2
  unfold ruleT
  cases r.deny <;> simp only [List.length_append, List.length_cons, List.length_nil, if_true, Bool.false_eq_true, if_false] <;> split <;> simp <;> omega
mutual
/-- What a right policy of a depth is made of. -/
def polE (d : Nat) : PolD → Prop
  | .mk id set alg tgt rules kids obls => d ≤ 4 ∧ nameOK id = true ∧ 1 ≤ alg ∧ alg ≤ 6 ∧ (set = true → rules = []) ∧ (set = false → kids = [] ∧ alg ≠ 4) ∧ tgtE tgt = 0 ∧ oblsE obls = 0 ∧ rules.length ≤ 16 ∧ kids.length ≤ 16 ∧ (∀ r ∈ rules, ruleE r) ∧ kidsE (d + 1) kids
def kidsE (d : Nat) : List PolD → Prop
  | [] => True
  | k :: r => polE d k ∧ kidsE d r
end
theorem kidsE_eq (d : Nat) : ∀ l : List PolD, kidsE d l ↔ ∀ k ∈ l, polE d k
  | [] => by simp [kidsE]
  | k :: r => by simp [kidsE, kidsE_eq d r]
theorem kidsT_eq : ∀ l : List PolD, kidsT l = (l.map fun k => [32] ++ polT k).flatten
  | [] => by simp [kidsT]
  | k :: r => by simp [kidsT, kidsT_eq r]
def polB : Nat → Nat
  | 0 => 0
  | n + 1 => 3000000 + 16 * (1 + polB n)
theorem polT_le : ∀ (n d : Nat) (p : PolD), d + n = 5 → polE d p → inP p → (polT p).length ≤ polB n
  | 0, d, .mk id set alg tgt rules kids obls, hd, h, hi => by simp only [polE] at h; omega
  | n + 1, d, .mk id set alg tgt rules kids obls, hd, h, hi => by
    simp only [polE] at h
    simp only [inP] at hi
    obtain ⟨_, g1, _, _, _, _, g2, g3, g4, g5, g6, g7⟩ := h
    obtain ⟨i1, i2, i3⟩ := hi
    have h1 := nameOK_le g1
    have h2 := tgtT_le g2 i1
    have h4 := oblsT_le g3
    have h5 := algW_le alg
    have h6 := flatten_le (rules.map ruleT) 16 122000 (by simpa using g4) fun x hx => by
      obtain ⟨r, hr, rfl⟩ := List.mem_map.1 hx
      exact ruleT_le (g6 r hr) (i2 r hr)
    have h7 := flatten_le (kids.map fun k => [32] ++ polT k) 16 (1 + polB n) (by simpa using g5) fun x hx => by
      obtain ⟨k, hk, rfl⟩ := List.mem_map.1 hx
      have := polT_le n (d + 1) k (by omega) ((kidsE_eq _ _).1 g7 k hk) ((inK_eq _).1 i3 k hk)
      simp only [List.length_append, List.length_cons, List.length_nil]; omega
    simp only [polT, polB, kidsT_eq]
    cases set <;> simp only [List.length_append, List.length_cons, List.length_nil, if_true, Bool.false_eq_true, if_false] <;> omega
theorem polB_le : polB 4 ≤ 1000000000000 := by decide
/-- What may be is made of right things. -/
theorem meetD_name {m m' : MetD} {s : Txt} (h : meetD m s = some m') : nameOK s = true := by
  unfold meetD at h
  split at h
  · rename_i hc; exact hc.2
  · cases h
theorem need_ok' {e : Int} {w : Went} {m : MetD} (h : need e w = .ok m) : e = 0 ∧ w = .ok m := by
  unfold need at h
  split at h
  · exact ⟨by assumption, h⟩
  · cases h
theorem ruleW_ok {m m' : MetD} {r : RuleD} (h : ruleW m r = .ok m') : ruleE r := by
  unfold ruleW at h
  split at h
  · cases h
  · rename_i m1 hm
    split at h
    · cases h
    · obtain ⟨h1, h⟩ := need_ok' h
      obtain ⟨h2, h⟩ := need_ok' h
      obtain ⟨h3, h⟩ := need_ok' h
      exact ⟨meetD_name hm, h1, h2, h3⟩
theorem rulesW_ok : ∀ (l : List RuleD) (m m' : MetD), rulesW m l = .ok m' → ∀ r ∈ l, ruleE r
  | [], _, _, _, r, hr => by cases hr
  | x :: l, m, m', h, r, hr => by
    simp only [rulesW] at h
    cases hx : ruleW m x with
    | bad e => rw [hx] at h; cases h
    | ok m1 =>
      rw [hx] at h
      rcases List.mem_cons.1 hr with rfl | hr
      · exact ruleW_ok hx
      · exact rulesW_ok l m1 m' h r hr
theorem headW_ok' {m m1 : MetD} {id : Txt} {set : Bool} {alg : Int} {tgt : TgtD} {nr nk : Nat} {obls : List OblD} (h : headW m id set alg tgt nr nk obls = .ok m1) :
    meetD m id = some m1 ∧ 1 ≤ alg ∧ alg ≤ 6 ∧ (set = true → nr = 0) ∧ (set = false → nk = 0 ∧ alg ≠ 4) ∧ tgtE tgt = 0 ∧ oblsE obls = 0 ∧ nr ≤ 16 ∧ nk ≤ 16 := by
  unfold headW at h
  split at h
  · cases h
  rename_i m2 hm
  split at h
  · cases h
  split at h
  · cases h
  rename_i h1 h2
  obtain ⟨h3, h⟩ := need_ok' h
  obtain ⟨h4, h⟩ := need_ok' h
  split at h
  · cases h
  cases h
  have h5 : (set = true → nr = 0) ∧ (set = false → nk = 0 ∧ alg ≠ 4) := by
    cases set <;> simp at h2 ⊢ <;> omega
  exact ⟨hm, by omega, by omega, h5.1, h5.2, h3, h4, by omega, by omega⟩
mutual
theorem polW_ok : ∀ (p : PolD) (d : Nat) (m m' : MetD), polW m d p = .ok m' → polE d p
  | .mk id set alg tgt rules kids obls, d, m, m', h => by
    simp only [polW] at h
    split at h
    · cases h
    rename_i hd
    split at h
    · cases h
    rename_i m1 h1
    split at h
    · cases h
    rename_i m2 h2
    obtain ⟨g1, g2, g3, g4, g5, g6, g7, g8, g9⟩ := headW_ok' h1
    simp only [polE]
    exact ⟨by omega, meetD_name g1, g2, g3, fun e => List.length_eq_zero_iff.1 (g4 e), fun e => ⟨List.length_eq_zero_iff.1 (g5 e).1, (g5 e).2⟩, g6, g7, g8, g9, rulesW_ok _ _ _ h2, kidsW_ok kids (d + 1) m2 m' h⟩
theorem kidsW_ok : ∀ (l : List PolD) (d : Nat) (m m' : MetD), kidsW m d l = .ok m' → kidsE d l
  | [], _, _, _, _ => by simp [kidsE]
  | k :: r, d, m, m', h => by
    simp only [kidsW] at h
    split at h
    · cases h
    rename_i m1 h1
    simp only [kidsE]
    exact ⟨polW_ok k d m m1 h1, kidsW_ok r d m1 m' h⟩
end
end Go.Bf

/- Targets, policies: the same? -/
set_option linter.unusedSimpArgs false
set_option linter.unusedVariables false
namespace Go.Bf
open Go Go.Ab
def eqT (a b : TgtD) : Bool := eqL (eqL (eqL eqMatch)) a b
def eqR (r s : RuleD) : Bool := r.id == s.id && (r.deny == s.deny && (eqT r.tgt s.tgt && (eqL eqNode r.cond s.cond && eqL eqObl r.obls s.obls)))
mutual
def eqP : PolD → PolD → Bool
  | .mk i1 s1 a1 t1 r1 k1 o1, .mk i2 s2 a2 t2 r2 k2 o2 => i1 == i2 && (s1 == s2 && (a1 == a2 && (eqT t1 t2 && (eqL eqObl o1 o2 && (eqL eqR r1 r2 && eqK k1 k2)))))
def eqK : List PolD → List PolD → Bool
  | [], [] => true
  | x :: a, y :: b => eqP x y && eqK a b
  | _, _ => false
end
theorem eqK_eqL : ∀ a b : List PolD, eqK a b = eqL eqP a b
  | [], [] => rfl
  | [], _ :: _ => rfl
  | _ :: _, [] => rfl
  | x :: a, y :: b => by simp only [eqK, eqL, eqK_eqL a b]
theorem eqT_eq (a b : TgtD) : eqT a b = true ↔ a = b := eqL_eq fun x y => eqL_eq fun x y => eqL_eq eqMatch_eq
theorem eqR_eq (a b : RuleD) : eqR a b = true ↔ a = b := by
  obtain ⟨a1, a2, a3, a4, a5⟩ := a
  obtain ⟨b1, b2, b3, b4, b5⟩ := b
  simp [eqR, eqT_eq, eqL_eq eqNode_eq, eqL_eq eqObl_eq]
mutual
theorem eqP_eq : ∀ a b : PolD, eqP a b = true ↔ a = b
  | .mk i1 s1 a1 t1 r1 k1 o1, .mk i2 s2 a2 t2 r2 k2 o2 => by
    simp only [eqP, Bool.and_eq_true, beq_iff_eq, eqT_eq, eqL_eq eqObl_eq, eqL_eq eqR_eq, eqK_eq k1 k2, PolD.mk.injEq]
    constructor
    · rintro ⟨h1, h2, h3, h4, h5, h6, h7⟩; exact ⟨h1, h2, h3, h4, h6, h7, h5⟩
    · rintro ⟨h1, h2, h3, h4, h5, h6, h7⟩; exact ⟨h1, h2, h3, h4, h7, h5, h6⟩
theorem eqK_eq : ∀ a b : List PolD, eqK a b = true ↔ a = b
  | [], [] => by simp [eqK]
  | [], _ :: _ => by simp [eqK]
  | _ :: _, [] => by simp [eqK]
  | x :: a, y :: b => by simp [eqK, eqP_eq x y, eqK_eq a b]
end
end Go.Bf
namespace Go.Proofs.YtdcchpbncckhlaaDoor
open Go Go.Ab Go.Bf
theorem targets_ok (a b : TgtD) (h : Heap) : FnOK Tryd.prog 44 [tgtA a, tgtA b] h fun r h' => r = .v (.bool (eqT a b)) ∧ h' = h := by
  refine FnOK.body hU hm Tryd.func44 rfl (by kernel_rfl) 54 rfl [.tmp 4] rfl (Nat.le_of_ble_eq_true rfl) (fun hwf => ?_)
  cases d1 : ((a.length : Int) != (b.length : Int))
  case true =>
    have e1 : a.length ≠ b.length := by
      intro e; rw [e] at d1; simp at d1
    simp -implicitDefEqProofs only [go_sem, ↓reduceIte, Nat.reduceLT, Nat.reduceEqDiff, Nat.reduceAdd, Nat.reduceLeDiff, Nat.reduceMul, Nat.reduceSub, Int.natCast_zero, Int.ofNat_zero, Int.natCast_one, Int.cast_ofNat_Int, bne_self_eq_false, beq_self_eq_true, Int.reduceBEq, Int.reduceBNe, Bool.not_true, Bool.not_false, tgtA, List.length_map, d1]
    exact .same (.refl _) ⟨by rw [eqT, eqL_len e1]; rfl, rfl⟩
  have e1 : a.length = b.length := by have : (a.length : Int) = b.length := by simpa using d1
                                      omega
  have hwa := hwf (tgtA a) (by simp)
  simp only [tgtA, wfA, wf1, lim, List.length_map] at hwa
  simp -implicitDefEqProofs only [go_sem, ↓reduceIte, Nat.reduceLT, Nat.reduceEqDiff, Nat.reduceAdd, Nat.reduceLeDiff, Nat.reduceMul, Nat.reduceSub, Int.natCast_zero, Int.ofNat_zero, Int.natCast_one, Int.cast_ofNat_Int, bne_self_eq_false, beq_self_eq_true, Int.reduceBEq, Int.reduceBNe, Bool.not_true, Bool.not_false, tgtA, List.length_map, d1]
  refine .intro (fun m ρ h' => Ab.Sub h h' ∧ ∃ i : Nat, i ≤ a.length ∧ m = a.length - i ∧ (∀ j (h1 : j < a.length) (h2 : j < b.length), j < i → eqL (eqL eqMatch) a[j] b[j] = true) ∧ lk ρ 0 = some (.sl (a.map anyA) .no) ∧ lk ρ 1 = some (.sl (b.map anyA) .no) ∧ lk ρ 13 = some (.v (.int .i64 a.length)) ∧ lk ρ 14 = some (.v (.int .i64 i))) a.length ?_ ?_
  · refine ⟨.refl _, 0, by omega, rfl, fun j _ _ hj => (by omega), ?_, ?_, ?_, ?_⟩ <;> simp -implicitDefEqProofs only [go_sem, ↓reduceIte, Nat.reduceLT, Nat.reduceEqDiff, Nat.reduceAdd, Nat.reduceLeDiff, Nat.reduceMul, Nat.reduceSub, Int.natCast_zero, Int.ofNat_zero, Int.natCast_one, Int.cast_ofNat_Int, bne_self_eq_false, beq_self_eq_true, Int.reduceBEq, Int.reduceBNe, Bool.not_true, Bool.not_false]
  · rintro m ρ h' ⟨hs, i, hi, rfl, hc, r0, r1, r13, r14⟩
    simp -implicitDefEqProofs only [go_sem, ↓reduceIte, Nat.reduceLT, Nat.reduceEqDiff, Nat.reduceAdd, Nat.reduceLeDiff, Nat.reduceMul, Nat.reduceSub, Int.natCast_zero, Int.ofNat_zero, Int.natCast_one, Int.cast_ofNat_Int, bne_self_eq_false, beq_self_eq_true, Int.reduceBEq, Int.reduceBNe, Bool.not_true, Bool.not_false, r0, r1, r13, r14, List.length_map]
    refine .intro (fun e => ?_) (fun e => ?_)
    · have hlt : i < a.length := Int.ofNat_lt.1 (of_decide_eq_true e)
      have hlt2 : i < b.length := by omega
      have w1 : IntKind.i64.wrap ((i : Int) + 1) = ((i + 1 : Nat) : Int) := by rw [wr64 _ (by omega)]; omega
      simp -implicitDefEqProofs only [go_sem, ↓reduceIte, Nat.reduceLT, Nat.reduceEqDiff, Nat.reduceAdd, Nat.reduceLeDiff, Nat.reduceMul, Nat.reduceSub, Int.natCast_zero, Int.ofNat_zero, Int.natCast_one, Int.cast_ofNat_Int, bne_self_eq_false, beq_self_eq_true, Int.reduceBEq, Int.reduceBNe, Bool.not_true, Bool.not_false, r0, r1, r13, r14, List.length_map]
      refine ⟨.of (by kernel_rfl), ?_⟩
      refine .at i (by simpa using hlt) (by rw [List.getElem_map]; rfl) ?_
      simp -implicitDefEqProofs only [go_sem, ↓reduceIte, Nat.reduceLT, Nat.reduceEqDiff, Nat.reduceAdd, Nat.reduceLeDiff, Nat.reduceMul, Nat.reduceSub, Int.natCast_zero, Int.ofNat_zero, Int.natCast_one, Int.cast_ofNat_Int, bne_self_eq_false, beq_self_eq_true, Int.reduceBEq, Int.reduceBNe, Bool.not_true, Bool.not_false, r0, r1, r13, r14, List.getElem_map, anyA]
      refine .at i (by simpa using hlt2) (by rw [List.getElem_map]; rfl) ?_
      cases d2 : ((a[i].length : Int) != (b[i].length : Int))
      case true =>
        have e2 : a[i].length ≠ b[i].length := by
          intro e; rw [e] at d2; simp at d2
        simp -implicitDefEqProofs only [go_sem, ↓reduceIte, Nat.reduceLT, Nat.reduceEqDiff, Nat.reduceAdd, Nat.reduceLeDiff, Nat.reduceMul, Nat.reduceSub, Int.natCast_zero, Int.ofNat_zero, Int.natCast_one, Int.cast_ofNat_Int, bne_self_eq_false, beq_self_eq_true, Int.reduceBEq, Int.reduceBNe, Bool.not_true, Bool.not_false, r0, r1, r13, r14, List.getElem_map, anyA, List.length_map, d2]
        exact .mk _ (.refl _) hs ⟨by rw [eqT, eqL_at i hlt hlt2 (eqL_len e2)]; rfl, rfl⟩
      have e2 : a[i].length = b[i].length := by have : (a[i].length : Int) = b[i].length := by simpa using d2
                                                omega
      simp -implicitDefEqProofs only [go_sem, ↓reduceIte, Nat.reduceLT, Nat.reduceEqDiff, Nat.reduceAdd, Nat.reduceLeDiff, Nat.reduceMul, Nat.reduceSub, Int.natCast_zero, Int.ofNat_zero, Int.natCast_one, Int.cast_ofNat_Int, bne_self_eq_false, beq_self_eq_true, Int.reduceBEq, Int.reduceBNe, Bool.not_true, Bool.not_false, r0, r1, r13, r14, List.getElem_map, anyA, List.length_map, d2]
      refine .at i (by simpa using hlt) (by rw [List.getElem_map]; rfl) ?_
      simp -implicitDefEqProofs only [go_sem, ↓reduceIte, Nat.reduceLT, Nat.reduceEqDiff, Nat.reduceAdd, Nat.reduceLeDiff, Nat.reduceMul, Nat.reduceSub, Int.natCast_zero, Int.ofNat_zero, Int.natCast_one, Int.cast_ofNat_Int, bne_self_eq_false, beq_self_eq_true, Int.reduceBEq, Int.reduceBNe, Bool.not_true, Bool.not_false, r0, r1, r13, r14, List.getElem_map, anyA, List.length_map]
      refine LoopC.wf fun hwi => ?_
      have hwk := hwi 31 (.sl (a[i].map allA) .no) (by simp -implicitDefEqProofs only [go_sem, ↓reduceIte, Nat.reduceLT, Nat.reduceEqDiff, Nat.reduceAdd, Nat.reduceLeDiff, Nat.reduceMul, Nat.reduceSub, Int.natCast_zero, Int.ofNat_zero, Int.natCast_one, Int.cast_ofNat_Int, bne_self_eq_false, beq_self_eq_true, Int.reduceBEq, Int.reduceBNe, Bool.not_true, Bool.not_false])
      simp only [wfA, wf1, lim, List.length_map] at hwk
      refine .intro (fun m ρ h' => Ab.Sub h h' ∧ ∃ k : Nat, k ≤ a[i].length ∧ m = a[i].length - k ∧ (∀ j (h1 : j < a[i].length) (h2 : j < b[i].length), j < k → eqL eqMatch a[i][j] b[i][j] = true) ∧ lk ρ 5 = some (.v (.int .i64 i)) ∧ lk ρ 0 = some (.sl (a.map anyA) .no) ∧ lk ρ 1 = some (.sl (b.map anyA) .no) ∧ lk ρ 13 = some (.v (.int .i64 a.length)) ∧ lk ρ 14 = some (.v (.int .i64 i)) ∧ lk ρ 32 = some (.v (.int .i64 a[i].length)) ∧ lk ρ 33 = some (.v (.int .i64 k))) a[i].length ?_ ?_
      · refine ⟨hs, 0, by omega, rfl, fun j _ _ hj => (by omega), ?_, ?_, ?_, ?_, ?_, ?_, ?_⟩ <;> simp -implicitDefEqProofs only [go_sem, ↓reduceIte, Nat.reduceLT, Nat.reduceEqDiff, Nat.reduceAdd, Nat.reduceLeDiff, Nat.reduceMul, Nat.reduceSub, Int.natCast_zero, Int.ofNat_zero, Int.natCast_one, Int.cast_ofNat_Int, bne_self_eq_false, beq_self_eq_true, Int.reduceBEq, Int.reduceBNe, Bool.not_true, Bool.not_false, r0, r1, r13, r14]
      · rintro m ρ h' ⟨hs, k, hk, rfl, hck, r5, r0, r1, r13, r14, r32, r33⟩
        simp -implicitDefEqProofs only [go_sem, ↓reduceIte, Nat.reduceLT, Nat.reduceEqDiff, Nat.reduceAdd, Nat.reduceLeDiff, Nat.reduceMul, Nat.reduceSub, Int.natCast_zero, Int.ofNat_zero, Int.natCast_one, Int.cast_ofNat_Int, bne_self_eq_false, beq_self_eq_true, Int.reduceBEq, Int.reduceBNe, Bool.not_true, Bool.not_false, r0, r1, r5, r13, r14, r32, r33]
        refine .intro (fun e3 => ?_) (fun e3 => ?_)
        · have hkt : k < a[i].length := Int.ofNat_lt.1 (of_decide_eq_true e3)
          have hkt2 : k < b[i].length := by omega
          simp -implicitDefEqProofs only [go_sem, ↓reduceIte, Nat.reduceLT, Nat.reduceEqDiff, Nat.reduceAdd, Nat.reduceLeDiff, Nat.reduceMul, Nat.reduceSub, Int.natCast_zero, Int.ofNat_zero, Int.natCast_one, Int.cast_ofNat_Int, bne_self_eq_false, beq_self_eq_true, Int.reduceBEq, Int.reduceBNe, Bool.not_true, Bool.not_false, r0, r1, r5, r13, r14, r32, r33]
          refine .quiet (by kernel_rfl) ?_
          simp -implicitDefEqProofs only [go_sem, ↓reduceIte, Nat.reduceLT, Nat.reduceEqDiff, Nat.reduceAdd, Nat.reduceLeDiff, Nat.reduceMul, Nat.reduceSub, Int.natCast_zero, Int.ofNat_zero, Int.natCast_one, Int.cast_ofNat_Int, bne_self_eq_false, beq_self_eq_true, Int.reduceBEq, Int.reduceBNe, Bool.not_true, Bool.not_false, r0, r1, r5, r13, r14, r32, r33]
          refine .at i (by simpa using hlt) (by rw [List.getElem_map]; rfl) ?_
          simp -implicitDefEqProofs only [go_sem, ↓reduceIte, Nat.reduceLT, Nat.reduceEqDiff, Nat.reduceAdd, Nat.reduceLeDiff, Nat.reduceMul, Nat.reduceSub, Int.natCast_zero, Int.ofNat_zero, Int.natCast_one, Int.cast_ofNat_Int, bne_self_eq_false, beq_self_eq_true, Int.reduceBEq, Int.reduceBNe, Bool.not_true, Bool.not_false, r0, r1, r5, r13, r14, r32, r33, List.getElem_map, anyA]
          have w2 : IntKind.i64.wrap ((k : Int) + 1) = ((k + 1 : Nat) : Int) := by rw [wr64 _ (by omega)]; omega
          refine .at k (by simpa using hkt) (by rw [List.getElem_map]; rfl) ?_
          simp -implicitDefEqProofs only [go_sem, ↓reduceIte, Nat.reduceLT, Nat.reduceEqDiff, Nat.reduceAdd, Nat.reduceLeDiff, Nat.reduceMul, Nat.reduceSub, Int.natCast_zero, Int.ofNat_zero, Int.natCast_one, Int.cast_ofNat_Int, bne_self_eq_false, beq_self_eq_true, Int.reduceBEq, Int.reduceBNe, Bool.not_true, Bool.not_false, r0, r1, r5, r13, r14, r32, r33, List.getElem_map, allA]
          refine .at i (by simpa using hlt2) (by rw [List.getElem_map]; rfl) ?_
          simp -implicitDefEqProofs only [go_sem, ↓reduceIte, Nat.reduceLT, Nat.reduceEqDiff, Nat.reduceAdd, Nat.reduceLeDiff, Nat.reduceMul, Nat.reduceSub, Int.natCast_zero, Int.ofNat_zero, Int.natCast_one, Int.cast_ofNat_Int, bne_self_eq_false, beq_self_eq_true, Int.reduceBEq, Int.reduceBNe, Bool.not_true, Bool.not_false, r0, r1, r5, r13, r14, r32, r33, List.getElem_map, anyA]
          refine .at k (by simpa using hkt2) (by rw [List.getElem_map]; rfl) ?_
          simp -implicitDefEqProofs only [go_sem, ↓reduceIte, Nat.reduceLT, Nat.reduceEqDiff, Nat.reduceAdd, Nat.reduceLeDiff, Nat.reduceMul, Nat.reduceSub, Int.natCast_zero, Int.ofNat_zero, Int.natCast_one, Int.cast_ofNat_Int, bne_self_eq_false, beq_self_eq_true, Int.reduceBEq, Int.reduceBNe, Bool.not_true, Bool.not_false, r0, r1, r5, r13, r14, r32, r33, List.getElem_map, allA]
          have hsm := fun h => sameMatch_ok a[i][k] b[i][k] h
          simp only [allA] at hsm
          refine ⟨_, hsm _, ?_⟩
          cases d3 : eqL eqMatch a[i][k] b[i][k]
          · simp -implicitDefEqProofs only [go_sem, ↓reduceIte, Nat.reduceLT, Nat.reduceEqDiff, Nat.reduceAdd, Nat.reduceLeDiff, Nat.reduceMul, Nat.reduceSub, Int.natCast_zero, Int.ofNat_zero, Int.natCast_one, Int.cast_ofNat_Int, bne_self_eq_false, beq_self_eq_true, Int.reduceBEq, Int.reduceBNe, Bool.not_true, Bool.not_false, r0, r1, r5, r13, r14, r32, r33, d3]
            exact .mk _ (.refl _) hs ⟨by rw [eqT, eqL_at i hlt hlt2 (eqL_at k hkt hkt2 d3)]; rfl, rfl⟩
          · simp -implicitDefEqProofs only [go_sem, ↓reduceIte, Nat.reduceLT, Nat.reduceEqDiff, Nat.reduceAdd, Nat.reduceLeDiff, Nat.reduceMul, Nat.reduceSub, Int.natCast_zero, Int.ofNat_zero, Int.natCast_one, Int.cast_ofNat_Int, bne_self_eq_false, beq_self_eq_true, Int.reduceBEq, Int.reduceBNe, Bool.not_true, Bool.not_false, r0, r1, r5, r13, r14, r32, r33, d3, w2]
            refine ⟨_, ?_, hs, k + 1, by omega, rfl, fun j h1 h2 hj => ?_, ?_, ?_, ?_, ?_, ?_, ?_, ?_⟩
            · omega
            · by_cases hji : j = k
              · subst hji; exact d3
              · exact hck j h1 h2 (by omega)
            all_goals simp -implicitDefEqProofs only [go_sem, ↓reduceIte, Nat.reduceLT, Nat.reduceEqDiff, Nat.reduceAdd, Nat.reduceLeDiff, Nat.reduceMul, Nat.reduceSub, Int.natCast_zero, Int.ofNat_zero, Int.natCast_one, Int.cast_ofNat_Int, bne_self_eq_false, beq_self_eq_true, Int.reduceBEq, Int.reduceBNe, Bool.not_true, Bool.not_false, r0, r1, r5, r13, r14, r32, r33, w2]
        · have hge : k = a[i].length := by have := of_decide_eq_false e3; omega
          subst hge
          simp -implicitDefEqProofs only [go_sem, ↓reduceIte, Nat.reduceLT, Nat.reduceEqDiff, Nat.reduceAdd, Nat.reduceLeDiff, Nat.reduceMul, Nat.reduceSub, Int.natCast_zero, Int.ofNat_zero, Int.natCast_one, Int.cast_ofNat_Int, bne_self_eq_false, beq_self_eq_true, Int.reduceBEq, Int.reduceBNe, Bool.not_true, Bool.not_false, r0, r1, r5, r13, r14, r32, r33, w1]
          refine ⟨_, ?_, hs, i + 1, by omega, rfl, fun j h1 h2 hj => ?_, ?_, ?_, ?_, ?_⟩
          · omega
          · by_cases hji : j = i
            · subst hji; exact eqL_true e2 fun j h1 h2 => hck j h1 h2 h1
            · exact hc j h1 h2 (by omega)
          all_goals simp -implicitDefEqProofs only [go_sem, ↓reduceIte, Nat.reduceLT, Nat.reduceEqDiff, Nat.reduceAdd, Nat.reduceLeDiff, Nat.reduceMul, Nat.reduceSub, Int.natCast_zero, Int.ofNat_zero, Int.natCast_one, Int.cast_ofNat_Int, bne_self_eq_false, beq_self_eq_true, Int.reduceBEq, Int.reduceBNe, Bool.not_true, Bool.not_false, r0, r1, r13, r14, w1]
    · have hge : i = a.length := by have := of_decide_eq_false e; omega
      subst hge
      simp -implicitDefEqProofs only [go_sem, ↓reduceIte, Nat.reduceLT, Nat.reduceEqDiff, Nat.reduceAdd, Nat.reduceLeDiff, Nat.reduceMul, Nat.reduceSub, Int.natCast_zero, Int.ofNat_zero, Int.natCast_one, Int.cast_ofNat_Int, bne_self_eq_false, beq_self_eq_true, Int.reduceBEq, Int.reduceBNe, Bool.not_true, Bool.not_false, r0, r1, r13, r14]
      exact .mk _ (.refl _) hs ⟨by rw [eqT, eqL_true e1 fun j h1 h2 => hc j h1 h2 h1]; rfl, rfl⟩
end Go.Proofs.YtdcchpbncckhlaaDoor

/- Policies: the same? -/
set_option linter.unusedSimpArgs false
set_option linter.unusedVariables false
namespace Go.Proofs.YtdcchpbncckhlaaDoor
open Go Go.Ab Go.Bf

set_option maxRecDepth 100000 in
theorem policies_ok : ∀ (p q : PolD) (h : Heap), FnOK Tryd.prog 23 [polA p, polA q] h fun r h' => r = .v (.bool (eqP p q)) ∧ h' = h
  | .mk i1 s1 a1 t1 r1 k1 o1, .mk i2 s2 a2 t2 r2 k2 o2, h => by
    have ihk : ∀ (j : Nat) (hj : j < k1.length) (q : PolD) (h : Heap), FnOK Tryd.prog 23 [polA k1[j], polA q] h fun r h' => r = .v (.bool (eqP k1[j] q)) ∧ h' = h :=
      fun j hj q h => policies_ok k1[j] q h
    refine FnOK.body hU hm Tryd.func23 rfl (by kernel_rfl) 134 rfl [.tmp 4] rfl (Nat.le_of_ble_eq_true rfl) (fun hwf => ?_)
    have hlen : k1.length < 9223372036854775808 ∧ r1.length < 9223372036854775808 := by
      have := hwf (polA (.mk i1 s1 a1 t1 r1 k1 o1)) (by simp)
      simp only [polA, wfA] at this
      have g1 := this (.sl (kidsA k1) .no) (by simp)
      have g2 := this (.sl (r1.map ruleA) .no) (by simp)
      simp only [wf1, List.length_map, kidsA_eq] at g1 g2
      exact ⟨g1, g2⟩
    simp -implicitDefEqProofs only [go_sem, ↓reduceIte, Nat.reduceLT, Nat.reduceEqDiff, Nat.reduceAdd, Nat.reduceLeDiff, Nat.reduceMul, Nat.reduceSub, Int.natCast_zero, Int.ofNat_zero, Int.natCast_one, Int.cast_ofNat_Int, bne_self_eq_false, beq_self_eq_true, Int.reduceBEq, Int.reduceBNe, Bool.not_true, Bool.not_false, polA, tgtA, oblsA]
    intro ia hia
    simp -implicitDefEqProofs only [go_sem, ↓reduceIte, Nat.reduceLT, Nat.reduceEqDiff, Nat.reduceAdd, Nat.reduceLeDiff, Nat.reduceMul, Nat.reduceSub, Int.natCast_zero, Int.ofNat_zero, Int.natCast_one, Int.cast_ofNat_Int, bne_self_eq_false, beq_self_eq_true, Int.reduceBEq, Int.reduceBNe, Bool.not_true, Bool.not_false]
    intro ib hib
    have nab := ne_new hib
    have hs0 : Ab.Sub h (upd (upd h ia (some (.obj [.s i1, .v (.bool s1), .v (.int .i64 a1), .sl (t1.map anyA) .no, .sl (r1.map ruleA) .no, .sl (kidsA k1) .no, .sl (o1.map oblA) .no] 43))) ib (some (.obj [.s i2, .v (.bool s2), .v (.int .i64 a2), .sl (t2.map anyA) .no, .sl (r2.map ruleA) .no, .sl (kidsA k2) .no, .sl (o2.map oblA) .no] 43))) := (Sub.upd_new hia).trans (.upd_new hib)
    obtain ⟨hb, ehb⟩ : ∃ hb, upd (upd h ia (some (.obj [.s i1, .v (.bool s1), .v (.int .i64 a1), .sl (t1.map anyA) .no, .sl (r1.map ruleA) .no, .sl (kidsA k1) .no, .sl (o1.map oblA) .no] 43))) ib (some (.obj [.s i2, .v (.bool s2), .v (.int .i64 a2), .sl (t2.map anyA) .no, .sl (r2.map ruleA) .no, .sl (kidsA k2) .no, .sl (o2.map oblA) .no] 43)) = hb := ⟨_, rfl⟩
    have ga : hb ia = some (.obj [.s i1, .v (.bool s1), .v (.int .i64 a1), .sl (t1.map anyA) .no, .sl (r1.map ruleA) .no, .sl (kidsA k1) .no, .sl (o1.map oblA) .no] 43) := by rw [← ehb, upd_other _ _ nab.symm, upd_same]
    have gb : hb ib = some (.obj [.s i2, .v (.bool s2), .v (.int .i64 a2), .sl (t2.map anyA) .no, .sl (r2.map ruleA) .no, .sl (kidsA k2) .no, .sl (o2.map oblA) .no] 43) := by rw [← ehb, upd_same]
    rw [ehb] at hs0 ⊢
    have bad : eqP (.mk i1 s1 a1 t1 r1 k1 o1) (.mk i2 s2 a2 t2 r2 k2 o2) = false → (.v (.bool false) : AV) = .v (.bool (eqP (.mk i1 s1 a1 t1 r1 k1 o1) (.mk i2 s2 a2 t2 r2 k2 o2))) ∧ h = h := fun e => ⟨by rw [e], rfl⟩
    cases d1 : (i1 == i2)
    case false =>
      simp -implicitDefEqProofs only [go_sem, ↓reduceIte, Nat.reduceLT, Nat.reduceEqDiff, Nat.reduceAdd, Nat.reduceLeDiff, Nat.reduceMul, Nat.reduceSub, Int.natCast_zero, Int.ofNat_zero, Int.natCast_one, Int.cast_ofNat_Int, bne_self_eq_false, beq_self_eq_true, Int.reduceBEq, Int.reduceBNe, Bool.not_true, Bool.not_false, ga, gb, d1]
      exact .mk _ (.refl _) hs0 (bad (by simp [eqP, d1]))
    cases d2 : (s1 == s2)
    case false =>
      simp -implicitDefEqProofs only [go_sem, ↓reduceIte, Nat.reduceLT, Nat.reduceEqDiff, Nat.reduceAdd, Nat.reduceLeDiff, Nat.reduceMul, Nat.reduceSub, Int.natCast_zero, Int.ofNat_zero, Int.natCast_one, Int.cast_ofNat_Int, bne_self_eq_false, beq_self_eq_true, Int.reduceBEq, Int.reduceBNe, Bool.not_true, Bool.not_false, ga, gb, d1, d2]
      exact .mk _ (.refl _) hs0 (bad (by simp only [eqP, d2, Bool.false_and, Bool.and_false]))
    cases d3 : (a1 == a2)
    case false =>
      have d3' : (a1 != a2) = true := by simp only [bne, d3, Bool.not_false]
      simp -implicitDefEqProofs only [go_sem, ↓reduceIte, Nat.reduceLT, Nat.reduceEqDiff, Nat.reduceAdd, Nat.reduceLeDiff, Nat.reduceMul, Nat.reduceSub, Int.natCast_zero, Int.ofNat_zero, Int.natCast_one, Int.cast_ofNat_Int, bne_self_eq_false, beq_self_eq_true, Int.reduceBEq, Int.reduceBNe, Bool.not_true, Bool.not_false, ga, gb, d1, d2, d3']
      exact .mk _ (.refl _) hs0 (bad (by simp only [eqP, d3, Bool.false_and, Bool.and_false]))
    have d3' : (a1 != a2) = false := by simp only [bne, d3, Bool.not_true]
    have f1 := targets_ok t1 t2 hb
    have f2 := sameObl_ok o1 o2 hb
    simp only [tgtA] at f1
    simp only [oblsA] at f2
    simp -implicitDefEqProofs only [go_sem, ↓reduceIte, Nat.reduceLT, Nat.reduceEqDiff, Nat.reduceAdd, Nat.reduceLeDiff, Nat.reduceMul, Nat.reduceSub, Int.natCast_zero, Int.ofNat_zero, Int.natCast_one, Int.cast_ofNat_Int, bne_self_eq_false, beq_self_eq_true, Int.reduceBEq, Int.reduceBNe, Bool.not_true, Bool.not_false, ga, gb, d1, d2, d3']
    refine f1.pthen ?_
    cases d4 : eqT t1 t2
    case false =>
      simp -implicitDefEqProofs only [go_sem, ↓reduceIte, Nat.reduceLT, Nat.reduceEqDiff, Nat.reduceAdd, Nat.reduceLeDiff, Nat.reduceMul, Nat.reduceSub, Int.natCast_zero, Int.ofNat_zero, Int.natCast_one, Int.cast_ofNat_Int, bne_self_eq_false, beq_self_eq_true, Int.reduceBEq, Int.reduceBNe, Bool.not_true, Bool.not_false, ga, gb, d4]
      exact .mk _ (.refl _) hs0 (bad (by simp only [eqP, d4, Bool.false_and, Bool.and_false]))
    simp -implicitDefEqProofs only [go_sem, ↓reduceIte, Nat.reduceLT, Nat.reduceEqDiff, Nat.reduceAdd, Nat.reduceLeDiff, Nat.reduceMul, Nat.reduceSub, Int.natCast_zero, Int.ofNat_zero, Int.natCast_one, Int.cast_ofNat_Int, bne_self_eq_false, beq_self_eq_true, Int.reduceBEq, Int.reduceBNe, Bool.not_true, Bool.not_false, ga, gb, d4]
    refine f2.pthen ?_
    cases d5 : eqL eqObl o1 o2
    case false =>
      simp -implicitDefEqProofs only [go_sem, ↓reduceIte, Nat.reduceLT, Nat.reduceEqDiff, Nat.reduceAdd, Nat.reduceLeDiff, Nat.reduceMul, Nat.reduceSub, Int.natCast_zero, Int.ofNat_zero, Int.natCast_one, Int.cast_ofNat_Int, bne_self_eq_false, beq_self_eq_true, Int.reduceBEq, Int.reduceBNe, Bool.not_true, Bool.not_false, ga, gb, d5]
      exact .mk _ (.refl _) hs0 (bad (by simp only [eqP, d5, Bool.false_and, Bool.and_false]))
    cases d6 : ((r1.length : Int) != (r2.length : Int))
    case true =>
      have e6 : r1.length ≠ r2.length := by intro e; rw [e] at d6; simp at d6
      simp -implicitDefEqProofs only [go_sem, ↓reduceIte, Nat.reduceLT, Nat.reduceEqDiff, Nat.reduceAdd, Nat.reduceLeDiff, Nat.reduceMul, Nat.reduceSub, Int.natCast_zero, Int.ofNat_zero, Int.natCast_one, Int.cast_ofNat_Int, bne_self_eq_false, beq_self_eq_true, Int.reduceBEq, Int.reduceBNe, Bool.not_true, Bool.not_false, ga, gb, d5, List.length_map, d6]
      exact .mk _ (.refl _) hs0 (bad (by simp only [eqP, eqL_len e6, Bool.false_and, Bool.and_false]))
    have e6 : r1.length = r2.length := by have : (r1.length : Int) = r2.length := by simpa using d6
                                          omega
    cases d7 : ((k1.length : Int) != (k2.length : Int))
    case true =>
      have e7 : k1.length ≠ k2.length := by intro e; rw [e] at d7; simp at d7
      simp -implicitDefEqProofs only [go_sem, ↓reduceIte, Nat.reduceLT, Nat.reduceEqDiff, Nat.reduceAdd, Nat.reduceLeDiff, Nat.reduceMul, Nat.reduceSub, Int.natCast_zero, Int.ofNat_zero, Int.natCast_one, Int.cast_ofNat_Int, bne_self_eq_false, beq_self_eq_true, Int.reduceBEq, Int.reduceBNe, Bool.not_true, Bool.not_false, ga, gb, d5, List.length_map, d6, kidsA_eq, d7]
      exact .mk _ (.refl _) hs0 (bad (by simp only [eqP, eqK_eqL, eqL_len e7, Bool.false_and, Bool.and_false]))
    have e7 : k1.length = k2.length := by have : (k1.length : Int) = k2.length := by simpa using d7
                                          omega
    simp -implicitDefEqProofs only [go_sem, ↓reduceIte, Nat.reduceLT, Nat.reduceEqDiff, Nat.reduceAdd, Nat.reduceLeDiff, Nat.reduceMul, Nat.reduceSub, Int.natCast_zero, Int.ofNat_zero, Int.natCast_one, Int.cast_ofNat_Int, bne_self_eq_false, beq_self_eq_true, Int.reduceBEq, Int.reduceBNe, Bool.not_true, Bool.not_false, ga, gb, d5, List.length_map, d6, kidsA_eq, d7]
    refine .intro (fun m ρ h' => Ab.Sub hb h' ∧ ∃ i : Nat, i ≤ r1.length ∧ m = r1.length - i ∧ (∀ j (h1 : j < r1.length) (h2 : j < r2.length), j < i → eqR r1[j] r2[j] = true) ∧ lk ρ 2 = some (.ptr ia 0) ∧ lk ρ 3 = some (.ptr ib 0) ∧ lk ρ 64 = some (.v (.int .i64 r1.length)) ∧ lk ρ 65 = some (.v (.int .i64 i))) r1.length ?_ ?_
    · refine ⟨.refl _, 0, by omega, rfl, fun j _ _ hj => (by omega), ?_, ?_, ?_, ?_⟩ <;> simp -implicitDefEqProofs only [go_sem, ↓reduceIte, Nat.reduceLT, Nat.reduceEqDiff, Nat.reduceAdd, Nat.reduceLeDiff, Nat.reduceMul, Nat.reduceSub, Int.natCast_zero, Int.ofNat_zero, Int.natCast_one, Int.cast_ofNat_Int, bne_self_eq_false, beq_self_eq_true, Int.reduceBEq, Int.reduceBNe, Bool.not_true, Bool.not_false]
    · rintro m ρ h' ⟨hs, i, hi, rfl, hc, q2, q3, q64, q65⟩
      have ga1 := hs _ _ ga
      have gb1 := hs _ _ gb
      simp -implicitDefEqProofs only [go_sem, ↓reduceIte, Nat.reduceLT, Nat.reduceEqDiff, Nat.reduceAdd, Nat.reduceLeDiff, Nat.reduceMul, Nat.reduceSub, Int.natCast_zero, Int.ofNat_zero, Int.natCast_one, Int.cast_ofNat_Int, bne_self_eq_false, beq_self_eq_true, Int.reduceBEq, Int.reduceBNe, Bool.not_true, Bool.not_false, q2, q3, q64, q65]
      refine .intro (fun e => ?_) (fun e => ?_)
      · have hlt : i < r1.length := Int.ofNat_lt.1 (of_decide_eq_true e)
        have hlt2 : i < r2.length := by omega
        have w1 : IntKind.i64.wrap ((i : Int) + 1) = ((i + 1 : Nat) : Int) := by rw [wr64 _ (by omega)]; omega
        simp -implicitDefEqProofs only [go_sem, ↓reduceIte, Nat.reduceLT, Nat.reduceEqDiff, Nat.reduceAdd, Nat.reduceLeDiff, Nat.reduceMul, Nat.reduceSub, Int.natCast_zero, Int.ofNat_zero, Int.natCast_one, Int.cast_ofNat_Int, bne_self_eq_false, beq_self_eq_true, Int.reduceBEq, Int.reduceBNe, Bool.not_true, Bool.not_false, q2, q3, q64, q65, ga1, gb1]
        refine .fork (hm2 ia (.obj [.s i1, .v (.bool s1), .v (.int .i64 a1), .sl (t1.map anyA) .no, .sl (r1.map ruleA) .no, .sl (kidsA k1) .no, .sl (o1.map oblA) .no] 43) ib (.obj [.s i2, .v (.bool s2), .v (.int .i64 a2), .sl (t2.map anyA) .no, .sl (r2.map ruleA) .no, .sl (kidsA k2) .no, .sl (o2.map oblA) .no] 43)) (.fork [0, 1, 2, 3, 4, 5, 6, 7, 8, 9] 10 (.seq [11, 12, 13]) 11 (.seq [10, 12, 13])) (fun ρ' h2 => Ab.Sub h' h2 ∧ ∃ j6 j7, h2 j6 = some (.obj [.s r1[i].id, .v (.bool r1[i].deny), .sl (r1[i].tgt.map anyA) .no, .sl (r1[i].cond.map nodeA) .no, .sl (r1[i].obls.map oblA) .no] 37) ∧ h2 j7 = some (.obj [.s r2[i].id, .v (.bool r2[i].deny), .sl (r2[i].tgt.map anyA) .no, .sl (r2[i].cond.map nodeA) .no, .sl (r2[i].obls.map oblA) .no] 37) ∧ lk ρ' 6 = some (.ptr j6 0) ∧ lk ρ' 7 = some (.ptr j7 0) ∧ lk ρ' 2 = some (.ptr ia 0) ∧ lk ρ' 3 = some (.ptr ib 0) ∧ lk ρ' 64 = some (.v (.int .i64 r1.length)) ∧ lk ρ' 65 = some (.v (.int .i64 i))) ?_ (by kernel_rfl) rfl (by simp -implicitDefEqProofs only [go_sem, ↓reduceIte, Nat.reduceLT, Nat.reduceEqDiff, Nat.reduceAdd, Nat.reduceLeDiff, Nat.reduceMul, Nat.reduceSub, Int.natCast_zero, Int.ofNat_zero, Int.natCast_one, Int.cast_ofNat_Int, bne_self_eq_false, beq_self_eq_true, Int.reduceBEq, Int.reduceBNe, Bool.not_true, Bool.not_false]) ?_ ?_
        · exact .hm2 ga1 gb1
        · have m1 := hm2_fst (i := ia) (.obj [.s i1, .v (.bool s1), .v (.int .i64 a1), .sl (t1.map anyA) .no, .sl (r1.map ruleA) .no, .sl (kidsA k1) .no, .sl (o1.map oblA) .no] 43) (j := ib) (.obj [.s i2, .v (.bool s2), .v (.int .i64 a2), .sl (t2.map anyA) .no, .sl (r2.map ruleA) .no, .sl (kidsA k2) .no, .sl (o2.map oblA) .no] 43) nab.symm
          have m2 := hm2_snd ia (.obj [.s i1, .v (.bool s1), .v (.int .i64 a1), .sl (t1.map anyA) .no, .sl (r1.map ruleA) .no, .sl (kidsA k1) .no, .sl (o1.map oblA) .no] 43) ib (.obj [.s i2, .v (.bool s2), .v (.int .i64 a2), .sl (t2.map anyA) .no, .sl (r2.map ruleA) .no, .sl (kidsA k2) .no, .sl (o2.map oblA) .no] 43)
          simp -implicitDefEqProofs only [go_sem, ↓reduceIte, Nat.reduceLT, Nat.reduceEqDiff, Nat.reduceAdd, Nat.reduceLeDiff, Nat.reduceMul, Nat.reduceSub, Int.natCast_zero, Int.ofNat_zero, Int.natCast_one, Int.cast_ofNat_Int, bne_self_eq_false, beq_self_eq_true, Int.reduceBEq, Int.reduceBNe, Bool.not_true, Bool.not_false, vcDrT, q2, q3, q64, q65, m1, m2]
          refine .at i (by simpa using hlt) (by rw [List.getElem_map]; rfl) ?_
          simp -implicitDefEqProofs only [go_sem, ↓reduceIte, Nat.reduceLT, Nat.reduceEqDiff, Nat.reduceAdd, Nat.reduceLeDiff, Nat.reduceMul, Nat.reduceSub, Int.natCast_zero, Int.ofNat_zero, Int.natCast_one, Int.cast_ofNat_Int, bne_self_eq_false, beq_self_eq_true, Int.reduceBEq, Int.reduceBNe, Bool.not_true, Bool.not_false, vcDrT, q2, q3, q64, q65, m1, m2, List.getElem_map, ruleA]
          refine .at i (by simpa using hlt2) (by rw [List.getElem_map]; rfl) ?_
          simp -implicitDefEqProofs only [go_sem, ↓reduceIte, Nat.reduceLT, Nat.reduceEqDiff, Nat.reduceAdd, Nat.reduceLeDiff, Nat.reduceMul, Nat.reduceSub, Int.natCast_zero, Int.ofNat_zero, Int.natCast_one, Int.cast_ofNat_Int, bne_self_eq_false, beq_self_eq_true, Int.reduceBEq, Int.reduceBNe, Bool.not_true, Bool.not_false, vcDrT, q2, q3, q64, q65, m1, m2, List.getElem_map, ruleA]
          refine ⟨?_, ?_⟩
          · intro j6 h6
            have n6a : j6 ≠ ia := fun e => by rw [e, ga1] at h6; cases h6
            have n6b : j6 ≠ ib := fun e => by rw [e, gb1] at h6; cases h6
            have z6 := hm2_none (.obj [.s i1, .v (.bool s1), .v (.int .i64 a1), .sl (t1.map anyA) .no, .sl (r1.map ruleA) .no, .sl (kidsA k1) .no, .sl (o1.map oblA) .no] 43) (.obj [.s i2, .v (.bool s2), .v (.int .i64 a2), .sl (t2.map anyA) .no, .sl (r2.map ruleA) .no, .sl (kidsA k2) .no, .sl (o2.map oblA) .no] 43) n6a n6b
            refine ⟨(Sub.hm2 ga1 gb1).put z6 _, ?_⟩
            simp -implicitDefEqProofs only [go_sem, ↓reduceIte, Nat.reduceLT, Nat.reduceEqDiff, Nat.reduceAdd, Nat.reduceLeDiff, Nat.reduceMul, Nat.reduceSub, Int.natCast_zero, Int.ofNat_zero, Int.natCast_one, Int.cast_ofNat_Int, bne_self_eq_false, beq_self_eq_true, Int.reduceBEq, Int.reduceBNe, Bool.not_true, Bool.not_false]
            intro j7 h7
            have n67 : j6 ≠ j7 := (ne_new h7).symm
            have h72 := h7
            rw [upd_other _ _ n67.symm] at h72
            have n7a : j7 ≠ ia := fun e => by rw [e, ga1] at h72; cases h72
            have n7b : j7 ≠ ib := fun e => by rw [e, gb1] at h72; cases h72
            have z7 := hm2_none (.obj [.s i1, .v (.bool s1), .v (.int .i64 a1), .sl (t1.map anyA) .no, .sl (r1.map ruleA) .no, .sl (kidsA k1) .no, .sl (o1.map oblA) .no] 43) (.obj [.s i2, .v (.bool s2), .v (.int .i64 a2), .sl (t2.map anyA) .no, .sl (r2.map ruleA) .no, .sl (kidsA k2) .no, .sl (o2.map oblA) .no] 43) n7a n7b
            refine ⟨((Sub.hm2 ga1 gb1).put z6 _).put z7 _, ?_⟩
            simp -implicitDefEqProofs only [go_sem, ↓reduceIte, Nat.reduceLT, Nat.reduceEqDiff, Nat.reduceAdd, Nat.reduceLeDiff, Nat.reduceMul, Nat.reduceSub, Int.natCast_zero, Int.ofNat_zero, Int.natCast_one, Int.cast_ofNat_Int, bne_self_eq_false, beq_self_eq_true, Int.reduceBEq, Int.reduceBNe, Bool.not_true, Bool.not_false, upd_other _ _ n67, upd_other _ _ n67.symm, upd_same]
            refine ⟨(by repeat (first | exact .hm2 ga1 gb1 | exact .refl _ | refine Sub.put ?_ (by assumption) _)), (by repeat (first | exact .hm2 ga1 gb1 | exact .refl _ | refine Sub.put ?_ (by assumption) _)), ?_⟩
            refine ⟨(by repeat (first | exact .hm2 ga1 gb1 | exact .refl _ | refine Sub.put ?_ (by assumption) _)), j6, j7, ?_, upd_same .., ?_, ?_, ?_, ?_, ?_, ?_⟩
            · rw [upd_other _ _ (by first | exact n67 | exact n67.symm), upd_same]; rfl
            all_goals simp -implicitDefEqProofs only [go_sem, ↓reduceIte, Nat.reduceLT, Nat.reduceEqDiff, Nat.reduceAdd, Nat.reduceLeDiff, Nat.reduceMul, Nat.reduceSub, Int.natCast_zero, Int.ofNat_zero, Int.natCast_one, Int.cast_ofNat_Int, bne_self_eq_false, beq_self_eq_true, Int.reduceBEq, Int.reduceBNe, Bool.not_true, Bool.not_false, q2, q3, q64, q65]
          · intro j7 h7
            have n7a : j7 ≠ ia := fun e => by rw [e, ga1] at h7; cases h7
            have n7b : j7 ≠ ib := fun e => by rw [e, gb1] at h7; cases h7
            have z7 := hm2_none (.obj [.s i1, .v (.bool s1), .v (.int .i64 a1), .sl (t1.map anyA) .no, .sl (r1.map ruleA) .no, .sl (kidsA k1) .no, .sl (o1.map oblA) .no] 43) (.obj [.s i2, .v (.bool s2), .v (.int .i64 a2), .sl (t2.map anyA) .no, .sl (r2.map ruleA) .no, .sl (kidsA k2) .no, .sl (o2.map oblA) .no] 43) n7a n7b
            refine ⟨(Sub.hm2 ga1 gb1).put z7 _, ?_⟩
            simp -implicitDefEqProofs only [go_sem, ↓reduceIte, Nat.reduceLT, Nat.reduceEqDiff, Nat.reduceAdd, Nat.reduceLeDiff, Nat.reduceMul, Nat.reduceSub, Int.natCast_zero, Int.ofNat_zero, Int.natCast_one, Int.cast_ofNat_Int, bne_self_eq_false, beq_self_eq_true, Int.reduceBEq, Int.reduceBNe, Bool.not_true, Bool.not_false]
            intro j6 h6
            have n76 : j7 ≠ j6 := (ne_new h6).symm
            have h62 := h6
            rw [upd_other _ _ n76.symm] at h62
            have n6a : j6 ≠ ia := fun e => by rw [e, ga1] at h62; cases h62
            have n6b : j6 ≠ ib := fun e => by rw [e, gb1] at h62; cases h62
            have z6 := hm2_none (.obj [.s i1, .v (.bool s1), .v (.int .i64 a1), .sl (t1.map anyA) .no, .sl (r1.map ruleA) .no, .sl (kidsA k1) .no, .sl (o1.map oblA) .no] 43) (.obj [.s i2, .v (.bool s2), .v (.int .i64 a2), .sl (t2.map anyA) .no, .sl (r2.map ruleA) .no, .sl (kidsA k2) .no, .sl (o2.map oblA) .no] 43) n6a n6b
            refine ⟨((Sub.hm2 ga1 gb1).put z7 _).put z6 _, ?_⟩
            simp -implicitDefEqProofs only [go_sem, ↓reduceIte, Nat.reduceLT, Nat.reduceEqDiff, Nat.reduceAdd, Nat.reduceLeDiff, Nat.reduceMul, Nat.reduceSub, Int.natCast_zero, Int.ofNat_zero, Int.natCast_one, Int.cast_ofNat_Int, bne_self_eq_false, beq_self_eq_true, Int.reduceBEq, Int.reduceBNe, Bool.not_true, Bool.not_false, upd_other _ _ n76, upd_other _ _ n76.symm, upd_same]
            refine ⟨(by repeat (first | exact .hm2 ga1 gb1 | exact .refl _ | refine Sub.put ?_ (by assumption) _)), (by repeat (first | exact .hm2 ga1 gb1 | exact .refl _ | refine Sub.put ?_ (by assumption) _)), ?_⟩
            refine ⟨(by repeat (first | exact .hm2 ga1 gb1 | exact .refl _ | refine Sub.put ?_ (by assumption) _)), j6, j7, ?_, upd_same .., ?_, ?_, ?_, ?_, ?_, ?_⟩
            · rw [upd_other _ _ (by first | exact n76 | exact n76.symm), upd_same]; rfl
            all_goals simp -implicitDefEqProofs only [go_sem, ↓reduceIte, Nat.reduceLT, Nat.reduceEqDiff, Nat.reduceAdd, Nat.reduceLeDiff, Nat.reduceMul, Nat.reduceSub, Int.natCast_zero, Int.ofNat_zero, Int.natCast_one, Int.cast_ofNat_Int, bne_self_eq_false, beq_self_eq_true, Int.reduceBEq, Int.reduceBNe, Bool.not_true, Bool.not_false, q2, q3, q64, q65]
        · rintro ρ' h2 ⟨hs2, j6, j7, g6, g7, p6, p7, p2, p3, p64, p65⟩
          have hs3 := hs.trans hs2
          have f1 := targets_ok r1[i].tgt r2[i].tgt h2
          have f2 := sameNode_ok r1[i].cond r2[i].cond h2
          have f3 := sameObl_ok r1[i].obls r2[i].obls h2
          have bad2 : eqR r1[i] r2[i] = false → (.v (.bool false) : AV) = .v (.bool (eqP (.mk i1 s1 a1 t1 r1 k1 o1) (.mk i2 s2 a2 t2 r2 k2 o2))) ∧ h = h := fun e => bad (by
            simp only [eqP, eqL_at i hlt hlt2 e, Bool.false_and, Bool.and_false])
          cases c1 : (r1[i].id == r2[i].id)
          case false =>
            simp -implicitDefEqProofs only [go_sem, ↓reduceIte, Nat.reduceLT, Nat.reduceEqDiff, Nat.reduceAdd, Nat.reduceLeDiff, Nat.reduceMul, Nat.reduceSub, Int.natCast_zero, Int.ofNat_zero, Int.natCast_one, Int.cast_ofNat_Int, bne_self_eq_false, beq_self_eq_true, Int.reduceBEq, Int.reduceBNe, Bool.not_true, Bool.not_false, p2, p3, p6, p7, p64, p65, g6, g7, c1]
            exact .mk _ (.refl _) (hs0.trans hs3) (bad2 (by simp only [eqR, c1, Bool.false_and, Bool.and_false]))
          cases c2 : (r1[i].deny == r2[i].deny)
          case false =>
            simp -implicitDefEqProofs only [go_sem, ↓reduceIte, Nat.reduceLT, Nat.reduceEqDiff, Nat.reduceAdd, Nat.reduceLeDiff, Nat.reduceMul, Nat.reduceSub, Int.natCast_zero, Int.ofNat_zero, Int.natCast_one, Int.cast_ofNat_Int, bne_self_eq_false, beq_self_eq_true, Int.reduceBEq, Int.reduceBNe, Bool.not_true, Bool.not_false, p2, p3, p6, p7, p64, p65, g6, g7, c1, c2]
            exact .mk _ (.refl _) (hs0.trans hs3) (bad2 (by simp only [eqR, c2, Bool.false_and, Bool.and_false]))
          simp -implicitDefEqProofs only [go_sem, ↓reduceIte, Nat.reduceLT, Nat.reduceEqDiff, Nat.reduceAdd, Nat.reduceLeDiff, Nat.reduceMul, Nat.reduceSub, Int.natCast_zero, Int.ofNat_zero, Int.natCast_one, Int.cast_ofNat_Int, bne_self_eq_false, beq_self_eq_true, Int.reduceBEq, Int.reduceBNe, Bool.not_true, Bool.not_false, p2, p3, p6, p7, p64, p65, g6, g7, c1, c2]
          refine f1.pthen ?_
          cases c3 : eqT r1[i].tgt r2[i].tgt
          case false =>
            simp -implicitDefEqProofs only [go_sem, ↓reduceIte, Nat.reduceLT, Nat.reduceEqDiff, Nat.reduceAdd, Nat.reduceLeDiff, Nat.reduceMul, Nat.reduceSub, Int.natCast_zero, Int.ofNat_zero, Int.natCast_one, Int.cast_ofNat_Int, bne_self_eq_false, beq_self_eq_true, Int.reduceBEq, Int.reduceBNe, Bool.not_true, Bool.not_false, p2, p3, p6, p7, p64, p65, g6, g7, c3]
            exact .mk _ (.refl _) (hs0.trans hs3) (bad2 (by simp only [eqR, c3, Bool.false_and, Bool.and_false]))
          simp -implicitDefEqProofs only [go_sem, ↓reduceIte, Nat.reduceLT, Nat.reduceEqDiff, Nat.reduceAdd, Nat.reduceLeDiff, Nat.reduceMul, Nat.reduceSub, Int.natCast_zero, Int.ofNat_zero, Int.natCast_one, Int.cast_ofNat_Int, bne_self_eq_false, beq_self_eq_true, Int.reduceBEq, Int.reduceBNe, Bool.not_true, Bool.not_false, p2, p3, p6, p7, p64, p65, g6, g7, c3]
          refine f2.pthen ?_
          cases c4 : eqL eqNode r1[i].cond r2[i].cond
          case false =>
            simp -implicitDefEqProofs only [go_sem, ↓reduceIte, Nat.reduceLT, Nat.reduceEqDiff, Nat.reduceAdd, Nat.reduceLeDiff, Nat.reduceMul, Nat.reduceSub, Int.natCast_zero, Int.ofNat_zero, Int.natCast_one, Int.cast_ofNat_Int, bne_self_eq_false, beq_self_eq_true, Int.reduceBEq, Int.reduceBNe, Bool.not_true, Bool.not_false, p2, p3, p6, p7, p64, p65, g6, g7, c4]
            exact .mk _ (.refl _) (hs0.trans hs3) (bad2 (by simp only [eqR, c4, Bool.false_and, Bool.and_false]))
          simp -implicitDefEqProofs only [go_sem, ↓reduceIte, Nat.reduceLT, Nat.reduceEqDiff, Nat.reduceAdd, Nat.reduceLeDiff, Nat.reduceMul, Nat.reduceSub, Int.natCast_zero, Int.ofNat_zero, Int.natCast_one, Int.cast_ofNat_Int, bne_self_eq_false, beq_self_eq_true, Int.reduceBEq, Int.reduceBNe, Bool.not_true, Bool.not_false, p2, p3, p6, p7, p64, p65, g6, g7, c4]
          refine f3.pthen ?_
          cases c5 : eqL eqObl r1[i].obls r2[i].obls
          case false =>
            simp -implicitDefEqProofs only [go_sem, ↓reduceIte, Nat.reduceLT, Nat.reduceEqDiff, Nat.reduceAdd, Nat.reduceLeDiff, Nat.reduceMul, Nat.reduceSub, Int.natCast_zero, Int.ofNat_zero, Int.natCast_one, Int.cast_ofNat_Int, bne_self_eq_false, beq_self_eq_true, Int.reduceBEq, Int.reduceBNe, Bool.not_true, Bool.not_false, p2, p3, p6, p7, p64, p65, g6, g7, c5]
            exact .mk _ (.refl _) (hs0.trans hs3) (bad2 (by simp only [eqR, c5, Bool.false_and, Bool.and_false]))
          simp -implicitDefEqProofs only [go_sem, ↓reduceIte, Nat.reduceLT, Nat.reduceEqDiff, Nat.reduceAdd, Nat.reduceLeDiff, Nat.reduceMul, Nat.reduceSub, Int.natCast_zero, Int.ofNat_zero, Int.natCast_one, Int.cast_ofNat_Int, bne_self_eq_false, beq_self_eq_true, Int.reduceBEq, Int.reduceBNe, Bool.not_true, Bool.not_false, p2, p3, p6, p7, p64, p65, g6, g7, c5, w1]
          refine ⟨_, ?_, hs3, i + 1, by omega, rfl, fun j h1 h2 hj => ?_, ?_, ?_, ?_, ?_⟩
          · omega
          · by_cases hji : j = i
            · subst hji; simp only [eqR, c1, c2, c3, c4, c5, Bool.and_self]
            · exact hc j h1 h2 (by omega)
          all_goals simp -implicitDefEqProofs only [go_sem, ↓reduceIte, Nat.reduceLT, Nat.reduceEqDiff, Nat.reduceAdd, Nat.reduceLeDiff, Nat.reduceMul, Nat.reduceSub, Int.natCast_zero, Int.ofNat_zero, Int.natCast_one, Int.cast_ofNat_Int, bne_self_eq_false, beq_self_eq_true, Int.reduceBEq, Int.reduceBNe, Bool.not_true, Bool.not_false, p2, p3, p64, p65, w1]
      · have hge : i = r1.length := by have := of_decide_eq_false e; omega
        subst hge
        have hrr : eqL eqR r1 r2 = true := eqL_true e6 fun j h1 h2 => hc j h1 h2 h1
        simp -implicitDefEqProofs only [go_sem, ↓reduceIte, Nat.reduceLT, Nat.reduceEqDiff, Nat.reduceAdd, Nat.reduceLeDiff, Nat.reduceMul, Nat.reduceSub, Int.natCast_zero, Int.ofNat_zero, Int.natCast_one, Int.cast_ofNat_Int, bne_self_eq_false, beq_self_eq_true, Int.reduceBEq, Int.reduceBNe, Bool.not_true, Bool.not_false, q2, q3, q64, q65, ga1, gb1, kidsA_eq, List.length_map]
        refine .intro (fun m ρ h' => Ab.Sub hb h' ∧ ∃ i : Nat, i ≤ k1.length ∧ m = k1.length - i ∧ (∀ j (h1 : j < k1.length) (h2 : j < k2.length), j < i → eqP k1[j] k2[j] = true) ∧ lk ρ 2 = some (.ptr ia 0) ∧ lk ρ 3 = some (.ptr ib 0) ∧ lk ρ 117 = some (.v (.int .i64 k1.length)) ∧ lk ρ 118 = some (.v (.int .i64 i))) k1.length ?_ ?_
        · refine ⟨hs, 0, by omega, rfl, fun j _ _ hj => (by omega), ?_, ?_, ?_, ?_⟩ <;> simp -implicitDefEqProofs only [go_sem, ↓reduceIte, Nat.reduceLT, Nat.reduceEqDiff, Nat.reduceAdd, Nat.reduceLeDiff, Nat.reduceMul, Nat.reduceSub, Int.natCast_zero, Int.ofNat_zero, Int.natCast_one, Int.cast_ofNat_Int, bne_self_eq_false, beq_self_eq_true, Int.reduceBEq, Int.reduceBNe, Bool.not_true, Bool.not_false, q2, q3]
        · rintro m ρ h' ⟨hs, i, hi, rfl, hc, q2, q3, q117, q118⟩
          have ga1 := hs _ _ ga
          have gb1 := hs _ _ gb
          simp -implicitDefEqProofs only [go_sem, ↓reduceIte, Nat.reduceLT, Nat.reduceEqDiff, Nat.reduceAdd, Nat.reduceLeDiff, Nat.reduceMul, Nat.reduceSub, Int.natCast_zero, Int.ofNat_zero, Int.natCast_one, Int.cast_ofNat_Int, bne_self_eq_false, beq_self_eq_true, Int.reduceBEq, Int.reduceBNe, Bool.not_true, Bool.not_false, q2, q3, q117, q118]
          refine .intro (fun e => ?_) (fun e => ?_)
          · have hlt : i < k1.length := Int.ofNat_lt.1 (of_decide_eq_true e)
            have hlt2 : i < k2.length := by omega
            have w1 : IntKind.i64.wrap ((i : Int) + 1) = ((i + 1 : Nat) : Int) := by rw [wr64 _ (by omega)]; omega
            have ihi := ihk i hlt k2[i] h'
            simp -implicitDefEqProofs only [go_sem, ↓reduceIte, Nat.reduceLT, Nat.reduceEqDiff, Nat.reduceAdd, Nat.reduceLeDiff, Nat.reduceMul, Nat.reduceSub, Int.natCast_zero, Int.ofNat_zero, Int.natCast_one, Int.cast_ofNat_Int, bne_self_eq_false, beq_self_eq_true, Int.reduceBEq, Int.reduceBNe, Bool.not_true, Bool.not_false, q2, q3, q117, q118, ga1, gb1]
            refine .quiet (by kernel_rfl) ?_
            simp -implicitDefEqProofs only [go_sem, ↓reduceIte, Nat.reduceLT, Nat.reduceEqDiff, Nat.reduceAdd, Nat.reduceLeDiff, Nat.reduceMul, Nat.reduceSub, Int.natCast_zero, Int.ofNat_zero, Int.natCast_one, Int.cast_ofNat_Int, bne_self_eq_false, beq_self_eq_true, Int.reduceBEq, Int.reduceBNe, Bool.not_true, Bool.not_false, q2, q3, q117, q118, ga1, gb1, kidsA_eq]
            cases ek1 : k1[i] with
            | mk x1 x2 x3 x4 x5 x6 x7 =>
            cases ek2 : k2[i] with
            | mk y1 y2 y3 y4 y5 y6 y7 =>
            have ihi2 := ihi
            rw [ek1, ek2] at ihi
            simp only [polA, tgtA, oblsA] at ihi
            refine .at i (by simpa using hlt) (by rw [List.getElem_map]; exact polA_len _) ?_
            simp -implicitDefEqProofs only [go_sem, ↓reduceIte, Nat.reduceLT, Nat.reduceEqDiff, Nat.reduceAdd, Nat.reduceLeDiff, Nat.reduceMul, Nat.reduceSub, Int.natCast_zero, Int.ofNat_zero, Int.natCast_one, Int.cast_ofNat_Int, bne_self_eq_false, beq_self_eq_true, Int.reduceBEq, Int.reduceBNe, Bool.not_true, Bool.not_false, q2, q3, q117, q118, ga1, gb1, List.getElem_map, ek1, polA, tgtA, oblsA, kidsA_eq]
            refine .at i (by simpa using hlt2) (by rw [List.getElem_map]; exact polA_len _) ?_
            simp -implicitDefEqProofs only [go_sem, ↓reduceIte, Nat.reduceLT, Nat.reduceEqDiff, Nat.reduceAdd, Nat.reduceLeDiff, Nat.reduceMul, Nat.reduceSub, Int.natCast_zero, Int.ofNat_zero, Int.natCast_one, Int.cast_ofNat_Int, bne_self_eq_false, beq_self_eq_true, Int.reduceBEq, Int.reduceBNe, Bool.not_true, Bool.not_false, q2, q3, q117, q118, ga1, gb1, List.getElem_map, ek2, polA, tgtA, oblsA, kidsA_eq]
            simp only [kidsA_eq] at ihi
            refine ⟨_, ihi, ?_⟩
            rw [← ek1, ← ek2]
            cases c6 : eqP k1[i] k2[i]
            · simp -implicitDefEqProofs only [go_sem, ↓reduceIte, Nat.reduceLT, Nat.reduceEqDiff, Nat.reduceAdd, Nat.reduceLeDiff, Nat.reduceMul, Nat.reduceSub, Int.natCast_zero, Int.ofNat_zero, Int.natCast_one, Int.cast_ofNat_Int, bne_self_eq_false, beq_self_eq_true, Int.reduceBEq, Int.reduceBNe, Bool.not_true, Bool.not_false, q2, q3, q117, q118]
              exact .mk _ (.refl _) (hs0.trans hs) (bad (by simp only [eqP, eqK_eqL, eqL_at i hlt hlt2 c6, Bool.and_false]))
            · simp -implicitDefEqProofs only [go_sem, ↓reduceIte, Nat.reduceLT, Nat.reduceEqDiff, Nat.reduceAdd, Nat.reduceLeDiff, Nat.reduceMul, Nat.reduceSub, Int.natCast_zero, Int.ofNat_zero, Int.natCast_one, Int.cast_ofNat_Int, bne_self_eq_false, beq_self_eq_true, Int.reduceBEq, Int.reduceBNe, Bool.not_true, Bool.not_false, q2, q3, q117, q118, w1]
              refine ⟨_, ?_, hs, i + 1, by omega, rfl, fun j h1 h2 hj => ?_, ?_, ?_, ?_, ?_⟩
              · omega
              · by_cases hji : j = i
                · subst hji; exact c6
                · exact hc j h1 h2 (by omega)
              all_goals simp -implicitDefEqProofs only [go_sem, ↓reduceIte, Nat.reduceLT, Nat.reduceEqDiff, Nat.reduceAdd, Nat.reduceLeDiff, Nat.reduceMul, Nat.reduceSub, Int.natCast_zero, Int.ofNat_zero, Int.natCast_one, Int.cast_ofNat_Int, bne_self_eq_false, beq_self_eq_true, Int.reduceBEq, Int.reduceBNe, Bool.not_true, Bool.not_false, q2, q3, q117, q118, w1]
          · have hge : i = k1.length := by have := of_decide_eq_false e; omega
            subst hge
            have hkk : eqL eqP k1 k2 = true := eqL_true e7 fun j h1 h2 => hc j h1 h2 h1
            simp -implicitDefEqProofs only [go_sem, ↓reduceIte, Nat.reduceLT, Nat.reduceEqDiff, Nat.reduceAdd, Nat.reduceLeDiff, Nat.reduceMul, Nat.reduceSub, Int.natCast_zero, Int.ofNat_zero, Int.natCast_one, Int.cast_ofNat_Int, bne_self_eq_false, beq_self_eq_true, Int.reduceBEq, Int.reduceBNe, Bool.not_true, Bool.not_false, q2, q3, q117, q118]
            exact .mk _ (.refl _) (hs0.trans hs) ⟨by simp only [eqP, d1, d2, d3, d4, d5, hrr, eqK_eqL, hkk, Bool.and_self]; rfl, rfl⟩

termination_by p => SizeOf.sizeOf p
decreasing_by
  have := List.sizeOf_lt_of_mem (List.getElem_mem hj)
  simp only [PolD.mk.sizeOf_spec]
  omega
end Go.Proofs.YtdcchpbncckhlaaDoor

/- Chapter 9's runs. -/
set_option linter.unusedSimpArgs false
set_option linter.unusedVariables false
namespace Go.Proofs.YtdcchpbncckhlaaDoor
open Go Go.Ab Go.Bf

def pr1 : Txt := [112, 111, 108, 105, 99, 121, 32, 112, 32, 100, 101, 110, 121, 111, 118, 101, 114, 32, 123, 32, 112, 101, 114, 109, 105, 116, 32, 114, 32, 105, 102, 32, 40, 101, 113, 32, 40, 111, 110, 101, 32, 99, 97, 115, 101, 46, 111, 119, 110, 101, 114, 41, 32, 35, 97, 110, 110, 41, 59, 32, 125]
def pr2 : Txt := [112, 111, 108, 105, 99, 121, 32, 112, 32, 100, 101, 110, 121, 111, 118, 101, 114, 32, 123, 32, 112, 101, 114, 109, 105, 116, 32, 114, 32, 125]
def pr3 : Txt := [112, 111, 108, 105, 99, 121, 32, 112, 32, 111, 110, 108, 121, 32, 123, 32, 125]
def pr4 : Txt := [112, 111, 108, 105, 99, 121, 32, 112, 32, 102, 105, 114, 115, 116, 32, 123, 32, 112, 101, 114, 109, 105, 116, 32, 114, 32, 105, 102, 32, 99, 97, 115, 101, 46, 120, 59, 32, 125]
def prNodes : List NodeD := [⟨2, ⟨0, 0, []⟩, ⟨3, [111, 119, 110, 101, 114], false⟩⟩, ⟨3, ⟨0, 0, []⟩, ⟨0, [], false⟩⟩, ⟨1, ⟨5, 0, [97, 110, 110]⟩, ⟨0, [], false⟩⟩, ⟨6, ⟨0, 0, []⟩, ⟨0, [], false⟩⟩]
def prPol : PolD := .mk [112] false 1 [] [⟨[114], false, [], prNodes, []⟩] [] []
set_option maxRecDepth 100000 in
theorem pr1_is : parseD pr1 = (prPol, 0, 0) := by kernel_rfl
set_option maxRecDepth 100000 in
theorem pr2_is : parseD pr2 = (zeroP, 5, 29) := by kernel_rfl
set_option maxRecDepth 100000 in
theorem pr3_is : parseD pr3 = (zeroP, 5, 17) := by kernel_rfl
set_option maxRecDepth 100000 in
theorem pr4_is : parseD pr4 = (zeroP, 5, 29) := by kernel_rfl
theorem prPol_eq : eqP prPol prPol = true := by kernel_rfl

theorem new2 {h : Heap} {i j : Nat} {b : Blk} (e : upd h i (some b) j = none) : j ≠ i ∧ h j = none :=
  ⟨ne_upd e, by rw [upd_other _ _ (ne_upd e)] at e; exact e⟩
theorem parseRuns_ok (h : Heap) (he : ErrT h) : FnOK Tryd.prog 6 [] h fun r h' => r = .v (.bool true) ∧ h' = h := by
  have hp := fun s hh hs => parse_ok s hh (he.sub hs)
  have p1 := hp pr1
  have p2 := hp pr2
  have p3 := hp pr3
  have p4 := hp pr4
  rw [pr1_is] at p1
  rw [pr2_is] at p2
  rw [pr3_is] at p3
  rw [pr4_is] at p4
  refine FnOK.body hU hm Tryd.func6 rfl (by kernel_rfl) 77 rfl [.tmp 0] rfl (Nat.le_of_ble_eq_true rfl) (fun hwf => ?_)
  simp -implicitDefEqProofs only [go_sem, ↓reduceIte, Nat.reduceLT, Nat.reduceEqDiff, Nat.reduceAdd, Nat.reduceLeDiff, Nat.reduceMul, Nat.reduceSub, Int.natCast_zero, Int.ofNat_zero, Int.natCast_one, Int.cast_ofNat_Int, bne_self_eq_false, beq_self_eq_true, Int.reduceBEq, Int.reduceBNe, Bool.not_true, Bool.not_false]
  refine (p1 _ (.refl _)).pthen ?_
  simp -implicitDefEqProofs only [go_sem, ↓reduceIte, Nat.reduceLT, Nat.reduceEqDiff, Nat.reduceAdd, Nat.reduceLeDiff, Nat.reduceMul, Nat.reduceSub, Int.natCast_zero, Int.ofNat_zero, Int.natCast_one, Int.cast_ofNat_Int, bne_self_eq_false, beq_self_eq_true, Int.reduceBEq, Int.reduceBNe, Bool.not_true, Bool.not_false, parsedA, polA, prPol]
  intro i1 h1
  simp -implicitDefEqProofs only [go_sem, ↓reduceIte, Nat.reduceLT, Nat.reduceEqDiff, Nat.reduceAdd, Nat.reduceLeDiff, Nat.reduceMul, Nat.reduceSub, Int.natCast_zero, Int.ofNat_zero, Int.natCast_one, Int.cast_ofNat_Int, bne_self_eq_false, beq_self_eq_true, Int.reduceBEq, Int.reduceBNe, Bool.not_true, Bool.not_false]
  intro i5 h5
  simp -implicitDefEqProofs only [go_sem, ↓reduceIte, Nat.reduceLT, Nat.reduceEqDiff, Nat.reduceAdd, Nat.reduceLeDiff, Nat.reduceMul, Nat.reduceSub, Int.natCast_zero, Int.ofNat_zero, Int.natCast_one, Int.cast_ofNat_Int, bne_self_eq_false, beq_self_eq_true, Int.reduceBEq, Int.reduceBNe, Bool.not_true, Bool.not_false]
  refine (p2 _ ((Sub.upd_new h1).trans (.upd_new h5))).pthen ?_
  simp -implicitDefEqProofs only [go_sem, ↓reduceIte, Nat.reduceLT, Nat.reduceEqDiff, Nat.reduceAdd, Nat.reduceLeDiff, Nat.reduceMul, Nat.reduceSub, Int.natCast_zero, Int.ofNat_zero, Int.natCast_one, Int.cast_ofNat_Int, bne_self_eq_false, beq_self_eq_true, Int.reduceBEq, Int.reduceBNe, Bool.not_true, Bool.not_false, parsedA, polA, zeroP]
  intro i6 h6
  simp -implicitDefEqProofs only [go_sem, ↓reduceIte, Nat.reduceLT, Nat.reduceEqDiff, Nat.reduceAdd, Nat.reduceLeDiff, Nat.reduceMul, Nat.reduceSub, Int.natCast_zero, Int.ofNat_zero, Int.natCast_one, Int.cast_ofNat_Int, bne_self_eq_false, beq_self_eq_true, Int.reduceBEq, Int.reduceBNe, Bool.not_true, Bool.not_false]
  refine (p3 _ (((Sub.upd_new h1).trans (.upd_new h5)).trans (.upd_new h6))).pthen ?_
  simp -implicitDefEqProofs only [go_sem, ↓reduceIte, Nat.reduceLT, Nat.reduceEqDiff, Nat.reduceAdd, Nat.reduceLeDiff, Nat.reduceMul, Nat.reduceSub, Int.natCast_zero, Int.ofNat_zero, Int.natCast_one, Int.cast_ofNat_Int, bne_self_eq_false, beq_self_eq_true, Int.reduceBEq, Int.reduceBNe, Bool.not_true, Bool.not_false, parsedA, polA, zeroP]
  intro i9 h9
  simp -implicitDefEqProofs only [go_sem, ↓reduceIte, Nat.reduceLT, Nat.reduceEqDiff, Nat.reduceAdd, Nat.reduceLeDiff, Nat.reduceMul, Nat.reduceSub, Int.natCast_zero, Int.ofNat_zero, Int.natCast_one, Int.cast_ofNat_Int, bne_self_eq_false, beq_self_eq_true, Int.reduceBEq, Int.reduceBNe, Bool.not_true, Bool.not_false]
  refine (p4 _ ((((Sub.upd_new h1).trans (.upd_new h5)).trans (.upd_new h6)).trans (.upd_new h9))).pthen ?_
  simp -implicitDefEqProofs only [go_sem, ↓reduceIte, Nat.reduceLT, Nat.reduceEqDiff, Nat.reduceAdd, Nat.reduceLeDiff, Nat.reduceMul, Nat.reduceSub, Int.natCast_zero, Int.ofNat_zero, Int.natCast_one, Int.cast_ofNat_Int, bne_self_eq_false, beq_self_eq_true, Int.reduceBEq, Int.reduceBNe, Bool.not_true, Bool.not_false, parsedA, polA, zeroP]
  intro i12 h12
  obtain ⟨n1, g1⟩ := new2 h12
  obtain ⟨n2, g2⟩ := new2 g1
  obtain ⟨n3, g3⟩ := new2 g2
  obtain ⟨n4, g4⟩ := new2 g3
  obtain ⟨n5, g5⟩ := new2 h9
  obtain ⟨n6, g6⟩ := new2 g5
  obtain ⟨n7, g7⟩ := new2 g6
  obtain ⟨n8, g8⟩ := new2 h6
  obtain ⟨n9, g9⟩ := new2 g8
  obtain ⟨n10, g10⟩ := new2 h5
  simp -implicitDefEqProofs only [go_sem, ↓reduceIte, Nat.reduceLT, Nat.reduceEqDiff, Nat.reduceAdd, Nat.reduceLeDiff, Nat.reduceMul, Nat.reduceSub, Int.natCast_zero, Int.ofNat_zero, Int.natCast_one, Int.cast_ofNat_Int, bne_self_eq_false, beq_self_eq_true, Int.reduceBEq, Int.reduceBNe, Bool.not_true, Bool.not_false, upd_ne, n1, n2, n3, n4, n5, n6, n7, n8, n9, n10, n1.symm, n2.symm, n3.symm, n4.symm, n5.symm, n6.symm, n7.symm, n8.symm, n9.symm, n10.symm]
  refine FnOK.strip ?_
  have e : ∀ (a : List AV) (k : Heap), a = [polA prPol, polA prPol] → FnOK Tryd.prog 23 [polA prPol, polA prPol] k = FnOK Tryd.prog 23 a k := fun a k e => by rw [e]
  rw [← e _ _ (by simp [strip, stripL, polA, prPol, prNodes, kidsA, ruleA, tgtA, anyA, allA, matchA, condA, nodeA, oblsA, oblA])]
  refine (policies_ok prPol prPol _).pthen ?_
  simp -implicitDefEqProofs only [go_sem, ↓reduceIte, Nat.reduceLT, Nat.reduceEqDiff, Nat.reduceAdd, Nat.reduceLeDiff, Nat.reduceMul, Nat.reduceSub, Int.natCast_zero, Int.ofNat_zero, Int.natCast_one, Int.cast_ofNat_Int, bne_self_eq_false, beq_self_eq_true, Int.reduceBEq, Int.reduceBNe, Bool.not_true, Bool.not_false, prPol_eq]
  exact .mk _ (.refl _) (((((Sub.upd_new h1).trans (.upd_new h5)).trans (.upd_new h6)).trans (.upd_new h9)).trans (.upd_new h12)) ⟨rfl, rfl⟩

/-- What a statement's start memory holds. -/
def startH (ev : Value) : Heap := tabH [(1, pow10V), (3, [ev])]
theorem start_err {ev : Value} (hev : ev = .nilIface ∨ ∃ te pe, ev = .iface te pe) : ErrT (startH ev) := ⟨ev, hev, 1, rfl⟩
theorem parseRuns_law (ev : Value) (hev : ev = .nilIface ∨ ∃ te pe, ev = .iface te pe) : FnOK Tryd.prog 6 [] (tabH [(1, pow10V), (3, [ev])]) fun r _ => r = .v (.bool true) := (parseRuns_ok _ (start_err hev)).mono fun _ _ h => h.1
end Go.Proofs.YtdcchpbncckhlaaDoor

/- ParseRight. -/
set_option linter.unusedSimpArgs false
set_option linter.unusedVariables false
namespace Go.Proofs.YtdcchpbncckhlaaDoor
open Go Go.Ab Go.Bf

theorem polA_zero : stripL [polA zeroP] = [polA zeroP] := rfl
theorem eq_zero : eqP zeroP zeroP = true := by kernel_rfl
theorem same_zero (a : List AV) (h : Heap) (ha : stripL a = [polA zeroP, polA zeroP]) : FnOK Tryd.prog 23 a h fun r h' => r = .v (.bool true) ∧ h' = h := by
  refine FnOK.strip ?_
  rw [ha]
  have := policies_ok zeroP zeroP h
  rwa [eq_zero] at this

theorem parseRight_ok (x : AV) (d : Dat U 9 x) (h : Heap) (he : ErrT h) : FnOK Tryd.prog 7 [x] h fun r h' => r = .v (.bool true) ∧ h' = h := by
  obtain ⟨s0, rfl, hs0⟩ := d.str_inv (by simp only [go_sem])
  refine FnOK.body hU hm Tryd.func7 rfl (by kernel_rfl) 53 rfl [.tmp 2] rfl (Nat.le_of_ble_eq_true rfl) (fun hwf => ?_)
  simp -implicitDefEqProofs only [go_sem, ↓reduceIte, Nat.reduceLT, Nat.reduceEqDiff, Nat.reduceAdd, Nat.reduceLeDiff, Nat.reduceMul, Nat.reduceSub, Int.natCast_zero, Int.ofNat_zero, Int.natCast_one, Int.cast_ofNat_Int, bne_self_eq_false, beq_self_eq_true, Int.reduceBEq, Int.reduceBNe, Bool.not_true, Bool.not_false]
  cases d1 : decide ((1500 : Int) < (s0.length : Int))
  · simp -implicitDefEqProofs only [go_sem, ↓reduceIte, Nat.reduceLT, Nat.reduceEqDiff, Nat.reduceAdd, Nat.reduceLeDiff, Nat.reduceMul, Nat.reduceSub, Int.natCast_zero, Int.ofNat_zero, Int.natCast_one, Int.cast_ofNat_Int, bne_self_eq_false, beq_self_eq_true, Int.reduceBEq, Int.reduceBNe, Bool.not_true, Bool.not_false, d1]
    refine (parse_ok s0 _ he).pthen ?_
    rcases parseD_fine s0 with ⟨f1, f2, f3⟩ | ⟨f1, f2, f3, f4⟩
    · generalize parseD s0 = r at f1 f2 f3 ⊢
      obtain ⟨⟨pid, pset, palg, ptgt, prules, pkids, pobls⟩, e, a⟩ := r
      simp only at f1 f2 f3
      subst f1
      subst f2
      simp -implicitDefEqProofs only [go_sem, ↓reduceIte, Nat.reduceLT, Nat.reduceEqDiff, Nat.reduceAdd, Nat.reduceLeDiff, Nat.reduceMul, Nat.reduceSub, Int.natCast_zero, Int.ofNat_zero, Int.natCast_one, Int.cast_ofNat_Int, bne_self_eq_false, beq_self_eq_true, Int.reduceBEq, Int.reduceBNe, Bool.not_true, Bool.not_false, parsedA, polA]
      intro i3 h3
      simp -implicitDefEqProofs only [go_sem, ↓reduceIte, Nat.reduceLT, Nat.reduceEqDiff, Nat.reduceAdd, Nat.reduceLeDiff, Nat.reduceMul, Nat.reduceSub, Int.natCast_zero, Int.ofNat_zero, Int.natCast_one, Int.cast_ofNat_Int, bne_self_eq_false, beq_self_eq_true, Int.reduceBEq, Int.reduceBNe, Bool.not_true, Bool.not_false]
      refine (right_ok (.mk pid pset palg ptgt prules pkids pobls) _).pthen ?_
      rw [f3]
      simp -implicitDefEqProofs only [go_sem, ↓reduceIte, Nat.reduceLT, Nat.reduceEqDiff, Nat.reduceAdd, Nat.reduceLeDiff, Nat.reduceMul, Nat.reduceSub, Int.natCast_zero, Int.ofNat_zero, Int.natCast_one, Int.cast_ofNat_Int, bne_self_eq_false, beq_self_eq_true, Int.reduceBEq, Int.reduceBNe, Bool.not_true, Bool.not_false]
      refine (parseRuns_ok _ (he.sub (.upd_new h3))).pthen ?_
      simp -implicitDefEqProofs only [go_sem, ↓reduceIte, Nat.reduceLT, Nat.reduceEqDiff, Nat.reduceAdd, Nat.reduceLeDiff, Nat.reduceMul, Nat.reduceSub, Int.natCast_zero, Int.ofNat_zero, Int.natCast_one, Int.cast_ofNat_Int, bne_self_eq_false, beq_self_eq_true, Int.reduceBEq, Int.reduceBNe, Bool.not_true, Bool.not_false]
      exact .mk _ (.refl _) (.upd_new h3) ⟨rfl, rfl⟩
    · generalize parseD s0 = r at f1 f2 f3 f4 ⊢
      obtain ⟨p, e, a⟩ := r
      simp only at f1 f2 f3 f4
      subst f4
      have dA : decide (0 ≤ a) = true := decide_eq_true f2
      have dB : decide (a ≤ ((s0).length : Int)) = true := decide_eq_true f3
      rcases f1 with rfl | rfl
      · simp -implicitDefEqProofs only [go_sem, ↓reduceIte, Nat.reduceLT, Nat.reduceEqDiff, Nat.reduceAdd, Nat.reduceLeDiff, Nat.reduceMul, Nat.reduceSub, Int.natCast_zero, Int.ofNat_zero, Int.natCast_one, Int.cast_ofNat_Int, bne_self_eq_false, beq_self_eq_true, Int.reduceBEq, Int.reduceBNe, Bool.not_true, Bool.not_false, parsedA, polA, zeroP]
        intro i3 h3
        simp -implicitDefEqProofs only [go_sem, ↓reduceIte, Nat.reduceLT, Nat.reduceEqDiff, Nat.reduceAdd, Nat.reduceLeDiff, Nat.reduceMul, Nat.reduceSub, Int.natCast_zero, Int.ofNat_zero, Int.natCast_one, Int.cast_ofNat_Int, bne_self_eq_false, beq_self_eq_true, Int.reduceBEq, Int.reduceBNe, Bool.not_true, Bool.not_false, dA, dB]
        refine (same_zero _ _ rfl).pthen ?_
        simp -implicitDefEqProofs only [go_sem, ↓reduceIte, Nat.reduceLT, Nat.reduceEqDiff, Nat.reduceAdd, Nat.reduceLeDiff, Nat.reduceMul, Nat.reduceSub, Int.natCast_zero, Int.ofNat_zero, Int.natCast_one, Int.cast_ofNat_Int, bne_self_eq_false, beq_self_eq_true, Int.reduceBEq, Int.reduceBNe, Bool.not_true, Bool.not_false]
        refine (parseRuns_ok _ (he.sub (.upd_new h3))).pthen ?_
        simp -implicitDefEqProofs only [go_sem, ↓reduceIte, Nat.reduceLT, Nat.reduceEqDiff, Nat.reduceAdd, Nat.reduceLeDiff, Nat.reduceMul, Nat.reduceSub, Int.natCast_zero, Int.ofNat_zero, Int.natCast_one, Int.cast_ofNat_Int, bne_self_eq_false, beq_self_eq_true, Int.reduceBEq, Int.reduceBNe, Bool.not_true, Bool.not_false]
        exact .mk _ (.refl _) (.upd_new h3) ⟨rfl, rfl⟩
      · simp -implicitDefEqProofs only [go_sem, ↓reduceIte, Nat.reduceLT, Nat.reduceEqDiff, Nat.reduceAdd, Nat.reduceLeDiff, Nat.reduceMul, Nat.reduceSub, Int.natCast_zero, Int.ofNat_zero, Int.natCast_one, Int.cast_ofNat_Int, bne_self_eq_false, beq_self_eq_true, Int.reduceBEq, Int.reduceBNe, Bool.not_true, Bool.not_false, parsedA, polA, zeroP]
        intro i3 h3
        simp -implicitDefEqProofs only [go_sem, ↓reduceIte, Nat.reduceLT, Nat.reduceEqDiff, Nat.reduceAdd, Nat.reduceLeDiff, Nat.reduceMul, Nat.reduceSub, Int.natCast_zero, Int.ofNat_zero, Int.natCast_one, Int.cast_ofNat_Int, bne_self_eq_false, beq_self_eq_true, Int.reduceBEq, Int.reduceBNe, Bool.not_true, Bool.not_false, dA, dB]
        refine (same_zero _ _ rfl).pthen ?_
        simp -implicitDefEqProofs only [go_sem, ↓reduceIte, Nat.reduceLT, Nat.reduceEqDiff, Nat.reduceAdd, Nat.reduceLeDiff, Nat.reduceMul, Nat.reduceSub, Int.natCast_zero, Int.ofNat_zero, Int.natCast_one, Int.cast_ofNat_Int, bne_self_eq_false, beq_self_eq_true, Int.reduceBEq, Int.reduceBNe, Bool.not_true, Bool.not_false]
        refine (parseRuns_ok _ (he.sub (.upd_new h3))).pthen ?_
        simp -implicitDefEqProofs only [go_sem, ↓reduceIte, Nat.reduceLT, Nat.reduceEqDiff, Nat.reduceAdd, Nat.reduceLeDiff, Nat.reduceMul, Nat.reduceSub, Int.natCast_zero, Int.ofNat_zero, Int.natCast_one, Int.cast_ofNat_Int, bne_self_eq_false, beq_self_eq_true, Int.reduceBEq, Int.reduceBNe, Bool.not_true, Bool.not_false]
        exact .mk _ (.refl _) (.upd_new h3) ⟨rfl, rfl⟩
  · have hl := of_decide_eq_true d1
    simp -implicitDefEqProofs only [go_sem, ↓reduceIte, Nat.reduceLT, Nat.reduceEqDiff, Nat.reduceAdd, Nat.reduceLeDiff, Nat.reduceMul, Nat.reduceSub, Int.natCast_zero, Int.ofNat_zero, Int.natCast_one, Int.cast_ofNat_Int, bne_self_eq_false, beq_self_eq_true, Int.reduceBEq, Int.reduceBNe, Bool.not_true, Bool.not_false, d1]
    refine ⟨by omega, by omega, by omega, ?_⟩
    generalize cutL s0 0 1500 none.isSome (some (Operand.const (Value.int IntKind.i64 1500))).isSome = s1
    refine (parse_ok s1 _ he).pthen ?_
    rcases parseD_fine s1 with ⟨f1, f2, f3⟩ | ⟨f1, f2, f3, f4⟩
    · generalize parseD s1 = r at f1 f2 f3 ⊢
      obtain ⟨⟨pid, pset, palg, ptgt, prules, pkids, pobls⟩, e, a⟩ := r
      simp only at f1 f2 f3
      subst f1
      subst f2
      simp -implicitDefEqProofs only [go_sem, ↓reduceIte, Nat.reduceLT, Nat.reduceEqDiff, Nat.reduceAdd, Nat.reduceLeDiff, Nat.reduceMul, Nat.reduceSub, Int.natCast_zero, Int.ofNat_zero, Int.natCast_one, Int.cast_ofNat_Int, bne_self_eq_false, beq_self_eq_true, Int.reduceBEq, Int.reduceBNe, Bool.not_true, Bool.not_false, parsedA, polA]
      intro i3 h3
      simp -implicitDefEqProofs only [go_sem, ↓reduceIte, Nat.reduceLT, Nat.reduceEqDiff, Nat.reduceAdd, Nat.reduceLeDiff, Nat.reduceMul, Nat.reduceSub, Int.natCast_zero, Int.ofNat_zero, Int.natCast_one, Int.cast_ofNat_Int, bne_self_eq_false, beq_self_eq_true, Int.reduceBEq, Int.reduceBNe, Bool.not_true, Bool.not_false]
      refine (right_ok (.mk pid pset palg ptgt prules pkids pobls) _).pthen ?_
      rw [f3]
      simp -implicitDefEqProofs only [go_sem, ↓reduceIte, Nat.reduceLT, Nat.reduceEqDiff, Nat.reduceAdd, Nat.reduceLeDiff, Nat.reduceMul, Nat.reduceSub, Int.natCast_zero, Int.ofNat_zero, Int.natCast_one, Int.cast_ofNat_Int, bne_self_eq_false, beq_self_eq_true, Int.reduceBEq, Int.reduceBNe, Bool.not_true, Bool.not_false]
      refine (parseRuns_ok _ (he.sub (.upd_new h3))).pthen ?_
      simp -implicitDefEqProofs only [go_sem, ↓reduceIte, Nat.reduceLT, Nat.reduceEqDiff, Nat.reduceAdd, Nat.reduceLeDiff, Nat.reduceMul, Nat.reduceSub, Int.natCast_zero, Int.ofNat_zero, Int.natCast_one, Int.cast_ofNat_Int, bne_self_eq_false, beq_self_eq_true, Int.reduceBEq, Int.reduceBNe, Bool.not_true, Bool.not_false]
      exact .mk _ (.refl _) (.upd_new h3) ⟨rfl, rfl⟩
    · generalize parseD s1 = r at f1 f2 f3 f4 ⊢
      obtain ⟨p, e, a⟩ := r
      simp only at f1 f2 f3 f4
      subst f4
      have dA : decide (0 ≤ a) = true := decide_eq_true f2
      have dB : decide (a ≤ ((s1).length : Int)) = true := decide_eq_true f3
      rcases f1 with rfl | rfl
      · simp -implicitDefEqProofs only [go_sem, ↓reduceIte, Nat.reduceLT, Nat.reduceEqDiff, Nat.reduceAdd, Nat.reduceLeDiff, Nat.reduceMul, Nat.reduceSub, Int.natCast_zero, Int.ofNat_zero, Int.natCast_one, Int.cast_ofNat_Int, bne_self_eq_false, beq_self_eq_true, Int.reduceBEq, Int.reduceBNe, Bool.not_true, Bool.not_false, parsedA, polA, zeroP]
        intro i3 h3
        simp -implicitDefEqProofs only [go_sem, ↓reduceIte, Nat.reduceLT, Nat.reduceEqDiff, Nat.reduceAdd, Nat.reduceLeDiff, Nat.reduceMul, Nat.reduceSub, Int.natCast_zero, Int.ofNat_zero, Int.natCast_one, Int.cast_ofNat_Int, bne_self_eq_false, beq_self_eq_true, Int.reduceBEq, Int.reduceBNe, Bool.not_true, Bool.not_false, dA, dB]
        refine (same_zero _ _ rfl).pthen ?_
        simp -implicitDefEqProofs only [go_sem, ↓reduceIte, Nat.reduceLT, Nat.reduceEqDiff, Nat.reduceAdd, Nat.reduceLeDiff, Nat.reduceMul, Nat.reduceSub, Int.natCast_zero, Int.ofNat_zero, Int.natCast_one, Int.cast_ofNat_Int, bne_self_eq_false, beq_self_eq_true, Int.reduceBEq, Int.reduceBNe, Bool.not_true, Bool.not_false]
        refine (parseRuns_ok _ (he.sub (.upd_new h3))).pthen ?_
        simp -implicitDefEqProofs only [go_sem, ↓reduceIte, Nat.reduceLT, Nat.reduceEqDiff, Nat.reduceAdd, Nat.reduceLeDiff, Nat.reduceMul, Nat.reduceSub, Int.natCast_zero, Int.ofNat_zero, Int.natCast_one, Int.cast_ofNat_Int, bne_self_eq_false, beq_self_eq_true, Int.reduceBEq, Int.reduceBNe, Bool.not_true, Bool.not_false]
        exact .mk _ (.refl _) (.upd_new h3) ⟨rfl, rfl⟩
      · simp -implicitDefEqProofs only [go_sem, ↓reduceIte, Nat.reduceLT, Nat.reduceEqDiff, Nat.reduceAdd, Nat.reduceLeDiff, Nat.reduceMul, Nat.reduceSub, Int.natCast_zero, Int.ofNat_zero, Int.natCast_one, Int.cast_ofNat_Int, bne_self_eq_false, beq_self_eq_true, Int.reduceBEq, Int.reduceBNe, Bool.not_true, Bool.not_false, parsedA, polA, zeroP]
        intro i3 h3
        simp -implicitDefEqProofs only [go_sem, ↓reduceIte, Nat.reduceLT, Nat.reduceEqDiff, Nat.reduceAdd, Nat.reduceLeDiff, Nat.reduceMul, Nat.reduceSub, Int.natCast_zero, Int.ofNat_zero, Int.natCast_one, Int.cast_ofNat_Int, bne_self_eq_false, beq_self_eq_true, Int.reduceBEq, Int.reduceBNe, Bool.not_true, Bool.not_false, dA, dB]
        refine (same_zero _ _ rfl).pthen ?_
        simp -implicitDefEqProofs only [go_sem, ↓reduceIte, Nat.reduceLT, Nat.reduceEqDiff, Nat.reduceAdd, Nat.reduceLeDiff, Nat.reduceMul, Nat.reduceSub, Int.natCast_zero, Int.ofNat_zero, Int.natCast_one, Int.cast_ofNat_Int, bne_self_eq_false, beq_self_eq_true, Int.reduceBEq, Int.reduceBNe, Bool.not_true, Bool.not_false]
        refine (parseRuns_ok _ (he.sub (.upd_new h3))).pthen ?_
        simp -implicitDefEqProofs only [go_sem, ↓reduceIte, Nat.reduceLT, Nat.reduceEqDiff, Nat.reduceAdd, Nat.reduceLeDiff, Nat.reduceMul, Nat.reduceSub, Int.natCast_zero, Int.ofNat_zero, Int.natCast_one, Int.cast_ofNat_Int, bne_self_eq_false, beq_self_eq_true, Int.reduceBEq, Int.reduceBNe, Bool.not_true, Bool.not_false]
        exact .mk _ (.refl _) (.upd_new h3) ⟨rfl, rfl⟩
theorem parseRight_law (ev : Value) (hev : ev = .nilIface ∨ ∃ te pe, ev = .iface te pe) (x : AV) (d : Dat U 9 x) : FnOK Tryd.prog 7 [x] (tabH [(1, pow10V), (3, [ev])]) fun r _ => r = .v (.bool true) := (parseRight_ok x d _ (start_err hev)).mono fun _ _ h => h.1
end Go.Proofs.YtdcchpbncckhlaaDoor
