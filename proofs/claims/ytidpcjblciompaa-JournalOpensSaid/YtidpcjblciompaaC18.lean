/- Frames: what is read out of bytes; a frame that is torn is none. -/
import Derived.Test.YtidpcjblciompaaC17
set_option linter.unusedSimpArgs false
set_option linter.unusedVariables false
namespace Go.Proofs.Ytidpcjblciompaa
open Go Go.Ab

theorem and_one (s : BitVec 32) : (s &&& 1#32 = 1#32) ↔ s.getLsbD 0 = true := by
  constructor
  · intro h
    have := congrArg (fun x => x.getLsbD 0) h
    simpa using this
  · intro h
    apply BitVec.eq_of_getLsbD_eq
    intro i hi
    by_cases h0 : i = 0
    · subst h0; simpa using h
    · have e : (1#32).getLsbD i = false := by
        rw [BitVec.getLsbD_one]; simp [h0]
      rw [BitVec.getLsbD_and, e]; simp
theorem xlc (a b c : BitVec 32) : a ^^^ (b ^^^ c) = b ^^^ (a ^^^ c) := by rw [← BitVec.xor_assoc, BitVec.xor_comm a b, BitVec.xor_assoc]
theorem xss (a b : BitVec 32) : a ^^^ (b ^^^ a) = b := by rw [BitVec.xor_comm b a, ← BitVec.xor_assoc, BitVec.xor_self, BitVec.zero_xor]
theorem crcBit_xor (a b : BitVec 32) : crcBit (a ^^^ b) = crcBit a ^^^ crcBit b := by
  unfold crcBit
  simp only [and_one, BitVec.getLsbD_xor, BitVec.ushiftRight_xor_distrib]
  cases a.getLsbD 0 <;> cases b.getLsbD 0 <;> simp [BitVec.xor_assoc, BitVec.xor_comm, xlc, xss]
theorem crcN_xor (n : Nat) (a b : BitVec 32) : crcN n (a ^^^ b) = crcN n a ^^^ crcN n b := by
  induction n with
  | zero => rfl
  | succ n ih => simp only [crcN, ih, crcBit_xor]
/-- What turned bytes make. -/
def turned : Nat → BitVec 32
  | 0 => 0#32
  | k + 1 => crcN 8 (turned k ^^^ 255#32)
theorem flip32 (c : UInt8) : BitVec.ofNat 32 (~~~ c).toNat = BitVec.ofNat 32 c.toNat ^^^ 255#32 := by
  have : ∀ i : Fin 256, BitVec.ofNat 32 (~~~ (UInt8.ofNat i)).toNat = BitVec.ofNat 32 (UInt8.ofNat i).toNat ^^^ 255#32 := by decide +kernel
  have h := this ⟨c.toNat, c.toNat_lt⟩
  simpa using h
theorem fold_flip (l : List UInt8) : ∀ (s d : BitVec 32) (k : Nat), d = turned k → (l.map (~~~ ·)).foldl crcByte (s ^^^ d) = l.foldl crcByte s ^^^ turned (k + l.length) := by
  induction l with
  | nil => intro s d k hd; simp [hd]
  | cons c l ih =>
    intro s d k hd
    simp only [List.map_cons, List.foldl_cons, List.length_cons]
    have : crcByte (s ^^^ d) (~~~ c) = crcByte s c ^^^ turned (k + 1) := by
      unfold crcByte
      rw [flip32, show s ^^^ d ^^^ (BitVec.ofNat 32 c.toNat ^^^ 255#32) = (s ^^^ BitVec.ofNat 32 c.toNat) ^^^ (d ^^^ 255#32) by
        simp only [BitVec.xor_assoc]; congr 1; rw [xlc], crcN_xor, hd]
      rfl
    rw [this, ih _ _ (k + 1) rfl]
    congr 2; omega
theorem crc_flip (a u : List UInt8) : crc (a ++ u.map (~~~ ·)) = crc (a ++ u) ^^^ turned u.length := by
  unfold crc
  rw [List.foldl_append, List.foldl_append]
  have := fold_flip u (a.foldl crcByte (BitVec.allOnes 32)) 0#32 0 rfl
  rw [BitVec.xor_zero, Nat.zero_add] at this
  rw [this]
  apply BitVec.eq_of_getLsbD_eq
  intro i hi
  simp [hi]
theorem turned_low (k : Nat) (h1 : 1 ≤ k) (h2 : k ≤ 3) : (turned k).toNat % 256 ≠ 0 := by
  have : k = 1 ∨ k = 2 ∨ k = 3 := by omega
  rcases this with rfl | rfl | rfl <;> decide +kernel
theorem turned_ne (k : Nat) (h1 : 1 ≤ k) (h2 : k ≤ 4) : turned k ≠ 0#32 := by
  have : k = 1 ∨ k = 2 ∨ k = 3 ∨ k = 4 := by omega
  rcases this with rfl | rfl | rfl | rfl <;> decide +kernel
theorem xor_low (a d : BitVec 32) (h : (a ^^^ d).toNat % 256 = a.toNat % 256) : d.toNat % 256 = 0 := by
  rw [BitVec.toNat_xor] at h
  have e : ∀ x y : Nat, (x ^^^ y) % 256 = (x % 256) ^^^ (y % 256) := fun x y => by
    rw [show 256 = 2 ^ 8 by rfl, Nat.xor_mod_two_pow]
  rw [e] at h
  have := congrArg (fun z => (a.toNat % 256) ^^^ z) h
  simpa [← Nat.xor_assoc] using this
theorem xor_ne (a d : BitVec 32) (hd : d ≠ 0#32) : a ^^^ d ≠ a := fun h => hd (by
  have := congrArg (fun z => a ^^^ z) h
  simpa [← BitVec.xor_assoc] using this)
theorem fourL_length (n : Nat) : (fourL n).length = 4 := rfl
theorem numL_four (n : Nat) (hn : n < 4294967296) (r : List UInt8) : numL (fourL n ++ r) = n := by
  simp only [numL, fourL, List.cons_append, List.nil_append, List.getD_cons_zero, List.getD_cons_succ, UInt8.toNat_ofNat']
  omega
theorem numL_lt (l : List UInt8) : numL l < 4294967296 := by
  have h : ∀ c : UInt8, c.toNat < 256 := fun c => c.toNat_lt
  have h0 := h (l.getD 0 0)
  have h1 := h (l.getD 1 0)
  have h2 := h (l.getD 2 0)
  have h3 := h (l.getD 3 0)
  unfold numL
  omega
/-- A frame of a payload. -/
def frame (p : List UInt8) : List UInt8 := fourL p.length ++ fourL (crc p).toNat ++ p
theorem frame_length (p : List UInt8) : (frame p).length = 8 + p.length := by simp [frame, fourL_length]; omega
/-- The payload of the frame that bytes begin with. -/
def beginsL (l : List UInt8) : Option (List UInt8) :=
  if l.length < 8 then none else if numL l < 1 ∨ 8192 < numL l ∨ l.length - 8 < numL l then none else
    if (crc ((l.drop 8).take (numL l))).toNat = numL (l.drop 4) then some ((l.drop 8).take (numL l)) else none
theorem beginsL_len {l p : List UInt8} (h : beginsL l = some p) : 8 + p.length ≤ l.length ∧ 1 ≤ p.length ∧ p.length ≤ 8192 := by
  unfold beginsL at h
  split at h
  · cases h
  · split at h
    · cases h
    · split at h
      · simp only [Option.some.injEq] at h
        subst h
        rw [List.length_take, List.length_drop]
        omega
      · cases h
theorem beginsL_frame (p r : List UInt8) (h1 : 1 ≤ p.length) (h2 : p.length ≤ 8192) : beginsL (frame p ++ r) = some p := by
  have e1 : numL (frame p ++ r) = p.length := by rw [frame, List.append_assoc, List.append_assoc]; exact numL_four _ (by omega) _
  have e2 : (frame p ++ r).drop 4 = fourL (crc p).toNat ++ (p ++ r) := by
    rw [frame, List.append_assoc, List.append_assoc, List.drop_left' (by rfl)]
  have e3 : (frame p ++ r).drop 8 = p ++ r := by
    rw [frame, List.append_assoc (fourL _ ++ fourL _), List.drop_left' (by rfl)]
  unfold beginsL
  rw [if_neg (by rw [List.length_append, frame_length]; omega), e1, if_neg (by rw [List.length_append, frame_length]; omega), e2, e3, List.take_left, numL_four _ (crc p).isLt, if_pos rfl]
theorem beginsL_short (l : List UInt8) (h : l.length < 8) : beginsL l = none := by unfold beginsL; rw [if_pos h]

/-- What is read out of bytes, and how far. -/
def scan (l : List UInt8) : List (List UInt8) × Nat := match h : beginsL l with
  | none => ([], 0)
  | some p => let r := scan (l.drop (8 + p.length)); (p :: r.1, 8 + p.length + r.2)
termination_by l.length
decreasing_by
  have := beginsL_len h
  rw [List.length_drop]
  omega
theorem scan_none {l : List UInt8} (h : beginsL l = none) : scan l = ([], 0) := by
  rw [scan]
  split
  · rfl
  · rename_i p hp; rw [h] at hp; cases hp
theorem scan_some {l p : List UInt8} (h : beginsL l = some p) : scan l = (p :: (scan (l.drop (8 + p.length))).1, 8 + p.length + (scan (l.drop (8 + p.length))).2) := by
  rw [scan]
  split
  · rename_i hp; rw [h] at hp; cases hp
  · rename_i q hq; rw [h] at hq; cases hq; rfl
def frames (ps : List (List UInt8)) : List UInt8 := (ps.map frame).flatten
theorem frames_cons (p : List UInt8) (ps : List (List UInt8)) : frames (p :: ps) = frame p ++ frames ps := by simp [frames]
theorem frames_snoc (p : List UInt8) (ps : List (List UInt8)) : frames (ps ++ [p]) = frames ps ++ frame p := by simp [frames]
theorem scan_frames (ps : List (List UInt8)) (r : List UInt8) (h : ∀ p ∈ ps, 1 ≤ p.length ∧ p.length ≤ 8192) : scan (frames ps ++ r) = (ps ++ (scan r).1, (frames ps).length + (scan r).2) := by
  induction ps with
  | nil => simp [frames]
  | cons p ps ih =>
    have hp := h p (by simp)
    have hb := beginsL_frame p (frames ps ++ r) hp.1 hp.2
    rw [frames_cons, List.append_assoc, scan_some hb, List.drop_left' (frame_length p), ih fun q hq => h q (by simp [hq])]
    simp [frame_length]
    omega
theorem scan_le (l : List UInt8) : (scan l).2 ≤ l.length := by
  induction hn : l.length using Nat.strongRecOn generalizing l with
  | _ n ih =>
    cases hb : beginsL l with
    | none => rw [scan_none hb]; exact Nat.zero_le _
    | some p =>
      have hl := beginsL_len hb
      rw [scan_some hb]
      have := ih (l.drop (8 + p.length)).length (by rw [List.length_drop]; omega) _ rfl
      rw [List.length_drop] at this
      show 8 + p.length + _ ≤ _
      omega

theorem flipTail_drop (l : List UInt8) (s k : Nat) (h : k ≤ s) : (flipTail l s).drop k = flipTail (l.drop k) (s - k) := by
  unfold flipTail
  rcases Nat.lt_or_ge l.length s with hs | hs
  · rw [List.drop_eq_nil_of_le (by omega : l.length ≤ s), List.take_of_length_le (by omega), List.drop_drop, List.drop_eq_nil_of_le (by omega : l.length ≤ k + (s - k)), List.take_of_length_le (by rw [List.length_drop]; omega)]
    simp
  · rw [List.drop_append_of_le_length (by rw [List.length_take]; omega), List.drop_drop, List.drop_take, show k + (s - k) = s by omega]
theorem flipTail_drop2 (l : List UInt8) (s k : Nat) (h : s ≤ k) (hs : s ≤ l.length) : (flipTail l s).drop k = (l.drop k).map (~~~ ·) := by
  unfold flipTail
  rw [List.drop_append, List.drop_eq_nil_of_le (by rw [List.length_take]; omega), List.length_take, List.nil_append, ← List.map_drop, List.drop_drop]
  congr 2
  omega
theorem flipTail_getD (l : List UInt8) (s i : Nat) (h : i < s) : (flipTail l s).getD i 0 = l.getD i 0 := by
  unfold flipTail
  simp only [List.getD_eq_getElem?_getD]
  congr 1
  rcases Nat.lt_or_ge i l.length with hi | hi
  · rw [List.getElem?_append_left (by rw [List.length_take]; omega), List.getElem?_take, if_pos h]
  · rw [List.getElem?_eq_none (by simp; omega), List.getElem?_eq_none hi]
theorem numL_flip (l : List UInt8) (s : Nat) (h : 4 ≤ s) : numL (flipTail l s) = numL l := by
  unfold numL
  rw [flipTail_getD _ _ _ (by omega), flipTail_getD _ _ _ (by omega), flipTail_getD _ _ _ (by omega), flipTail_getD _ _ _ (by omega)]
theorem numL_take (l : List UInt8) (k : Nat) (h : 4 ≤ k) : numL (l.take k) = numL l := by
  have : ∀ i, i < 4 → (l.take k).getD i 0 = l.getD i 0 := fun i hi => by
    simp only [List.getD_eq_getElem?_getD, List.getElem?_take, if_pos (show i < k by omega)]
  unfold numL
  rw [this 0 (by omega), this 1 (by omega), this 2 (by omega), this 3 (by omega)]
theorem numL_low (l : List UInt8) : numL l % 256 = (l.getD 0 0).toNat := by
  have := (l.getD 0 0).toNat_lt
  unfold numL
  omega

/-- A frame that is torn is none. -/
theorem torn_none (p : List UInt8) (h1 : 1 ≤ p.length) (h2 : p.length ≤ 8192) (K t : Nat) (hK : K ≤ (frame p).length) (ht : t ≤ 4) (hne : ¬ (K = (frame p).length ∧ t = 0)) : beginsL (flipTail ((frame p).take K) (K - min t K)) = none := by
  have hl := frame_length p
  have hlen : (flipTail ((frame p).take K) (K - min t K)).length = K := by rw [flipTail_length, List.length_take]; omega
  rcases Nat.lt_or_ge K 8 with h8 | h8
  · exact beginsL_short _ (by omega)
  · have e1 : numL (flipTail ((frame p).take K) (K - min t K)) = p.length := by
      rw [numL_flip _ _ (by omega), numL_take _ _ (by omega), frame, List.append_assoc]
      exact numL_four _ (by omega) _
    unfold beginsL
    rw [if_neg (by omega), e1, hlen]
    rcases Nat.lt_or_ge K (frame p).length with hf | hf
    · rw [if_pos (by omega)]
    · obtain rfl : K = (frame p).length := by omega
      rw [if_neg (by omega), if_neg ?_]
      have hm : min t (frame p).length = t := by omega
      rw [hm, List.take_length]
      have t0 : 1 ≤ t := by omega
      have e3 : (frame p).drop 8 = p := by rw [frame, List.drop_left' (by rfl)]
      have e4 : (frame p).drop 4 = fourL (crc p).toNat ++ p := by rw [frame, List.append_assoc, List.drop_left' (by rfl)]
      rcases Nat.lt_or_ge p.length t with hp | hp
      · -- the sum's end is turned, too
        have d8 : (flipTail (frame p) ((frame p).length - t)).drop 8 = p.map (~~~ ·) := by rw [flipTail_drop2 _ _ _ (by omega) (by omega), e3]
        have hc : crc (p.map (~~~ ·)) = crc p ^^^ turned p.length := by have := crc_flip [] p; simpa using this
        rw [d8, List.take_of_length_le (by simp), hc]
        intro hh
        have hlow := numL_low ((flipTail (frame p) ((frame p).length - t)).drop 4)
        rw [← hh, flipTail_drop _ _ _ (by omega), e4, flipTail_getD _ _ _ (by omega)] at hlow
        have h4 : ((fourL (crc p).toNat ++ p).getD 0 0).toNat = (crc p).toNat % 256 := by
          simp [fourL]
        rw [h4] at hlow
        exact turned_low p.length h1 (by omega) (xor_low _ _ hlow)
      · have d8 : (flipTail (frame p) ((frame p).length - t)).drop 8 = p.take (p.length - t) ++ (p.drop (p.length - t)).map (~~~ ·) := by
          rw [flipTail_drop _ _ _ (by omega), e3, hl, show 8 + p.length - t - 8 = p.length - t by omega]; rfl
        have hc : crc (p.take (p.length - t) ++ (p.drop (p.length - t)).map (~~~ ·)) = crc p ^^^ turned t := by
          rw [crc_flip, List.take_append_drop, List.length_drop, show p.length - (p.length - t) = t by omega]
        have d4 : numL ((flipTail (frame p) ((frame p).length - t)).drop 4) = (crc p).toNat := by
          rw [flipTail_drop _ _ _ (by omega), numL_flip _ _ (by omega), e4]
          exact numL_four _ (crc p).isLt _
        rw [d8, List.take_of_length_le (by simp), hc, d4]
        intro hh
        exact xor_ne _ _ (turned_ne t t0 ht) (BitVec.eq_of_toNat_eq hh)
end Go.Proofs.Ytidpcjblciompaa
