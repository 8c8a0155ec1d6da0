/- The law CasesRight: pack 5 of its texts. -/
import Derived.Shelf.Small.Strs
import Derived.Shelf.Small.Wraps
import Derived.Shelf.Strconv.AtoiAll
import Derived.Shelf.Strconv.ErrVarAll
import Derived.Shelf.Strings.Search1
import Derived.Test.YtnhelgnmadbpgaaGreatDoorProg
import Derived.KernelRfl
import Derived.WalkKit
import Derived.BigCall
import Derived.Test.YtnhelgnmadbpgaaGreatDoorPk1
import Derived.Test.YtnhelgnmadbpgaaGreatDoorPk2
import Derived.Test.YtnhelgnmadbpgaaGreatDoorPk3
import Derived.Test.YtnhelgnmadbpgaaGreatDoorPk4
set_option linter.unusedVariables false
namespace Go.Proofs
open Go.Shelf
def Tryz.lays137_ren : Go.Shelf.Ren := ⟨fun | 137 => 156 | 217 => 186 | 266 => 198 | n => n, fun | 9 => 9 | 5 => 5 | 3 => 3 | n => n, fun | n => n⟩
theorem Tryz.lays137 : Go.Proofs.Lays.n137 Tryz.prog Tryz.lays137_ren := {
  mixed := by kernel_rfl
  f137 := Tryz.func156.trans (congrArg some (by kernel_rfl))
  f217 := Tryz.func186.trans (congrArg some (by kernel_rfl))
  f266 := Tryz.func198.trans (congrArg some (by kernel_rfl))
  t3 := Tryz.underlying3
  a3 := Tryz.isAgg3
  z3 := Tryz.sizeOf3
  v3 := Tryz.zeroValue3
  t5 := Tryz.underlying5
  a5 := Tryz.isAgg5
  z5 := Tryz.sizeOf5
  v5 := Tryz.zeroValue5
  t9 := Tryz.underlying9
  a9 := Tryz.isAgg9
  z9 := Tryz.sizeOf9
  v9 := Tryz.zeroValue9 }
open Go.RowKit in
theorem Tryz.strings_IndexByte (s : ByteArray) (c : Int) (w : World) :
    Calls Tryz.prog 156 #[.string s, .int .u8 c] w fun e w' => e = .returned (.int .i64 (Lib.indexByte s.data.toList c.toNat.toUInt8)) ∧ w' = w := Any.strings_IndexByte Tryz.lays137 s c w
def Tryz.laysC172_ren : Go.Shelf.Ren := ⟨fun | 172 => 183 | 244 => 195 | 245 => 196 | 247 => 203 | 279 => 204 | 280 => 205 | 281 => 206 | 282 => 207 | 287 => 211 | 316 => 212 | 171 => 214 | 205 => 213 | 321 => 216 | 322 => 217 | 243 => 218 | 246 => 219 | 283 => 220 | 284 => 221 | 285 => 222 | 286 => 223 | 129 => 225 | 317 => 224 | 318 => 226 | 319 => 227 | 320 => 228 | 337 => 229 | 338 => 230 | n => n, fun | 9 => 9 | 3 => 3 | 75 => 249 | 76 => 250 | 4 => 4 | 5 => 5 | 167 => 265 | 37 => 82 | 0 => 0 | 85 => 266 | 2 => 2 | 168 => 268 | 53 => 200 | 175 => 273 | 46 => 233 | 210 => 276 | 127 => 280 | 145 => 283 | 143 => 281 | 21 => 21 | 171 => 285 | 173 => 288 | 212 => 292 | 51 => 293 | 20 => 20 | 213 => 294 | 232 => 297 | 233 => 298 | 80 => 184 | n => n, fun | 15 => 1 | 16 => 2 | 17 => 3 | 18 => 4 | 19 => 5 | n => n⟩
theorem Tryz.laysC172 : Go.Proofs.LaysC.n172 Tryz.prog Tryz.laysC172_ren := {
  mixed := by kernel_rfl
  f129 := Tryz.func225.trans (congrArg some (by kernel_rfl))
  f171 := Tryz.func214.trans (congrArg some (by kernel_rfl))
  f172 := Tryz.func183.trans (congrArg some (by kernel_rfl))
  f205 := Tryz.func213.trans (congrArg some (by kernel_rfl))
  f243 := Tryz.func218.trans (congrArg some (by kernel_rfl))
  f244 := Tryz.func195.trans (congrArg some (by kernel_rfl))
  f245 := Tryz.func196.trans (congrArg some (by kernel_rfl))
  f246 := Tryz.func219.trans (congrArg some (by kernel_rfl))
  f247 := Tryz.func203.trans (congrArg some (by kernel_rfl))
  f279 := Tryz.func204.trans (congrArg some (by kernel_rfl))
  f280 := Tryz.func205.trans (congrArg some (by kernel_rfl))
  f281 := Tryz.func206.trans (congrArg some (by kernel_rfl))
  f282 := Tryz.func207.trans (congrArg some (by kernel_rfl))
  f283 := Tryz.func220.trans (congrArg some (by kernel_rfl))
  f284 := Tryz.func221.trans (congrArg some (by kernel_rfl))
  f285 := Tryz.func222.trans (congrArg some (by kernel_rfl))
  f286 := Tryz.func223.trans (congrArg some (by kernel_rfl))
  f287 := Tryz.func211.trans (congrArg some (by kernel_rfl))
  f316 := Tryz.func212.trans (congrArg some (by kernel_rfl))
  f317 := Tryz.func224.trans (congrArg some (by kernel_rfl))
  f318 := Tryz.func226.trans (congrArg some (by kernel_rfl))
  f319 := Tryz.func227.trans (congrArg some (by kernel_rfl))
  f320 := Tryz.func228.trans (congrArg some (by kernel_rfl))
  f321 := Tryz.func216.trans (congrArg some (by kernel_rfl))
  f322 := Tryz.func217.trans (congrArg some (by kernel_rfl))
  f337 := Tryz.func229.trans (congrArg some (by kernel_rfl))
  f338 := Tryz.func230.trans (congrArg some (by kernel_rfl))
  t0 := Tryz.underlying0
  a0 := Tryz.isAgg0
  z0 := Tryz.sizeOf0
  v0 := Tryz.zeroValue0
  t2 := Tryz.underlying2
  a2 := Tryz.isAgg2
  z2 := Tryz.sizeOf2
  v2 := Tryz.zeroValue2
  t3 := Tryz.underlying3
  a3 := Tryz.isAgg3
  z3 := Tryz.sizeOf3
  v3 := Tryz.zeroValue3
  t4 := Tryz.underlying4
  a4 := Tryz.isAgg4
  z4 := Tryz.sizeOf4
  v4 := Tryz.zeroValue4
  t5 := Tryz.underlying5
  a5 := Tryz.isAgg5
  z5 := Tryz.sizeOf5
  v5 := Tryz.zeroValue5
  t9 := Tryz.underlying9
  a9 := Tryz.isAgg9
  z9 := Tryz.sizeOf9
  v9 := Tryz.zeroValue9
  t20 := Tryz.underlying20
  a20 := Tryz.isAgg20
  z20 := Tryz.sizeOf20
  v20 := Tryz.zeroValue20
  t21 := Tryz.underlying21
  a21 := Tryz.isAgg21
  z21 := Tryz.sizeOf21
  v21 := Tryz.zeroValue21
  t37 := Tryz.underlying82
  a37 := Tryz.isAgg82
  z37 := Tryz.sizeOf82
  v37 := Tryz.zeroValue82
  t46 := Tryz.underlying233
  a46 := Tryz.isAgg233
  z46 := Tryz.sizeOf233
  v46 := Tryz.zeroValue233
  t51 := Tryz.underlying293
  a51 := Tryz.isAgg293
  z51 := Tryz.sizeOf293
  v51 := Tryz.zeroValue293
  t53 := Tryz.underlying200
  a53 := Tryz.isAgg200
  z53 := Tryz.sizeOf200
  v53 := Tryz.zeroValue200
  t75 := Tryz.underlying249
  a75 := Tryz.isAgg249
  z75 := Tryz.sizeOf249
  v75 := Tryz.zeroValue249
  t76 := Tryz.underlying250
  a76 := Tryz.isAgg250
  z76 := Tryz.sizeOf250
  v76 := Tryz.zeroValue250
  t85 := Tryz.underlying266
  a85 := Tryz.isAgg266
  z85 := Tryz.sizeOf266
  v85 := Tryz.zeroValue266
  t127 := Tryz.underlying280
  a127 := Tryz.isAgg280
  z127 := Tryz.sizeOf280
  v127 := Tryz.zeroValue280
  t143 := Tryz.underlying281
  a143 := Tryz.isAgg281
  z143 := Tryz.sizeOf281
  v143 := Tryz.zeroValue281
  t145 := Tryz.underlying283
  a145 := Tryz.isAgg283
  z145 := Tryz.sizeOf283
  v145 := Tryz.zeroValue283
  t167 := Tryz.underlying265
  a167 := Tryz.isAgg265
  z167 := Tryz.sizeOf265
  v167 := Tryz.zeroValue265
  t168 := Tryz.underlying268
  a168 := Tryz.isAgg268
  z168 := Tryz.sizeOf268
  v168 := Tryz.zeroValue268
  t171 := Tryz.underlying285
  a171 := Tryz.isAgg285
  z171 := Tryz.sizeOf285
  v171 := Tryz.zeroValue285
  t173 := Tryz.underlying288
  a173 := Tryz.isAgg288
  z173 := Tryz.sizeOf288
  v173 := Tryz.zeroValue288
  t175 := Tryz.underlying273
  a175 := Tryz.isAgg273
  z175 := Tryz.sizeOf273
  v175 := Tryz.zeroValue273
  t210 := Tryz.underlying276
  a210 := Tryz.isAgg276
  z210 := Tryz.sizeOf276
  v210 := Tryz.zeroValue276
  t212 := Tryz.underlying292
  a212 := Tryz.isAgg292
  z212 := Tryz.sizeOf292
  v212 := Tryz.zeroValue292
  t213 := Tryz.underlying294
  a213 := Tryz.isAgg294
  z213 := Tryz.sizeOf294
  t232 := Tryz.underlying297
  a232 := Tryz.isAgg297
  z232 := Tryz.sizeOf297
  v232 := Tryz.zeroValue297
  t233 := Tryz.underlying298
  a233 := Tryz.isAgg298
  z233 := Tryz.sizeOf298
  v233 := Tryz.zeroValue298
  g15 := by kernel_rfl
  g16 := by kernel_rfl
  g17 := by kernel_rfl
  g18 := by kernel_rfl
  g19 := by kernel_rfl
  t80 := Tryz.underlying184
  a80 := Tryz.isAgg184
  z80 := Tryz.sizeOf184
  v80 := Tryz.zeroValue184
  i0 := by kernel_rfl
  i2 := by kernel_rfl
  i3 := by kernel_rfl
  i4 := by kernel_rfl
  i5 := by kernel_rfl
  i9 := by kernel_rfl
  i20 := by kernel_rfl
  i21 := by kernel_rfl
  i37 := by kernel_rfl
  i46 := by kernel_rfl
  i51 := by kernel_rfl
  i53 := by kernel_rfl
  i75 := by kernel_rfl
  i76 := by kernel_rfl
  i80 := by kernel_rfl
  i85 := by kernel_rfl
  i127 := by kernel_rfl
  i143 := by kernel_rfl
  i145 := by kernel_rfl
  i167 := by kernel_rfl
  i168 := by kernel_rfl
  i171 := by kernel_rfl
  i173 := by kernel_rfl
  i175 := by kernel_rfl
  i210 := by kernel_rfl
  i212 := by kernel_rfl
  i232 := by kernel_rfl
  i233 := by kernel_rfl
  m15 := by kernel_rfl
  m16 := by kernel_rfl
  m17 := by kernel_rfl
  m18 := by kernel_rfl
  m19 := by kernel_rfl
  c0 := by kernel_rfl
  c2 := by kernel_rfl
  c3 := by kernel_rfl
  c4 := by kernel_rfl
  c5 := by kernel_rfl
  c9 := by kernel_rfl
  c20 := by kernel_rfl
  c21 := by kernel_rfl
  c37 := by kernel_rfl
  c46 := by kernel_rfl
  c51 := by kernel_rfl
  c53 := by kernel_rfl
  c75 := by kernel_rfl
  c76 := by kernel_rfl
  c80 := by kernel_rfl
  c85 := by kernel_rfl
  c127 := by kernel_rfl
  c143 := by kernel_rfl
  c145 := by kernel_rfl
  c167 := by kernel_rfl
  c168 := by kernel_rfl
  c171 := by kernel_rfl
  c173 := by kernel_rfl
  c175 := by kernel_rfl
  c210 := by kernel_rfl
  c212 := by kernel_rfl
  c213 := by kernel_rfl
  c232 := by kernel_rfl
  c233 := by kernel_rfl }
open Go.RowKit in
theorem Tryz.strconv_Atoi_ok (s : ByteArray) (hmax : s.size ≤ 9223372036854775806) (v : Int) (h : Lib.atoiAll s.data.toList = .ok v) (w : World) :
    Calls Tryz.prog 183 #[.string s] w fun e w' => e = .returned (.tuple #[.int .i64 v, .nilIface]) ∧ (w' = w ∨ ∃ t, w' = Lib.bytesWorld w 5 t) := Any.strconv_Atoi_ok Tryz.laysC172 s hmax v h w
open Go.RowKit in
theorem Tryz.strconv_Atoi_range (s : ByteArray) (hlim : s.size ≤ 281474976710656) (h : Lib.atoiAll s.data.toList = .range) (ev : Value) (w : World) (hv : w.cell? ⟨2, 0, none⟩ = some ev) (hev : ev = .nilIface ∨ ∃ te pe, ev = .iface te pe) :
    Calls Tryz.prog 183 #[.string s] w fun e w' => ∃ N, e = .returned (.tuple #[.int .i64 (Lib.atoiSat s.data.toList), .iface 268 (.pointer (some ⟨N, 0, none⟩))]) ∧ w.heap.size ≤ N ∧ w'.heap[N]? = some (.cells #[.string ⟨#[65, 116, 111, 105]⟩, .string s, ev] 276 (0, 0)) ∧ Below w.heap.size w w' := Any.strconv_Atoi_range Tryz.laysC172 s hlim h ev w hv hev
end Go.Proofs

set_option linter.unusedSimpArgs false
set_option linter.unusedVariables false
namespace Go.Proofs.YtnhelgnmadbpgaaGreatDoor
open Go Go.Ab Go.Bf Go.RowKit
theorem run_calls (s : Txt) (hs : s.length ≤ 100000) (w : World) : Calls Tryz.prog 181 #[.string ⟨s.toArray⟩, .func (.func 153) #[] #[]] w fun e w' => e = .returned (.int .i64 (s.takeWhile dgt).length) ∧ Below w.heap.size w w' := by
  refine Go.Ab.FnOK.calls (args := [.s s, .fn 153 []]) ⟨_, Tryz.func181, by kernel_rfl, rfl⟩ ((run_ok _ _ isDigit_ok s noHeap).mono fun _ _ h => h.1) rfl (fun i hi => ?_)
  rcases i with _ | _ | i
  · exact .s s (by show s.length < lim; have : (100000 : Nat) < lim := by decide
                   omega)
  · exact .fn _ [] #[] rfl (fun i hi => by cases hi)
  · simp at hi; omega
def valI (neg : Bool) (d : Txt) : Int := if neg then -(decV d : Int) else (decV d : Int)
def inI (neg : Bool) (d : Txt) : Prop := -9223372036854775808 ≤ (if neg then -(decV d : Int) else (decV d : Int)) ∧ (if neg then -(decV d : Int) else (decV d : Int)) ≤ 9223372036854775807
instance (neg : Bool) (d : Txt) : Decidable (inI neg d) := inferInstanceAs (Decidable (_ ∧ _))
theorem signT_le (neg : Bool) : (signT neg).length ≤ 1 := by cases neg <;> decide
theorem atoi_in (neg : Bool) (d : Txt) (h0 : d ≠ []) (hd : ∀ c ∈ d, dgt c = true) (hlen : d.length ≤ 10000) (S : ByteArray) (hS : S = ⟨(signT neg ++ d).toArray⟩) (hr : inI neg d) (W : World) :
    Calls Tryz.prog 183 #[.string S] W fun e w' => e = .returned (.tuple #[.int .i64 (valI neg d), .nilIface]) ∧ Below W.heap.size W w' := by
  have hl := signT_le neg
  have hsz : S.size ≤ 10001 := by rw [hS]; simp [ByteArray.size]; omega
  have ha : Lib.atoiAll S.data.toList = .ok (valI neg d) := by
    rw [hS]
    show Lib.atoiAll (signT neg ++ d) = _
    rw [atoi_digits neg d h0 hd]
    exact if_pos hr
  refine (Tryz.strconv_Atoi_ok S (by omega) _ ha W).mono ?_
  rintro e w' ⟨rfl, rfl | ⟨t, rfl⟩⟩
  · exact ⟨rfl, .refl _ _⟩
  · exact ⟨rfl, Lib.bytesWorld_below W _ t⟩
theorem atoi_out (neg : Bool) (d : Txt) (h0 : d ≠ []) (hd : ∀ c ∈ d, dgt c = true) (hlen : d.length ≤ 10000) (S : ByteArray) (hS : S = ⟨(signT neg ++ d).toArray⟩) (hr : ¬ inI neg d) (W : World) (ev : Value) (hv : W.cell? ⟨2, 0, none⟩ = some ev) (hev : ev = .nilIface ∨ ∃ te pe, ev = .iface te pe) :
    Calls Tryz.prog 183 #[.string S] W fun e w' => (∃ (x : Int) (N : Nat), e = .returned (.tuple #[.int .i64 x, .iface 268 (.pointer (some ⟨N, 0, none⟩))])) ∧ Below W.heap.size W w' := by
  have hl := signT_le neg
  have hsz : S.size ≤ 10001 := by rw [hS]; simp [ByteArray.size]; omega
  have ha : Lib.atoiAll S.data.toList = .range := by
    rw [hS]
    show Lib.atoiAll (signT neg ++ d) = _
    rw [atoi_digits neg d h0 hd]
    exact if_neg hr
  refine (Tryz.strconv_Atoi_range S (by omega) ha ev W hv hev).mono ?_
  rintro e w' ⟨N, rfl, _, _, hb⟩
  exact ⟨⟨_, N, rfl⟩, hb⟩
set_option maxHeartbeats 1000000 in
set_option maxRecDepth 1000000 in
theorem number_walk (neg : Bool) (s : Txt) (hs : s.length ≤ 10000) (w : World) (ev : Value) (hv : w.cell? ⟨2, 0, none⟩ = some ev) (hev : ev = .nilIface ∨ ∃ te pe, ev = .iface te pe) (hg : 2 < w.heap.size) :
    Calls Tryz.prog 154 #[.string ⟨(signT neg).toArray⟩, .string ⟨s.toArray⟩] w fun e w' => e = .returned (.tuple #[.int .i64 (numD neg s).1, .int .i64 ((numD neg s).2 : Nat)]) ∧ Below w.heap.size w w' := by
  have hle := takeWhile_le dgt s
  obtain ⟨d, ed⟩ : ∃ d, s.takeWhile dgt = d := ⟨_, rfl⟩
  have htk : s.take d.length = d := by rw [← ed, takeWhile_take]
  have hrun := run_calls s (by omega) w
  have hall := takeWhile_dgt s
  rw [ed] at hrun hle hall
  go_enter Tryz.func154, Tryz.ntmps154
  by_cases h0 : d.length = 0
  · have e0 : d = [] := List.length_eq_zero_iff.1 h0
    have en : numD neg s = (0, 0) := by unfold numD; rw [ed, if_pos (.inl e0)]
    go_wp2_with (go_at_call 181; refine hrun.mono ?_)
    rintro e W0 ⟨rfl, b0⟩
    rw [h0]
    go_wp2
    go_ret2
    rw [en]
    exact ⟨rfl, b0⟩
  · have e0 : d ≠ [] := by rintro rfl; exact h0 rfl
    go_wp2_with (go_at_call 181; refine hrun.mono ?_)
    rintro e W0 ⟨rfl, b0⟩
    have hpos : 0 < d.length := by omega
    have hs0 : 0 < s.length := by omega
    have hsz : 0 < (⟨s.toArray⟩ : ByteArray).size := by simpa [ByteArray.size] using hs0
    have hg0 : (⟨s.toArray⟩ : ByteArray)[0] = s[0] := rfl
    have hgn : ∀ x : UInt8, (s.head? = some x) ↔ s[0] = x := fun x => by
      rw [List.head?_eq_getElem?, List.getElem?_eq_getElem hs0]; simp
    cases d0 : ((d.length : Int) == 0)
    case true => exact absurd (by simpa using d0) h0
    have hS : (⟨(signT neg).toArray⟩ : ByteArray) ++ (⟨s.toArray⟩ : ByteArray).extract 0 d.length = ⟨(signT neg ++ d).toArray⟩ := by
      apply ByteArray.ext
      simp [ByteArray.data_extract, htk]
    have hcat : ¬ 9223372036854775807 < List.length (signT neg) + d.length := by have := signT_le neg; omega
    cases d1 : decide (1 < (d.length : Int))
    · have f1 : ¬ 1 < d.length := by have := of_decide_eq_false d1; omega
      have en : numD neg s = if inI neg d then (valI neg d, d.length) else (0, 0) := by
        unfold numD
        rw [ed, if_neg (by simp [e0, f1])]
        rfl
      have hv0 : W0.cell? ⟨2, 0, none⟩ = some ev := by rw [b0.cell hg]; exact hv
      by_cases hr : inI neg d
      · rw [if_pos hr] at en
        go_wp2_with (go_at_call 183; refine (atoi_in neg d e0 hall (by omega) _ (by first | exact hS | (apply ByteArray.ext; simp [ByteArray.data_extract, htk])) hr _).mono ?_)
        rintro e W1 ⟨rfl, b1⟩
        go_wp2
        go_ret2
        rw [en]
        exact ⟨rfl, b0.trans (b1.mono b0.size)⟩
      · rw [if_neg hr] at en
        go_wp2_with (go_at_call 183; refine (atoi_out neg d e0 hall (by omega) _ (by first | exact hS | (apply ByteArray.ext; simp [ByteArray.data_extract, htk])) hr _ ev hv0 hev).mono ?_)
        rintro e W1 ⟨⟨x, N, rfl⟩, b1⟩
        go_wp2
        go_ret2
        rw [en]
        exact ⟨rfl, b0.trans (b1.mono b0.size)⟩
    · have f1 : 1 < d.length := by have := of_decide_eq_true d1; omega
      cases d2 : ((s[0].toNat : Int) == 48)
      · have f2 : s.head? ≠ some 48 := by
          rw [ne_eq, hgn]; intro e; rw [e] at d2; simp at d2
        have en : numD neg s = if inI neg d then (valI neg d, d.length) else (0, 0) := by
          unfold numD
          rw [ed, if_neg (by simp [e0, f2])]
          rfl
        have hv0 : W0.cell? ⟨2, 0, none⟩ = some ev := by rw [b0.cell hg]; exact hv
        by_cases hr : inI neg d
        · rw [if_pos hr] at en
          go_wp2_with (go_at_call 183; refine (atoi_in neg d e0 hall (by omega) _ (by first | exact hS | (apply ByteArray.ext; simp [ByteArray.data_extract, htk])) hr _).mono ?_)
          rintro e W1 ⟨rfl, b1⟩
          go_wp2
          go_ret2
          rw [en]
          exact ⟨rfl, b0.trans (b1.mono b0.size)⟩
        · rw [if_neg hr] at en
          go_wp2_with (go_at_call 183; refine (atoi_out neg d e0 hall (by omega) _ (by first | exact hS | (apply ByteArray.ext; simp [ByteArray.data_extract, htk])) hr _ ev hv0 hev).mono ?_)
          rintro e W1 ⟨⟨x, N, rfl⟩, b1⟩
          go_wp2
          go_ret2
          rw [en]
          exact ⟨rfl, b0.trans (b1.mono b0.size)⟩
      · have f2 : s.head? = some 48 := by
          rw [hgn]
          have : (s[0].toNat : Int) = 48 := by simpa using d2
          exact UInt8.toNat_inj.1 (by show s[0].toNat = 48; omega)
        have en : numD neg s = (0, 0) := by unfold numD; rw [ed, if_pos (.inr ⟨f1, f2⟩)]
        go_wp2
        go_ret2
        rw [en]
        exact ⟨rfl, b0⟩
def ErrT (h : Heap) : Prop := ∃ ev : Value, (ev = .nilIface ∨ ∃ te pe, ev = .iface te pe) ∧ Tab h 2 [ev]
theorem ErrT.sub {h h' : Heap} (he : ErrT h) (hs : Ab.Sub h h') : ErrT h' := by
  obtain ⟨ev, h1, h2⟩ := he
  exact ⟨ev, h1, h2.sub hs⟩
theorem number_ok (neg : Bool) (s : Txt) (hs : s.length ≤ 10000) (h : Heap) (he : ErrT h) : FnOK Tryz.prog 154 [.s (signT neg), .s s] h fun r h' => r = .tup [.v (.int .i64 (numD neg s).1), .v (.int .i64 ((numD neg s).2 : Nat))] ∧ h' = h := by
  obtain ⟨ev, hev, id, hi⟩ := he
  refine .lib ⟨_, Tryz.func154, by kernel_rfl, rfl⟩ fun c vs hs' g h1 h2 => ?_
  obtain ⟨u, v, rfl⟩ : ∃ u v, vs = #[u, v] := by
    match vs, h1 with
    | ⟨[u, v]⟩, _ => exact ⟨u, v, rfl⟩
  have e1 : u = .string ⟨(signT neg).toArray⟩ := ((h2 0 (by simp)).s_inv).1
  have e2 : v = .string ⟨s.toArray⟩ := ((h2 1 (by simp)).s_inv).1
  subst e1; subst e2
  obtain ⟨_, t, fr, hh⟩ := g.ro id _ _ (hs' _ _ hi)
  have hc : c.w.cell? ⟨2, 0, none⟩ = some ev := by simp [World.cell?, hh]
  refine (number_walk neg s hs c.w ev hc hev (lt_of_get hh)).mono ?_
  rintro e w' ⟨rfl, hb⟩
  refine ⟨⟨_, rfl, fun c' _ => ?_⟩, hb⟩
  refine .tup _ _ rfl fun i hi => ?_
  rcases i with _ | _ | i
  · exact .v _
  · exact .v _
  · simp at hi; omega
end Go.Proofs.YtnhelgnmadbpgaaGreatDoor

set_option linter.unusedSimpArgs false
set_option linter.unusedVariables false
namespace Go.Bf
open Go Go.Ab
def marks : Txt := [123, 125, 40, 41, 46, 44, 59, 61, 60, 62, 33]
set_option maxRecDepth 100000 in
theorem idx_marks_fin : ∀ n : Fin 256, decide (0 ≤ Lib.indexByte marks (UInt8.ofNat n.val)) = markB (UInt8.ofNat n.val) := by decide
theorem idx_marks (c : UInt8) : decide (0 ≤ Lib.indexByte marks c) = markB c := by
  have := idx_marks_fin ⟨c.toNat, c.toNat_lt⟩
  simpa using this
end Go.Bf
namespace Go.Proofs.YtnhelgnmadbpgaaGreatDoor
open Go Go.Ab Go.Bf
theorem index_ok (l : Txt) (c : UInt8) (h : Heap) : FnOK Tryz.prog 156 [.s l, .v (.int .u8 c.toNat)] h fun r h' => r = .v (.int .i64 (Lib.indexByte l c)) ∧ h' = h := by
  refine .lib ⟨_, Tryz.func156, by kernel_rfl, rfl⟩ fun cx vs hs' g h1 h2 => ?_
  obtain ⟨u, v, rfl⟩ : ∃ u v, vs = #[u, v] := by
    match vs, h1 with
    | ⟨[u, v]⟩, _ => exact ⟨u, v, rfl⟩
  have e1 : u = .string ⟨l.toArray⟩ := ((h2 0 (by simp)).s_inv).1
  have e2 : v = .int .u8 c.toNat := (h2 1 (by simp)).v_inv
  subst e1; subst e2
  refine (Tryz.strings_IndexByte ⟨l.toArray⟩ c.toNat cx.w).mono ?_
  rintro e w' ⟨rfl, rfl⟩
  refine ⟨⟨_, rfl, fun c' _ => ?_⟩, .refl _ _⟩
  have : ((c.toNat : Int).toNat).toUInt8 = c := by simp
  rw [this]
  exact .v _
theorem begins_ok (s : Txt) (h0 : s ≠ []) (hs : s.length ≤ 4096) (h : Heap) (he : ErrT h) : FnOK Tryz.prog 115 [.s s] h fun r h' => r = .tup [tokA (beginsD s).1, .v (.int .i64 ((beginsD s).2 : Nat))] ∧ h' = h := by
  refine FnOK.body hU hm Tryz.func115 rfl (by kernel_rfl) 106 rfl [.cell 2 144, .tmp 3] rfl (Nat.le_of_ble_eq_true rfl) (fun hwf => ?_)
  obtain ⟨c, r, rfl⟩ := List.exists_cons_of_ne_nil h0
  have hsl : r.length ≤ 4095 := by simpa using hs
  simp -implicitDefEqProofs only [go_sem]
  intro i2 hi2
  simp -implicitDefEqProofs only [go_sem]
  intro i4 hi4
  have n24 := ne_upd hi4
  have g2 : ∀ (f : Heap) (x : Option Blk), upd f i4 x i2 = f i2 := fun f x => upd_other f x n24.symm
  have g4 : ∀ (f : Heap) (x : Option Blk), upd f i2 x i4 = f i4 := fun f x => upd_other f x n24
  have hsub : Ab.Sub h (upd (upd h i2 (some (.obj [.v (.int .i64 0), .v (.int .i64 0), .v (.int .i64 0), .s []] 144))) i4 (some (.obj [.v (.int .i64 0), .v (.int .i64 0), .v (.int .i64 0), .s []] 144))) := (Sub.upd_new hi2).trans (.upd_new hi4)
  have he2 := he.sub hsub
  have hi4h : h i4 = none := by rw [upd_other _ _ n24] at hi4; exact hi4
  simp -implicitDefEqProofs only [go_sem]
  refine .at 0 (by simp) ?_
  cases la : decide (97 ≤ (c.toNat : Int))
  · have hl : ltr c = false := by simp only [ltr, la, Bool.false_and]
    simp -implicitDefEqProofs only [go_sem, byteA, List.getElem_cons_zero, la]
    have hlt : (c :: r).headD 0 = c := rfl
    refine (isDigit_ok c _).pthen ?_
    cases d1 : dgt c
    case true =>
      simp -implicitDefEqProofs only [go_sem, d1, g2, g4, upd_same]
      refine (number_ok false (c :: r) (by simp; omega) _ (he.sub (by repeat (first | exact .refl _ | refine Sub.put ?_ (by assumption) _)))).pthen ?_
      simp -implicitDefEqProofs only [go_sem, d1, g2, g4, upd_same]
      exact .mk _ (.refl _) (by repeat (first | exact .refl _ | refine Sub.put ?_ (by assumption) _)) ⟨by simp [beginsD, hl, d1, tokA, oneOr], rfl⟩
    have nb : ∀ (x : UInt8) (n : Int), n = x.toNat → ((c.toNat : Int) == n) = true → c = x := fun x n e h => by
      have : (c.toNat : Int) = n := by simpa using h
      exact UInt8.toNat_inj.1 (by omega)
    have nn : ∀ (x : UInt8) (n : Int), n = x.toNat → ((c.toNat : Int) == n) = false → c ≠ x := fun x n e h hc => by
      subst hc; rw [e] at h; simp at h
    have k1 := numD_le true r
    have k2 := numD_le false r
    have k3 := wordD_le r
    cases d2 : ((c.toNat : Int) == 45)
    case true =>
      have e2 := nb 45 45 rfl d2
      simp -implicitDefEqProofs only [go_sem, d1, d2, g2, g4, upd_same, cutL_tf, Option.isSome_none, Option.isSome_some, Int.reduceToNat, List.drop_succ_cons, List.drop_zero, List.length_cons]
      refine ⟨by omega, by omega, by omega, ?_⟩
      refine (number_ok true r (by omega) _ (he.sub (by repeat (first | exact .refl _ | refine Sub.put ?_ (by assumption) _)))).pthen ?_
      cases d3 : ((numD true r).1 == 0)
      · have e3 : (numD true r).1 ≠ 0 := by simpa using d3
        have w1 : IntKind.i64.wrap (((numD true r).2 : Int) + 1) = (((numD true r).2 + 1 : Nat) : Int) := by rw [wr64 _ (by omega)]; omega
        simp -implicitDefEqProofs only [go_sem, d1, d2, d3, g2, g4, upd_same, w1]
        exact .mk _ (.refl _) (by repeat (first | exact .refl _ | refine Sub.put ?_ (by assumption) _)) ⟨by subst e2; simp [beginsD, hl, d1, e3, tokA, oneOr], rfl⟩
      · have e3 : (numD true r).1 = 0 := by simpa using d3
        simp -implicitDefEqProofs only [go_sem, d1, d2, d3, g2, g4, upd_same]
        exact .mk _ (.refl _) (by repeat (first | exact .refl _ | refine Sub.put ?_ (by assumption) _)) ⟨by subst e2; simp [beginsD, hl, d1, e3, tokA, oneOr], rfl⟩
    have e2 := nn 45 45 rfl d2
    cases d4 : ((c.toNat : Int) == 64)
    case true =>
      have e4 := nb 64 64 rfl d4
      simp -implicitDefEqProofs only [go_sem, d1, d2, d4, g2, g4, upd_same, cutL_tf, Option.isSome_none, Option.isSome_some, Int.reduceToNat, List.drop_succ_cons, List.drop_zero, List.length_cons]
      refine ⟨by omega, by omega, by omega, ?_⟩
      refine (number_ok false r (by omega) _ (he.sub (by repeat (first | exact .refl _ | refine Sub.put ?_ (by assumption) _)))).pthen ?_
      cases d3 : (((numD false r).2 : Int) == 0)
      case true =>
        have e3 : (numD false r).2 = 0 := by simpa using d3
        simp -implicitDefEqProofs only [go_sem, d1, d2, d4, d3, g2, g4, upd_same]
        exact .mk _ (.refl _) (by repeat (first | exact .refl _ | refine Sub.put ?_ (by assumption) _)) ⟨by subst e4; simp [beginsD, hl, d1, e3, tokA, oneOr], rfl⟩
      have e3 : (numD false r).2 ≠ 0 := by simpa using d3
      cases d5 : decide (1099511627776 < (numD false r).1)
      · have e5 : ¬ 1099511627776 < (numD false r).1 := of_decide_eq_false d5
        have w1 : IntKind.i64.wrap (((numD false r).2 : Int) + 1) = (((numD false r).2 + 1 : Nat) : Int) := by rw [wr64 _ (by omega)]; omega
        simp -implicitDefEqProofs only [go_sem, d1, d2, d4, d3, d5, g2, g4, upd_same, w1]
        exact .mk _ (.refl _) (by repeat (first | exact .refl _ | refine Sub.put ?_ (by assumption) _)) ⟨by subst e4; simp [beginsD, hl, d1, e3, e5, tokA, oneOr], rfl⟩
      · have e5 : 1099511627776 < (numD false r).1 := of_decide_eq_true d5
        simp -implicitDefEqProofs only [go_sem, d1, d2, d4, d3, d5, g2, g4, upd_same]
        exact .mk _ (.refl _) (by repeat (first | exact .refl _ | refine Sub.put ?_ (by assumption) _)) ⟨by subst e4; simp [beginsD, hl, d1, e3, e5, tokA, oneOr], rfl⟩
    have e4 := nn 64 64 rfl d4
    cases d6 : ((c.toNat : Int) == 35)
    case true =>
      have e6 := nb 35 35 rfl d6
      simp -implicitDefEqProofs only [go_sem, d1, d2, d4, d6, g2, g4, upd_same, cutL_tf, Option.isSome_none, Option.isSome_some, Int.reduceToNat, List.drop_succ_cons, List.drop_zero, List.length_cons]
      refine ⟨by omega, by omega, by omega, ?_⟩
      refine (name_ok' r _).pthen ?_
      cases d3 : (wordD r == [])
      · have e3 : wordD r ≠ [] := by simpa using d3
        have w1 : IntKind.i64.wrap (((wordD r).length : Int) + 1) = (((wordD r).length + 1 : Nat) : Int) := by rw [wr64 _ (by omega)]; omega
        simp -implicitDefEqProofs only [go_sem, d1, d2, d4, d6, d3, g2, g4, upd_same, w1]
        exact .mk _ (.refl _) (by repeat (first | exact .refl _ | refine Sub.put ?_ (by assumption) _)) ⟨by subst e6; simp [beginsD, hl, d1, e3, tokA, oneOr], rfl⟩
      · have e3 : wordD r = [] := by simpa using d3
        simp -implicitDefEqProofs only [go_sem, d1, d2, d4, d6, d3, g2, g4, upd_same]
        exact .mk _ (.refl _) (by repeat (first | exact .refl _ | refine Sub.put ?_ (by assumption) _)) ⟨by subst e6; simp [beginsD, hl, d1, e3, tokA, oneOr], rfl⟩
    have e6 := nn 35 35 rfl d6
    cases d7 : ((c.toNat : Int) == 34)
    case true =>
      have e7 := nb 34 34 rfl d7
      simp -implicitDefEqProofs only [go_sem, d1, d2, d4, d6, d7, g2, g4, upd_same]
      refine (text_ok (c :: r) (by simp; omega) _).pthen ?_
      simp -implicitDefEqProofs only [go_sem, d1, d2, d4, d6, d7, g2, g4, upd_same]
      exact .mk _ (.refl _) (by repeat (first | exact .refl _ | refine Sub.put ?_ (by assumption) _)) ⟨by subst e7; simp [beginsD, hl, d1, tokA, oneOr], rfl⟩
    have e7 := nn 34 34 rfl d7
    simp -implicitDefEqProofs only [go_sem, d1, d2, d4, d6, d7, g2, g4, upd_same]
    refine (index_ok marks c _).pthen ?_
    cases d8 : markB c
    · simp -implicitDefEqProofs only [go_sem, d1, d2, d4, d6, d7, g2, g4, upd_same, idx_marks, d8]
      exact .mk _ (.refl _) (by repeat (first | exact .refl _ | refine Sub.put ?_ (by assumption) _)) ⟨by simp [beginsD, hl, d1, e2, e4, e6, e7, d8, tokA, oneOr], rfl⟩
    · simp -implicitDefEqProofs only [go_sem, d1, d2, d4, d6, d7, g2, g4, upd_same, idx_marks, d8]
      refine .calls noHeap [0, 1, 2, 3, 4, 5, 6] (fun _ _ h => by cases h) (by kernel_rfl) rfl ?_
      simp -implicitDefEqProofs only [go_sem, d1, d2, d4, d6, d7, d8, g2, g4, upd_same, cutL_ft, Option.isSome_none, Option.isSome_some, Int.reduceToNat, List.take_succ_cons, List.take_zero, List.length_cons]
      refine ⟨by omega, by omega, by omega, (fun _ _ h => (by cases h)), (fun _ _ h => (by cases h)), ?_⟩
      exact .mk _ (.refl _) (by repeat (first | exact .refl _ | refine Sub.put ?_ (by assumption) _)) ⟨by simp [beginsD, hl, d1, e2, e4, e6, e7, d8, tokA, oneOr], rfl⟩
  · cases lb : decide ((c.toNat : Int) ≤ 122)
    · have hl : ltr c = false := by simp only [ltr, lb, Bool.and_false]
      simp -implicitDefEqProofs only [go_sem, byteA, List.getElem_cons_zero, la, lb]
      have hlt : (c :: r).headD 0 = c := rfl
      refine (isDigit_ok c _).pthen ?_
      cases d1 : dgt c
      case true =>
        simp -implicitDefEqProofs only [go_sem, d1, g2, g4, upd_same]
        refine (number_ok false (c :: r) (by simp; omega) _ (he.sub (by repeat (first | exact .refl _ | refine Sub.put ?_ (by assumption) _)))).pthen ?_
        simp -implicitDefEqProofs only [go_sem, d1, g2, g4, upd_same]
        exact .mk _ (.refl _) (by repeat (first | exact .refl _ | refine Sub.put ?_ (by assumption) _)) ⟨by simp [beginsD, hl, d1, tokA, oneOr], rfl⟩
      have nb : ∀ (x : UInt8) (n : Int), n = x.toNat → ((c.toNat : Int) == n) = true → c = x := fun x n e h => by
        have : (c.toNat : Int) = n := by simpa using h
        exact UInt8.toNat_inj.1 (by omega)
      have nn : ∀ (x : UInt8) (n : Int), n = x.toNat → ((c.toNat : Int) == n) = false → c ≠ x := fun x n e h hc => by
        subst hc; rw [e] at h; simp at h
      have k1 := numD_le true r
      have k2 := numD_le false r
      have k3 := wordD_le r
      cases d2 : ((c.toNat : Int) == 45)
      case true =>
        have e2 := nb 45 45 rfl d2
        simp -implicitDefEqProofs only [go_sem, d1, d2, g2, g4, upd_same, cutL_tf, Option.isSome_none, Option.isSome_some, Int.reduceToNat, List.drop_succ_cons, List.drop_zero, List.length_cons]
        refine ⟨by omega, by omega, by omega, ?_⟩
        refine (number_ok true r (by omega) _ (he.sub (by repeat (first | exact .refl _ | refine Sub.put ?_ (by assumption) _)))).pthen ?_
        cases d3 : ((numD true r).1 == 0)
        · have e3 : (numD true r).1 ≠ 0 := by simpa using d3
          have w1 : IntKind.i64.wrap (((numD true r).2 : Int) + 1) = (((numD true r).2 + 1 : Nat) : Int) := by rw [wr64 _ (by omega)]; omega
          simp -implicitDefEqProofs only [go_sem, d1, d2, d3, g2, g4, upd_same, w1]
          exact .mk _ (.refl _) (by repeat (first | exact .refl _ | refine Sub.put ?_ (by assumption) _)) ⟨by subst e2; simp [beginsD, hl, d1, e3, tokA, oneOr], rfl⟩
        · have e3 : (numD true r).1 = 0 := by simpa using d3
          simp -implicitDefEqProofs only [go_sem, d1, d2, d3, g2, g4, upd_same]
          exact .mk _ (.refl _) (by repeat (first | exact .refl _ | refine Sub.put ?_ (by assumption) _)) ⟨by subst e2; simp [beginsD, hl, d1, e3, tokA, oneOr], rfl⟩
      have e2 := nn 45 45 rfl d2
      cases d4 : ((c.toNat : Int) == 64)
      case true =>
        have e4 := nb 64 64 rfl d4
        simp -implicitDefEqProofs only [go_sem, d1, d2, d4, g2, g4, upd_same, cutL_tf, Option.isSome_none, Option.isSome_some, Int.reduceToNat, List.drop_succ_cons, List.drop_zero, List.length_cons]
        refine ⟨by omega, by omega, by omega, ?_⟩
        refine (number_ok false r (by omega) _ (he.sub (by repeat (first | exact .refl _ | refine Sub.put ?_ (by assumption) _)))).pthen ?_
        cases d3 : (((numD false r).2 : Int) == 0)
        case true =>
          have e3 : (numD false r).2 = 0 := by simpa using d3
          simp -implicitDefEqProofs only [go_sem, d1, d2, d4, d3, g2, g4, upd_same]
          exact .mk _ (.refl _) (by repeat (first | exact .refl _ | refine Sub.put ?_ (by assumption) _)) ⟨by subst e4; simp [beginsD, hl, d1, e3, tokA, oneOr], rfl⟩
        have e3 : (numD false r).2 ≠ 0 := by simpa using d3
        cases d5 : decide (1099511627776 < (numD false r).1)
        · have e5 : ¬ 1099511627776 < (numD false r).1 := of_decide_eq_false d5
          have w1 : IntKind.i64.wrap (((numD false r).2 : Int) + 1) = (((numD false r).2 + 1 : Nat) : Int) := by rw [wr64 _ (by omega)]; omega
          simp -implicitDefEqProofs only [go_sem, d1, d2, d4, d3, d5, g2, g4, upd_same, w1]
          exact .mk _ (.refl _) (by repeat (first | exact .refl _ | refine Sub.put ?_ (by assumption) _)) ⟨by subst e4; simp [beginsD, hl, d1, e3, e5, tokA, oneOr], rfl⟩
        · have e5 : 1099511627776 < (numD false r).1 := of_decide_eq_true d5
          simp -implicitDefEqProofs only [go_sem, d1, d2, d4, d3, d5, g2, g4, upd_same]
          exact .mk _ (.refl _) (by repeat (first | exact .refl _ | refine Sub.put ?_ (by assumption) _)) ⟨by subst e4; simp [beginsD, hl, d1, e3, e5, tokA, oneOr], rfl⟩
      have e4 := nn 64 64 rfl d4
      cases d6 : ((c.toNat : Int) == 35)
      case true =>
        have e6 := nb 35 35 rfl d6
        simp -implicitDefEqProofs only [go_sem, d1, d2, d4, d6, g2, g4, upd_same, cutL_tf, Option.isSome_none, Option.isSome_some, Int.reduceToNat, List.drop_succ_cons, List.drop_zero, List.length_cons]
        refine ⟨by omega, by omega, by omega, ?_⟩
        refine (name_ok' r _).pthen ?_
        cases d3 : (wordD r == [])
        · have e3 : wordD r ≠ [] := by simpa using d3
          have w1 : IntKind.i64.wrap (((wordD r).length : Int) + 1) = (((wordD r).length + 1 : Nat) : Int) := by rw [wr64 _ (by omega)]; omega
          simp -implicitDefEqProofs only [go_sem, d1, d2, d4, d6, d3, g2, g4, upd_same, w1]
          exact .mk _ (.refl _) (by repeat (first | exact .refl _ | refine Sub.put ?_ (by assumption) _)) ⟨by subst e6; simp [beginsD, hl, d1, e3, tokA, oneOr], rfl⟩
        · have e3 : wordD r = [] := by simpa using d3
          simp -implicitDefEqProofs only [go_sem, d1, d2, d4, d6, d3, g2, g4, upd_same]
          exact .mk _ (.refl _) (by repeat (first | exact .refl _ | refine Sub.put ?_ (by assumption) _)) ⟨by subst e6; simp [beginsD, hl, d1, e3, tokA, oneOr], rfl⟩
      have e6 := nn 35 35 rfl d6
      cases d7 : ((c.toNat : Int) == 34)
      case true =>
        have e7 := nb 34 34 rfl d7
        simp -implicitDefEqProofs only [go_sem, d1, d2, d4, d6, d7, g2, g4, upd_same]
        refine (text_ok (c :: r) (by simp; omega) _).pthen ?_
        simp -implicitDefEqProofs only [go_sem, d1, d2, d4, d6, d7, g2, g4, upd_same]
        exact .mk _ (.refl _) (by repeat (first | exact .refl _ | refine Sub.put ?_ (by assumption) _)) ⟨by subst e7; simp [beginsD, hl, d1, tokA, oneOr], rfl⟩
      have e7 := nn 34 34 rfl d7
      simp -implicitDefEqProofs only [go_sem, d1, d2, d4, d6, d7, g2, g4, upd_same]
      refine (index_ok marks c _).pthen ?_
      cases d8 : markB c
      · simp -implicitDefEqProofs only [go_sem, d1, d2, d4, d6, d7, g2, g4, upd_same, idx_marks, d8]
        exact .mk _ (.refl _) (by repeat (first | exact .refl _ | refine Sub.put ?_ (by assumption) _)) ⟨by simp [beginsD, hl, d1, e2, e4, e6, e7, d8, tokA, oneOr], rfl⟩
      · simp -implicitDefEqProofs only [go_sem, d1, d2, d4, d6, d7, g2, g4, upd_same, idx_marks, d8]
        refine .calls noHeap [0, 1, 2, 3, 4, 5, 6] (fun _ _ h => by cases h) (by kernel_rfl) rfl ?_
        simp -implicitDefEqProofs only [go_sem, d1, d2, d4, d6, d7, d8, g2, g4, upd_same, cutL_ft, Option.isSome_none, Option.isSome_some, Int.reduceToNat, List.take_succ_cons, List.take_zero, List.length_cons]
        refine ⟨by omega, by omega, by omega, (fun _ _ h => (by cases h)), (fun _ _ h => (by cases h)), ?_⟩
        exact .mk _ (.refl _) (by repeat (first | exact .refl _ | refine Sub.put ?_ (by assumption) _)) ⟨by simp [beginsD, hl, d1, e2, e4, e6, e7, d8, tokA, oneOr], rfl⟩
    · have hl : ltr c = true := by simp only [ltr, la, lb]; rfl
      simp -implicitDefEqProofs only [go_sem, byteA, List.getElem_cons_zero, la, lb]
      refine (name_ok' _ _).pthen ?_
      simp -implicitDefEqProofs only [go_sem, g2, g4, upd_same]
      exact .mk _ (.refl _) (by repeat (first | exact .refl _ | refine Sub.put ?_ (by assumption) _)) ⟨by simp [beginsD, hl, tokA, oneOr], rfl⟩
end Go.Proofs.YtnhelgnmadbpgaaGreatDoor

set_option linter.unusedSimpArgs false
set_option linter.unusedVariables false
namespace Go.Proofs.YtnhelgnmadbpgaaGreatDoor
open Go Go.Ab Go.Bf
theorem u97z : (U 144).sz = 4 := by simp only [go_sem]
theorem u97b : (U 144).bytes = 40 := by simp only [go_sem]
theorem tokA_sized (l : List TokD) : Sized 4 (l.map tokA) := fun z hz => by
  obtain ⟨c, _, rfl⟩ := List.mem_map.1 hz; rfl
def lexR : Lexed → AV
  | .bad e a => .tup [.sl [] .no, .v (.int .i64 e), .v (.int .i64 a)]
  | .ok l => .tup [.sl (l.map tokA) .no, .v (.int .i64 0), .v (.int .i64 0)]
def AtBlanks (s : Txt) (h : Heap) (m : Nat) (ρ : Env) (h' : Heap) : Prop :=
  ∃ (i f : Nat) (y : AV) (out : List TokD) (id : Nat), Acc U 144 h h' y (out.map tokA) ∧ out.length ≤ i ∧ i ≤ s.length ∧ m = s.length - i ∧ s.length < f + i ∧ s.length ≤ 4096 ∧ h id = none ∧ (∃ c0 c1 c2 c3, h' id = some (.obj [c0, c1, c2, c3] 144)) ∧ lexF f (s.drop i) i out = lexD s ∧ lk ρ 0 = some (.s s) ∧ lk ρ 5 = some y ∧ lk ρ 6 = some (.ptr id 0) ∧ lk ρ 7 = some (.v (.int .i64 i))
theorem all_tok_ok (s : Txt) (h : Heap) (he : ErrT h) : FnOK Tryz.prog 81 [.s s] h fun r h' => r = lexR (lexD s) ∧ h' = h := by
  refine FnOK.of_wp hU Tryz.func81 rfl (by kernel_rfl) 52 rfl [.tmp 2, .tmp 3, .tmp 4] rfl (Nat.le_of_ble_eq_true rfl) ?_
  refine .one hU hm ?_
  simp -implicitDefEqProofs only [go_sem]
  refine WP.scope2 hU hm 0 (AtBlanks s h) rfl ?_ ?_
  · rintro m ρ h' ⟨i, f, y, out, id, hy, hoi, hi, rfl, hf, hs, hid, ⟨c0, c1, c2, c3, hob⟩, hl, r0, r5, r6, r7⟩
    refine .vc hU hm ?_
    cases d1 : ((i : Int) == (s.length : Int))
    case true =>
      have e1 : i = s.length := by have : (i : Int) = s.length := by simpa using d1
                                   omega
      subst e1
      obtain ⟨f, rfl⟩ : ∃ g, f = g + 1 := ⟨f - 1, by omega⟩
      rw [List.drop_length] at hl
      simp only [lexF] at hl
      simp -implicitDefEqProofs only [go_sem, r0, r5, r6, r7, d1]
      refine hy.app (zs := [tokA ⟨7, s.length, 0, []⟩]) (by rw [u97z]; decide) (by rw [u97b]; decide) (fun k hk => hk) (by rw [u97z]; exact tokA_sized out) (by rw [u97z]; exact tokA_sized [⟨7, s.length, 0, []⟩]) (by rw [u97b]; simp; omega) fun y' h2 hy' hk2 => ?_
      simp -implicitDefEqProofs only [go_sem, r0, r5, r6, r7]
      obtain ⟨q, rfl⟩ := hy'.row
      refine .mk _ (weak_tup3 _ _ _ _) hy'.1 ⟨?_, rfl⟩
      rw [← hl, lexR, List.map_append]; rfl
    have e1 : i ≠ s.length := by intro e; rw [e] at d1; simp at d1
    have hlt : i < s.length := by omega
    obtain ⟨f, rfl⟩ : ∃ g, f = g + 1 := ⟨f - 1, by omega⟩
    have hdr : s.drop i = s[i] :: s.drop (i + 1) := List.drop_eq_getElem_cons hlt
    have w1 : IntKind.i64.wrap ((i : Int) + 1) = ((i + 1 : Nat) : Int) := by rw [wr64 _ (by omega)]; omega
    have hl2 := hl
    rw [hdr] at hl2
    simp only [lexF] at hl2
    rw [← hdr] at hl2
    have blank : blankB s[i] = true → ∃ m', m' < s.length - i ∧ True := fun _ => ⟨s.length - (i + 1), by omega, trivial⟩
    cases d2 : ((s[i].toNat : Int) == 32)
    case true =>
      have hb : blankB s[i] = true := by simp only [blankB, d2, Bool.true_or]
      rw [if_pos hb] at hl2
      simp -implicitDefEqProofs only [go_sem, r0, r5, r6, r7, d1]
      refine .at i hlt ?_
      simp -implicitDefEqProofs only [go_sem, r0, r5, r6, r7, d1, byteA, d2, w1]
      refine ⟨s.length - (i + 1), by omega, i + 1, f, y, out, id, hy, by omega, by omega, rfl, by omega, hs, hid, ⟨c0, c1, c2, c3, hob⟩, hl2, ?_, ?_, ?_, ?_⟩ <;> simp -implicitDefEqProofs only [go_sem, r0, r5, r6, r7, w1]
    cases d3 : ((s[i].toNat : Int) == 10)
    case true =>
      have hb : blankB s[i] = true := by simp only [blankB, d3, Bool.or_true]
      rw [if_pos hb] at hl2
      simp -implicitDefEqProofs only [go_sem, r0, r5, r6, r7, d1]
      refine .at i hlt ?_
      simp -implicitDefEqProofs only [go_sem, r0, r5, r6, r7, d1, byteA, d2]
      refine .at i hlt ?_
      simp -implicitDefEqProofs only [go_sem, r0, r5, r6, r7, d1, byteA, d2, d3, w1]
      refine ⟨s.length - (i + 1), by omega, i + 1, f, y, out, id, hy, by omega, by omega, rfl, by omega, hs, hid, ⟨c0, c1, c2, c3, hob⟩, hl2, ?_, ?_, ?_, ?_⟩ <;> simp -implicitDefEqProofs only [go_sem, r0, r5, r6, r7, w1]
    have hb : ¬ blankB s[i] = true := by simp only [blankB, d2, d3]; decide
    rw [if_neg hb] at hl2
    have hne : s.drop i ≠ [] := fun e => by have := congrArg List.length e; simp at this; omega
    have hle := beginsD_le (s.drop i) hne
    have hdl : (s.drop i).length = s.length - i := by simp
    have hbo := fun hh eh => begins_ok (s.drop i) hne (by omega) hh eh
    obtain ⟨t, n, etn⟩ : ∃ t n, beginsD (s.drop i) = (t, n) := ⟨_, _, rfl⟩
    rw [etn] at hbo hl2 hle
    simp only [tokA] at hbo hl2 hle
    simp -implicitDefEqProofs only [go_sem, r0, r5, r6, r7, d1]
    refine .at i hlt ?_
    simp -implicitDefEqProofs only [go_sem, r0, r5, r6, r7, d1, byteA, d2]
    refine .at i hlt ?_
    simp -implicitDefEqProofs only [go_sem, r0, r5, r6, r7, d1, byteA, d2, d3, cutL_tf, Option.isSome_none, Option.isSome_some, Int.toNat_natCast]
    refine ⟨by omega, by omega, by omega, ?_⟩
    refine (hbo _ (he.sub hy.1)).pthen ?_
    cases d4 : ((n : Int) == 0)
    case true =>
      have e4 : n = 0 := by have : (n : Int) = 0 := by simpa using d4
                            omega
      rw [if_pos e4] at hl2
      simp -implicitDefEqProofs only [go_sem, r0, r5, r6, r7, hob, d4]
      refine .mk _ (weak_tup3 _ _ _ _) (hy.1.put hid _) ⟨?_, rfl⟩
      rw [← hl2]; rfl
    have e4 : n ≠ 0 := by intro e; rw [e] at d4; simp at d4
    rw [if_neg e4] at hl2
    have w2 : IntKind.i64.wrap ((i : Int) + (n : Int)) = ((i + n : Nat) : Int) := by rw [wr64 _ (by omega)]; omega
    simp -implicitDefEqProofs only [go_sem, r0, r5, r6, r7, hob, d4]
    refine (hy.put hid hob _).app (zs := [tokA { t with pos := i }]) (by rw [u97z]; decide) (by rw [u97b]; decide) (fun k hk => hk) (by rw [u97z]; exact tokA_sized out) (by rw [u97z]; exact tokA_sized [{ t with pos := i }]) (by rw [u97b]; simp; omega) fun y' h2 hy' hk2 => ?_
    simp -implicitDefEqProofs only [go_sem, r0, r5, r6, r7, w2]
    refine ⟨s.length - (i + n), by omega, i + n, f, y', out ++ [{ t with pos := i }], id, by simpa using hy', by simp; omega, by omega, rfl, by omega, hs, hid, ⟨_, _, _, _, hk2 _ _ _ (upd_same ..)⟩, ?_, ?_, ?_, ?_, ?_⟩
    · rw [List.drop_drop] at hl2; exact hl2
    all_goals simp -implicitDefEqProofs only [go_sem, r0, r5, r6, r7, w2]
  · intro nx
    cases d0 : decide (4096 < (s.length : Int))
    case true =>
      have e0 : s.length > 4096 := by have := of_decide_eq_true d0; omega
      refine .one hU hm ?_
      simp -implicitDefEqProofs only [go_sem, d0]
      exact .mk (.tup [.sl [] .no, .v (.int .i64 6), .v (.int .i64 4096)]) (weak_strip (.tup [.sl [] .full, .v (.int .i64 6), .v (.int .i64 4096)])) (.refl _) ⟨by rw [lexD, if_pos e0]; rfl, rfl⟩
    have e0 : ¬ s.length > 4096 := by have := of_decide_eq_false d0; omega
    refine .one hU hm ?_
    simp -implicitDefEqProofs only [go_sem, d0]
    refine .one hU hm ?_
    simp -implicitDefEqProofs only [go_sem]
    refine .one hU hm ?_
    simp -implicitDefEqProofs only [go_sem]
    intro id hid
    simp -implicitDefEqProofs only [go_sem]
    refine .one hU hm ?_
    simp -implicitDefEqProofs only [go_sem]
    refine .one hU hm ?_
    simp -implicitDefEqProofs only [go_sem]
    refine nx (s.length - 0) _ _ ⟨0, s.length + 1, _, [], id, .full (.upd_new hid), by simp, by omega, rfl, by omega, by omega, hid, ⟨_, _, _, _, upd_same ..⟩, by rw [lexD, if_neg e0]; rfl, ?_, ?_, ?_, ?_⟩ <;> simp -implicitDefEqProofs only [go_sem]
end Go.Proofs.YtnhelgnmadbpgaaGreatDoor

set_option linter.unusedSimpArgs false
set_option linter.unusedVariables false
namespace Go.Proofs.YtnhelgnmadbpgaaGreatDoor
open Go Go.Ab Go.Bf
def PO (st : PS) : Blk := .obj [.sl (st.ts.map tokA) .no, .v (.int .i64 st.pos), .v (.int .i64 st.rules), .v (.int .i64 st.bad), .v (.int .i64 st.place)] 141
def PC (f : FuncId) (args : List AV) (st : PS) (R : AV) (st' : PS) : Prop := ∀ (h : Heap) (id : Nat), h id = some (PO st) → FnOK Tryz.prog f (.ptr id 0 :: args) h fun r h' => r = R ∧ h' = upd h id (some (PO st'))
theorem PC.go {f : FuncId} {args : List AV} {st st' : PS} {R : AV} (hc : PC f args st R st') {h : Heap} {id : Nat} {Q : AV → Heap → Prop} (hid : h id = some (PO st)) (k : Q R (upd h id (some (PO st')))) : FnOK Tryz.prog f (.ptr id 0 :: args) h Q :=
  (hc h id hid).mono fun r h' ⟨e1, e2⟩ => by subst e1; subst e2; exact k
theorem upd_self {h : Heap} {id : Nat} {b : Option Blk} (e : h id = b) : upd h id b = h := by
  funext j
  by_cases hj : j = id
  · subst hj; rw [upd_same, e]
  · rw [upd_other _ _ hj]
theorem wrong_ok (st : PS) (e p : Int) : PC 85 [.v (.int .i64 e), .v (.int .i64 p)] st (.tup []) (wrongD st e p) := fun h id hid => by
  refine FnOK.body hU hm Tryz.func85 rfl (by kernel_rfl) 19 rfl [] rfl (Nat.le_of_ble_eq_true rfl) (fun hwf => ?_)
  have g := hid
  unfold PO at g
  cases d1 : (st.bad == 0)
  · have e1 : st.bad ≠ 0 := by simpa using d1
    simp -implicitDefEqProofs only [go_sem, g, d1]
    exact .mk _ (.refl _) (.refl _) ⟨rfl, by rw [wrongD, if_neg e1, upd_self hid]⟩
  · have e1 : st.bad = 0 := by simpa using d1
    simp -implicitDefEqProofs only [go_sem, g, d1]
    exact .mk _ (.refl _) (.refl _) ⟨rfl, by rw [wrongD, if_pos e1]; rfl⟩
theorem here_ok (st : PS) (hw : WfP st) : PC 83 [] st (tokA (hereD st)) st := fun h id hid => by
  refine FnOK.body hU hm Tryz.func83 rfl (by kernel_rfl) 13 rfl [.cell 2 144] rfl (Nat.le_of_ble_eq_true rfl) (fun hwf => ?_)
  have g := hid
  unfold PO at g
  simp -implicitDefEqProofs only [go_sem]
  intro i2 hi2
  have n2 : id ≠ i2 := fun e => by rw [e, hi2] at hid; cases hid
  simp -implicitDefEqProofs only [go_sem, g, upd_ne, n2]
  refine ⟨.of (by kernel_rfl), ?_⟩
  refine .at st.pos (by simpa using hw.1) (by rw [List.getElem_map]; rfl) ?_
  simp -implicitDefEqProofs only [go_sem, g, upd_ne, n2, List.getElem_map, tokA]
  refine .mk _ (.refl _) (.upd_new hi2) ⟨by rw [hereD_eq hw.1]; rfl, (upd_self hid).symm⟩
theorem stuck_ok (st : PS) (hw : WfP st) : PC 84 [] st (.tup []) (stuckD st) := fun h id hid => by
  refine FnOK.body hU hm Tryz.func84 rfl (by kernel_rfl) 7 rfl [] rfl (Nat.le_of_ble_eq_true rfl) (fun hwf => ?_)
  simp -implicitDefEqProofs only [go_sem]
  refine (here_ok st hw).go hid ?_
  rw [upd_self hid]
  simp -implicitDefEqProofs only [go_sem, tokA]
  refine (wrong_ok st 5 _).go hid ?_
  simp -implicitDefEqProofs only [go_sem]
  exact .mk _ (.refl _) (.refl _) ⟨rfl, rfl⟩
theorem limit_ok (st : PS) (b : Bool) (hw : WfP st) : PC 160 [.v (.bool b)] st (.tup []) (limitD st b) := fun h id hid => by
  refine FnOK.body hU hm Tryz.func160 rfl (by kernel_rfl) 10 rfl [] rfl (Nat.le_of_ble_eq_true rfl) (fun hwf => ?_)
  cases b
  · simp -implicitDefEqProofs only [go_sem]
    exact .mk _ (.refl _) (.refl _) ⟨rfl, (upd_self hid).symm⟩
  simp -implicitDefEqProofs only [go_sem]
  refine (here_ok st hw).go hid ?_
  rw [upd_self hid]
  simp -implicitDefEqProofs only [go_sem, tokA]
  refine (wrong_ok st 6 _).go hid ?_
  simp -implicitDefEqProofs only [go_sem]
  exact .mk _ (.refl _) (.refl _) ⟨rfl, rfl⟩
theorem is_ok (st : PS) (s : Txt) (hw : WfP st) : PC 161 [.s s] st (.v (.bool (isD st s))) st := fun h id hid => by
  refine FnOK.body hU hm Tryz.func161 rfl (by kernel_rfl) 29 rfl [.tmp 4] rfl (Nat.le_of_ble_eq_true rfl) (fun hwf => ?_)
  have g := hid
  unfold PO at g
  simp -implicitDefEqProofs only [go_sem]
  refine (here_ok st hw).go hid ?_
  rw [upd_self hid]
  simp -implicitDefEqProofs only [go_sem, tokA]
  intro i2 hi2
  have n2 : id ≠ i2 := fun e => by rw [e, hi2] at hid; cases hid
  cases d1 : (st.bad == 0) <;> cases d2 : ((hereD st).s == s) <;> cases d3 : ((hereD st).kind == 1) <;> cases d4 : ((hereD st).kind == 6)
  all_goals
    simp -implicitDefEqProofs only [go_sem, g, upd_ne, n2, d1, d2, d3, d4]
    exact .mk _ (.refl _) (.upd_new hi2) ⟨by simp only [isD, d1, d2, d3, d4]; rfl, rfl⟩
theorem take_ok (st : PS) (s : Txt) (hw : WfP st) : PC 158 [.s s] st (.v (.bool (takeD st s).1)) (takeD st s).2 := fun h id hid => by
  refine FnOK.body hU hm Tryz.func158 rfl (by kernel_rfl) 18 rfl [.tmp 4] rfl (Nat.le_of_ble_eq_true rfl) (fun hwf => ?_)
  have g := hid
  unfold PO at g
  simp -implicitDefEqProofs only [go_sem]
  refine (is_ok st s hw).go hid ?_
  rw [upd_self hid]
  cases d1 : isD st s
  · have e : takeD st s = (false, st) := by simp [takeD, d1]
    simp -implicitDefEqProofs only [go_sem, d1]
    exact .mk _ (.refl _) (.refl _) ⟨by rw [e]; rfl, by rw [e, upd_self hid]⟩
  · have e : takeD st s = (true, nextD st) := by simp [takeD, d1]
    have w1 : IntKind.i64.wrap ((st.pos : Int) + 1) = ((st.pos + 1 : Nat) : Int) := by have := hw.1; have := hw.2.2; rw [wr64 _ (by omega)]; omega
    simp -implicitDefEqProofs only [go_sem, g, d1, w1]
    exact .mk _ (.refl _) (.refl _) ⟨by rw [e]; rfl, by rw [e]; rfl⟩
theorem must_ok (st : PS) (s : Txt) (hw : WfP st) : PC 119 [.s s] st (.tup []) (mustD st s) := fun h id hid => by
  refine FnOK.body hU hm Tryz.func119 rfl (by kernel_rfl) 10 rfl [] rfl (Nat.le_of_ble_eq_true rfl) (fun hwf => ?_)
  simp -implicitDefEqProofs only [go_sem]
  refine (take_ok st s hw).go hid ?_
  cases d1 : isD st s
  · have e : takeD st s = (false, st) := by simp [takeD, d1]
    rw [e, upd_self hid]
    simp -implicitDefEqProofs only [go_sem]
    refine (stuck_ok st hw).go hid ?_
    simp -implicitDefEqProofs only [go_sem]
    exact .mk _ (.refl _) (.refl _) ⟨rfl, by simp [mustD, d1]⟩
  · have e : takeD st s = (true, nextD st) := by simp [takeD, d1]
    rw [e]
    simp -implicitDefEqProofs only [go_sem]
    exact .mk _ (.refl _) (.refl _) ⟨rfl, by simp [mustD, d1]⟩
theorem pname_ok (st : PS) (hw : WfP st) : PC 117 [] st (.s (nameP st).1) (nameP st).2 := fun h id hid => by
  refine FnOK.body hU hm Tryz.func117 rfl (by kernel_rfl) 25 rfl [.tmp 2] rfl (Nat.le_of_ble_eq_true rfl) (fun hwf => ?_)
  have g := hid
  unfold PO at g
  have w1 : IntKind.i64.wrap ((st.pos : Int) + 1) = ((st.pos + 1 : Nat) : Int) := by have := hw.1; have := hw.2.2; rw [wr64 _ (by omega)]; omega
  simp -implicitDefEqProofs only [go_sem]
  refine (here_ok st hw).go hid ?_
  rw [upd_self hid]
  simp -implicitDefEqProofs only [go_sem, tokA]
  intro i2 hi2
  have n2 : id ≠ i2 := fun e => by rw [e, hi2] at hid; cases hid
  cases d1 : ((hereD st).kind != 1)
  case true =>
    have e1 : (hereD st).kind ≠ 1 := by simpa using d1
    have en : nameP st = ([], stuckD st) := by simp [nameP, e1]
    simp -implicitDefEqProofs only [go_sem, g, upd_ne, n2, d1]
    have hid2 : upd h i2 (some (.obj [.v (.int .i64 (hereD st).kind), .v (.int .i64 (hereD st).pos), .v (.int .i64 (hereD st).n), .s (hereD st).s] 144)) id = some (PO st) := by rw [upd_other _ _ n2]; exact hid
    refine (stuck_ok st hw).go hid2 ?_
    have hb : (stuckD st).bad ≠ 0 := by
      unfold stuckD wrongD; split
      · show (5 : Int) ≠ 0; decide
      · assumption
    have d2 : ((stuckD st).bad != 0) = true := by simpa using hb
    simp -implicitDefEqProofs only [go_sem, PO, d2]
    exact .mk _ (.refl _) (Sub.both (.upd_new hi2) _ _) ⟨by rw [en]; rfl, by rw [en]; try rfl⟩
  have e1 : (hereD st).kind = 1 := by simpa using d1
  cases d2 : (st.bad != 0)
  case true =>
    have e2 : st.bad ≠ 0 := by simpa using d2
    have en : nameP st = ([], st) := by simp [nameP, e1, e2]
    simp -implicitDefEqProofs only [go_sem, g, upd_ne, n2, d1, d2]
    exact .mk _ (.refl _) (.upd_new hi2) ⟨by rw [en]; rfl, by rw [en]; exact (upd_self hid).symm⟩
  have e2 : st.bad = 0 := by simpa using d2
  have en : nameP st = ((hereD st).s, nextD st) := by simp [nameP, e1, e2]
  simp -implicitDefEqProofs only [go_sem, g, upd_ne, n2, n2.symm, d1, d2, w1]
  exact .mk _ (.refl _) (Sub.both (.upd_new hi2) _ _) ⟨by rw [en]; rfl, by rw [en]; try rfl⟩
theorem PC.run {f : FuncId} {args : List AV} {st st' : PS} {R : AV} (hc : PC f args st R st') {G : Heap} {id : Nat} {Q : AV → Heap → Prop} (k : Q R (upd G id (some (PO st')))) : FnOK Tryz.prog f (.ptr id 0 :: args) (upd G id (some (PO st))) Q :=
  hc.go (upd_same ..) (by rw [upd_upd]; exact k)
theorem PC.of {f : FuncId} {args : List AV} {st st' : PS} {R : AV} (hk : ∀ (G : Heap) (id : Nat), FnOK Tryz.prog f (.ptr id 0 :: args) (upd G id (some (PO st))) fun r h' => r = R ∧ h' = upd G id (some (PO st'))) : PC f args st R st' := fun h id hid => by
  have := hk h id
  rw [upd_self hid] at this
  exact this
theorem upd_comm {α : Type} (f : Nat → α) {i j : Nat} (x y : α) (h : i ≠ j) : upd (upd f i x) j y = upd (upd f j y) i x := by
  funext k
  by_cases hi : k = i
  · subst hi; rw [upd_other _ _ h, upd_same, upd_same]
  · by_cases hj : k = j
    · subst hj; rw [upd_same, upd_other _ _ hi, upd_same]
    · rw [upd_other _ _ hj, upd_other _ _ hi, upd_other _ _ hi, upd_other _ _ hj]
theorem idxT_lt {s : Txt} : ∀ {ws : List Txt} {i : Nat}, idxT s ws = some i → i < ws.length
  | w :: r, i, h => by
    simp only [idxT] at h
    split at h
    · cases h; simp
    · cases hr : idxT s r with
      | none => rw [hr] at h; cases h
      | some j => rw [hr] at h; cases h; have := idxT_lt hr; simp; omega
theorem idxT_at {s : Txt} : ∀ {ws : List Txt} (i : Nat) (hi : i < ws.length), (∀ j (hj : j < ws.length), j < i → ws[j] ≠ s) → ws[i] = s → idxT s ws = some i
  | w :: r, 0, _, _, h => by simp only [List.getElem_cons_zero] at h; simp [idxT, h]
  | w :: r, i + 1, hi, hb, h => by
    have h0 := hb 0 (by simp) (by omega)
    simp only [List.getElem_cons_zero] at h0
    simp only [idxT, if_neg h0]
    rw [idxT_at i (by simpa using hi) (fun j hj hlt => by have := hb (j + 1) (by simpa using hj) (by omega); simpa using this) (by simpa using h)]
    rfl
theorem idxT_none {s : Txt} : ∀ {ws : List Txt}, (∀ j (hj : j < ws.length), ws[j] ≠ s) → idxT s ws = none
  | [], _ => rfl
  | w :: r, hb => by
    have h0 := hb 0 (by simp)
    simp only [List.getElem_cons_zero] at h0
    simp only [idxT, if_neg h0]
    rw [idxT_none (fun j hj => by have := hb (j + 1) (by simpa using hj); simpa using this)]
    rfl
def idxI (o : Option Nat) : Int := match o with
  | some i => i
  | none => -1
theorem indexT_ok (ws : List Txt) (q : Perm) (s : Txt) (hl : ws.length ≤ 1000) (h : Heap) : FnOK Tryz.prog 157 [.sl (ws.map AV.s) q, .s s] h fun r h' => r = .v (.int .i64 (idxI (idxT s ws))) ∧ h' = h := by
  refine FnOK.body hU hm Tryz.func157 rfl (by kernel_rfl) 19 rfl [.tmp 4] rfl (Nat.le_of_ble_eq_true rfl) (fun hwf => ?_)
  simp -implicitDefEqProofs only [go_sem, List.length_map]
  refine .intro (fun m ρ h' => h' = h ∧ ∃ i : Nat, i ≤ ws.length ∧ m = ws.length - i ∧ (∀ j (hj : j < ws.length), j < i → ws[j] ≠ s) ∧ lk ρ 0 = some (.sl (ws.map AV.s) q) ∧ lk ρ 1 = some (.s s) ∧ lk ρ 7 = some (.v (.int .i64 ws.length)) ∧ lk ρ 8 = some (.v (.int .i64 i))) ws.length ?_ ?_
  · refine ⟨rfl, 0, by omega, rfl, fun j _ hj => (by omega), ?_, ?_, ?_, ?_⟩ <;> simp -implicitDefEqProofs only [go_sem]
  · rintro m ρ h' ⟨rfl, i, hi, rfl, hc, r0, r1, r7, r8⟩
    simp -implicitDefEqProofs only [go_sem, r0, r1, r7, r8]
    refine .intro (fun e => ?_) (fun e => ?_)
    · have hlt : i < ws.length := Int.ofNat_lt.1 (of_decide_eq_true e)
      have w1 : IntKind.i64.wrap ((i : Int) + 1) = ((i + 1 : Nat) : Int) := by rw [wr64 _ (by omega)]; omega
      simp -implicitDefEqProofs only [go_sem, r0, r1, r7, r8]
      refine .at i (by simpa using hlt) (by rw [List.getElem_map]; rfl) ?_
      cases d1 : (s == ws[i])
      · have e1 : ws[i] ≠ s := by intro e; rw [e] at d1; simp at d1
        simp -implicitDefEqProofs only [go_sem, r0, r1, r7, r8, List.getElem_map, d1, w1]
        refine ⟨_, ?_, rfl, i + 1, by omega, rfl, fun j hj hji => ?_, ?_, ?_, ?_, ?_⟩
        · omega
        · by_cases e : j = i
          · subst e; exact e1
          · exact hc j hj (by omega)
        all_goals simp -implicitDefEqProofs only [go_sem, r0, r1, r7, r8, w1]
      · have e1 : ws[i] = s := by have : s = ws[i] := by simpa using d1
                                  exact this.symm
        simp -implicitDefEqProofs only [go_sem, r0, r1, r7, r8, List.getElem_map, d1]
        exact .same (.refl _) ⟨by rw [idxT_at i hlt hc e1]; rfl, rfl⟩
    · have hge : i = ws.length := by have := of_decide_eq_false e; omega
      subst hge
      simp -implicitDefEqProofs only [go_sem, r0, r1, r7, r8]
      exact .same (.refl _) ⟨by rw [idxT_none fun j hj => hc j hj hj]; rfl, rfl⟩
theorem among_ok (st : PS) (ws : List Txt) (q : Perm) (hl : ws.length ≤ 1000) (hw : WfP st) : PC 116 [.sl (ws.map AV.s) q] st (.v (.int .i64 (amongD st ws).1)) (amongD st ws).2 := .of fun G id => by
  refine FnOK.body hU hm Tryz.func116 rfl (by kernel_rfl) 28 rfl [.tmp 4] rfl (Nat.le_of_ble_eq_true rfl) (fun hwf => ?_)
  simp -implicitDefEqProofs only [go_sem]
  refine (here_ok st hw).run ?_
  simp -implicitDefEqProofs only [go_sem, tokA]
  intro i2 hi2
  have n2 := ne_upd hi2
  have hG2 : G i2 = none := by rw [upd_other _ _ n2] at hi2; exact hi2
  have c2 : ∀ (f : Heap) (x y : Option Blk), upd (upd f id x) i2 y = upd (upd f i2 y) id x := fun f x y => upd_comm f x y n2.symm
  cases d1 : ((hereD st).kind == 1)
  · have e1 : (hereD st).kind ≠ 1 := by simpa using d1
    have en : amongD st ws = (0, stuckD st) := by unfold amongD; split <;> simp [e1]
    simp -implicitDefEqProofs only [go_sem, c2, upd_ne, n2, d1]
    refine (stuck_ok st hw).run ?_
    simp -implicitDefEqProofs only [go_sem]
    exact .mk _ (.refl _) (Sub.both (.upd_new hG2) _ _) ⟨by rw [en]; rfl, by rw [en]⟩
  have e1 : (hereD st).kind = 1 := by simpa using d1
  simp -implicitDefEqProofs only [go_sem, c2, upd_ne, n2, d1]
  refine (indexT_ok ws q _ hl _).pthen ?_
  cases ei : idxT (hereD st).s ws with
  | none =>
    have en : amongD st ws = (0, stuckD st) := by simp [amongD, ei]
    have dm : decide ((0 : Int) ≤ -1) = false := by decide
    simp -implicitDefEqProofs only [go_sem, idxI, dm]
    refine (stuck_ok st hw).run ?_
    simp -implicitDefEqProofs only [go_sem]
    exact .mk _ (.refl _) (Sub.both (.upd_new hG2) _ _) ⟨by rw [en]; rfl, by rw [en]⟩
  | some i =>
    have hil := idxT_lt ei
    have d2 : decide (0 ≤ (i : Int)) = true := by simp
    have w1 : IntKind.i64.wrap ((i : Int) + 1) = ((i : Int) + 1) := by rw [wr64 _ (by omega)]
    simp -implicitDefEqProofs only [go_sem, idxI, d2, upd_ne, n2]
    refine (take_ok st _ hw).run ?_
    cases d3 : (st.bad == 0)
    · have e3 : st.bad ≠ 0 := by simpa using d3
      have et : takeD st (hereD st).s = (false, st) := by simp [takeD, isD, d3]
      have en : amongD st ws = (0, stuckD st) := by simp [amongD, ei, e3]
      rw [et]
      simp -implicitDefEqProofs only [go_sem]
      refine (stuck_ok st hw).run ?_
      simp -implicitDefEqProofs only [go_sem]
      exact .mk _ (.refl _) (Sub.both (.upd_new hG2) _ _) ⟨by rw [en]; rfl, by rw [en]⟩
    · have e3 : st.bad = 0 := by simpa using d3
      have et : takeD st (hereD st).s = (true, nextD st) := by simp [takeD, isD, e3, e1]
      have en : amongD st ws = ((i : Int) + 1, nextD st) := by simp [amongD, ei, e3, e1]
      rw [et]
      simp -implicitDefEqProofs only [go_sem, w1]
      exact .mk _ (.refl _) (Sub.both (.upd_new hG2) _ _) ⟨by rw [en]; rfl, by rw [en]⟩
end Go.Proofs.YtnhelgnmadbpgaaGreatDoor

set_option linter.unusedSimpArgs false
set_option linter.unusedVariables false
namespace Go.Proofs.YtnhelgnmadbpgaaGreatDoor
open Go Go.Ab Go.Bf
theorem attr_p (st : PS) (hw : WfP st) : PC 208 [] st (attrA (attrP st).1) (attrP st).2 := .of fun G id => by
  have h1 := ah_among catWs hw
  have h2 := ah_must [46] h1.1
  have h3 := ah_name h2.1
  refine FnOK.body hU hm Tryz.func208 rfl (by kernel_rfl) 17 rfl [.cell 2 93] rfl (Nat.le_of_ble_eq_true rfl) (fun hwf => ?_)
  simp -implicitDefEqProofs only [go_sem]
  intro i2 hi2
  have n2 := ne_upd hi2
  have hG2 : G i2 = none := by rw [upd_other _ _ n2] at hi2; exact hi2
  have c2 : ∀ (f : Heap) (x y : Option Blk), upd (upd f id x) i2 y = upd (upd f i2 y) id x := fun f x y => upd_comm f x y n2.symm
  simp -implicitDefEqProofs only [go_sem, c2]
  intro i3 hi3
  have n3 := ne_upd hi3
  have hi3' := hi3
  rw [upd_other _ _ n3] at hi3'
  have n32 := ne_upd hi3'
  have hG3 : G i3 = none := by rw [upd_other _ _ n32] at hi3'; exact hi3'
  have c3 : ∀ (f : Heap) (x y : Option Blk), upd (upd f id x) i3 y = upd (upd f i3 y) id x := fun f x y => upd_comm f x y n3.symm
  have c23 : ∀ (f : Heap) (x y : Option Blk), upd (upd f i3 x) i2 y = upd (upd f i2 y) i3 x := fun f x y => upd_comm f x y n32
  have m32 : ¬ i3 = i2 := n32
  have m23 : ¬ i2 = i3 := n32.symm
  simp -implicitDefEqProofs only [go_sem, c2, c3, c23]
  refine (among_ok st catWs .full (by decide) hw).run ?_
  simp -implicitDefEqProofs only [go_sem, c2, c3, c23, upd_ne, n2, n3, m32, m23]
  refine (must_ok _ [46] h1.1).run ?_
  simp -implicitDefEqProofs only [go_sem, c2, c3, c23, upd_ne, n2, n3, m32, m23]
  refine (pname_ok _ h2.1).run ?_
  simp -implicitDefEqProofs only [go_sem, c2, c3, c23, upd_ne, n2, n3, m32, m23]
  refine (take_ok _ [33] h3.1).run ?_
  simp -implicitDefEqProofs only [go_sem, c2, c3, c23, upd_ne, n2, n3, m32, m23]
  exact .mk _ (.refl _) (Sub.both (by repeat (first | exact .refl _ | refine Sub.put ?_ (by assumption) _)) _ _) ⟨rfl, rfl⟩
set_option maxRecDepth 20000 in
theorem value_p (st : PS) (hw : WfP st) : PC 209 [] st (valA (valueP st).1) (valueP st).2 := .of fun G id => by
  refine FnOK.body hU hm Tryz.func209 rfl (by kernel_rfl) 56 rfl [.cell 2 38] rfl (Nat.le_of_ble_eq_true rfl) (fun hwf => ?_)
  have w1 : IntKind.i64.wrap ((st.pos : Int) + 1) = ((st.pos + 1 : Nat) : Int) := by have := hw.1; have := hw.2.2; rw [wr64 _ (by omega)]; omega
  simp -implicitDefEqProofs only [go_sem]
  intro i2 hi2
  have n2 := ne_upd hi2
  have hG2 : G i2 = none := by rw [upd_other _ _ n2] at hi2; exact hi2
  have c2 : ∀ (f : Heap) (x y : Option Blk), upd (upd f id x) i2 y = upd (upd f i2 y) id x := fun f x y => upd_comm f x y n2.symm
  simp -implicitDefEqProofs only [go_sem, c2]
  refine (here_ok st hw).run ?_
  simp -implicitDefEqProofs only [go_sem, tokA]
  intro i3 hi3
  have n3 := ne_upd hi3
  have hi3' := hi3
  rw [upd_other _ _ n3] at hi3'
  have n32 := ne_upd hi3'
  have hG3 : G i3 = none := by rw [upd_other _ _ n32] at hi3'; exact hi3'
  have c3 : ∀ (f : Heap) (x y : Option Blk), upd (upd f id x) i3 y = upd (upd f i3 y) id x := fun f x y => upd_comm f x y n3.symm
  have c23 : ∀ (f : Heap) (x y : Option Blk), upd (upd f i3 x) i2 y = upd (upd f i2 y) i3 x := fun f x y => upd_comm f x y n32
  have m32 : ¬ i3 = i2 := n32
  have m23 : ¬ i2 = i3 := n32.symm
  simp -implicitDefEqProofs only [go_sem, c2, c3, c23, upd_ne, n2, n3, m32, m23]
  intro i4 hi4
  have n4 := ne_upd hi4
  have hi4' := hi4
  rw [upd_other _ _ n4] at hi4'
  have n43 := ne_upd hi4'
  have hi4'' := hi4'
  rw [upd_other _ _ n43] at hi4''
  have n42 := ne_upd hi4''
  have hG4 : G i4 = none := by rw [upd_other _ _ n42] at hi4''; exact hi4''
  have c4 : ∀ (f : Heap) (x y : Option Blk), upd (upd f id x) i4 y = upd (upd f i4 y) id x := fun f x y => upd_comm f x y n4.symm
  have c24 : ∀ (f : Heap) (x y : Option Blk), upd (upd f i4 x) i2 y = upd (upd f i2 y) i4 x := fun f x y => upd_comm f x y n42
  have c34 : ∀ (f : Heap) (x y : Option Blk), upd (upd f i4 x) i3 y = upd (upd f i3 y) i4 x := fun f x y => upd_comm f x y n43
  have m42 : ¬ i4 = i2 := n42
  have m24 : ¬ i2 = i4 := n42.symm
  have m43 : ¬ i4 = i3 := n43
  have m34 : ¬ i3 = i4 := n43.symm
  cases k2 : ((hereD st).kind == 2)
  case true =>
    have e2 : (hereD st).kind = 2 := by simpa using k2
    have ev : valueV st = (⟨2, (hereD st).n, (hereD st).s⟩, st) := by simp [valueV, e2]
    cases kb : (st.bad != 0)
    · have eb : st.bad = 0 := by simpa using kb
      have en : valueP st = (⟨2, (hereD st).n, (hereD st).s⟩, nextD st) := by simp [valueP, ev, eb]
      simp -implicitDefEqProofs only [go_sem, c2, c3, c4, c23, c24, c34, upd_ne, n2, n3, n4, m32, m23, m42, m24, m43, m34, k2, PO, kb, w1]
      exact .mk (h' := upd G id (some (PO (valueP st).2))) _ (.refl _) (by rw [en]; exact Sub.both (by repeat (first | exact .refl _ | refine Sub.put ?_ (by assumption) _)) _ _) ⟨by rw [en]; rfl, rfl⟩
    · have eb : st.bad ≠ 0 := by simpa using kb
      have en : valueP st = (⟨0, 0, []⟩, st) := by simp [valueP, ev, eb]
      simp -implicitDefEqProofs only [go_sem, c2, c3, c4, c23, c24, c34, upd_ne, n2, n3, n4, m32, m23, m42, m24, m43, m34, k2, PO, kb, w1]
      exact .mk (h' := upd G id (some (PO (valueP st).2))) _ (.refl _) (by rw [en]; exact Sub.both (by repeat (first | exact .refl _ | refine Sub.put ?_ (by assumption) _)) _ _) ⟨by rw [en]; rfl, rfl⟩
  have e2 : (hereD st).kind ≠ 2 := by simpa using k2
  cases k3 : ((hereD st).kind == 3)
  case true =>
    have e3 : (hereD st).kind = 3 := by simpa using k3
    have ev : valueV st = (⟨4, (hereD st).n, (hereD st).s⟩, st) := by simp [valueV, e3]
    cases kb : (st.bad != 0)
    · have eb : st.bad = 0 := by simpa using kb
      have en : valueP st = (⟨4, (hereD st).n, (hereD st).s⟩, nextD st) := by simp [valueP, ev, eb]
      simp -implicitDefEqProofs only [go_sem, c2, c3, c4, c23, c24, c34, upd_ne, n2, n3, n4, m32, m23, m42, m24, m43, m34, k2, k3, PO, kb, w1]
      exact .mk (h' := upd G id (some (PO (valueP st).2))) _ (.refl _) (by rw [en]; exact Sub.both (by repeat (first | exact .refl _ | refine Sub.put ?_ (by assumption) _)) _ _) ⟨by rw [en]; rfl, rfl⟩
    · have eb : st.bad ≠ 0 := by simpa using kb
      have en : valueP st = (⟨0, 0, []⟩, st) := by simp [valueP, ev, eb]
      simp -implicitDefEqProofs only [go_sem, c2, c3, c4, c23, c24, c34, upd_ne, n2, n3, n4, m32, m23, m42, m24, m43, m34, k2, k3, PO, kb, w1]
      exact .mk (h' := upd G id (some (PO (valueP st).2))) _ (.refl _) (by rw [en]; exact Sub.both (by repeat (first | exact .refl _ | refine Sub.put ?_ (by assumption) _)) _ _) ⟨by rw [en]; rfl, rfl⟩
  have e3 : (hereD st).kind ≠ 3 := by simpa using k3
  cases k4 : ((hereD st).kind == 4)
  case true =>
    have e4 : (hereD st).kind = 4 := by simpa using k4
    have ev : valueV st = (⟨5, (hereD st).n, (hereD st).s⟩, st) := by simp [valueV, e4]
    cases kb : (st.bad != 0)
    · have eb : st.bad = 0 := by simpa using kb
      have en : valueP st = (⟨5, (hereD st).n, (hereD st).s⟩, nextD st) := by simp [valueP, ev, eb]
      simp -implicitDefEqProofs only [go_sem, c2, c3, c4, c23, c24, c34, upd_ne, n2, n3, n4, m32, m23, m42, m24, m43, m34, k2, k3, k4, PO, kb, w1]
      exact .mk (h' := upd G id (some (PO (valueP st).2))) _ (.refl _) (by rw [en]; exact Sub.both (by repeat (first | exact .refl _ | refine Sub.put ?_ (by assumption) _)) _ _) ⟨by rw [en]; rfl, rfl⟩
    · have eb : st.bad ≠ 0 := by simpa using kb
      have en : valueP st = (⟨0, 0, []⟩, st) := by simp [valueP, ev, eb]
      simp -implicitDefEqProofs only [go_sem, c2, c3, c4, c23, c24, c34, upd_ne, n2, n3, n4, m32, m23, m42, m24, m43, m34, k2, k3, k4, PO, kb, w1]
      exact .mk (h' := upd G id (some (PO (valueP st).2))) _ (.refl _) (by rw [en]; exact Sub.both (by repeat (first | exact .refl _ | refine Sub.put ?_ (by assumption) _)) _ _) ⟨by rw [en]; rfl, rfl⟩
  have e4 : (hereD st).kind ≠ 4 := by simpa using k4
  cases k5 : ((hereD st).kind == 5)
  case true =>
    have e5 : (hereD st).kind = 5 := by simpa using k5
    have ev : valueV st = (⟨3, (hereD st).n, (hereD st).s⟩, st) := by simp [valueV, e5]
    cases kb : (st.bad != 0)
    · have eb : st.bad = 0 := by simpa using kb
      have en : valueP st = (⟨3, (hereD st).n, (hereD st).s⟩, nextD st) := by simp [valueP, ev, eb]
      simp -implicitDefEqProofs only [go_sem, c2, c3, c4, c23, c24, c34, upd_ne, n2, n3, n4, m32, m23, m42, m24, m43, m34, k2, k3, k4, k5, PO, kb, w1]
      exact .mk (h' := upd G id (some (PO (valueP st).2))) _ (.refl _) (by rw [en]; exact Sub.both (by repeat (first | exact .refl _ | refine Sub.put ?_ (by assumption) _)) _ _) ⟨by rw [en]; rfl, rfl⟩
    · have eb : st.bad ≠ 0 := by simpa using kb
      have en : valueP st = (⟨0, 0, []⟩, st) := by simp [valueP, ev, eb]
      simp -implicitDefEqProofs only [go_sem, c2, c3, c4, c23, c24, c34, upd_ne, n2, n3, n4, m32, m23, m42, m24, m43, m34, k2, k3, k4, k5, PO, kb, w1]
      exact .mk (h' := upd G id (some (PO (valueP st).2))) _ (.refl _) (by rw [en]; exact Sub.both (by repeat (first | exact .refl _ | refine Sub.put ?_ (by assumption) _)) _ _) ⟨by rw [en]; rfl, rfl⟩
  have e5 : (hereD st).kind ≠ 5 := by simpa using k5
  simp -implicitDefEqProofs only [go_sem, c2, c3, c4, c23, c24, c34, upd_ne, n2, n3, n4, m32, m23, m42, m24, m43, m34, k2, k3, k4, k5]
  refine (is_ok st trueT hw).run ?_
  cases kt : isD st trueT
  case true =>
    have ev : valueV st = (⟨1, 1, []⟩, st) := by simp [valueV, e2, e3, e4, e5, kt]
    cases kb : (st.bad != 0)
    · have eb : st.bad = 0 := by simpa using kb
      have en : valueP st = (⟨1, 1, []⟩, nextD st) := by simp [valueP, ev, eb]
      simp -implicitDefEqProofs only [go_sem, c2, c3, c4, c23, c24, c34, upd_ne, n2, n3, n4, m32, m23, m42, m24, m43, m34, k2, k3, k4, k5, kt, PO, kb, w1]
      exact .mk (h' := upd G id (some (PO (valueP st).2))) _ (.refl _) (by rw [en]; exact Sub.both (by repeat (first | exact .refl _ | refine Sub.put ?_ (by assumption) _)) _ _) ⟨by rw [en]; rfl, rfl⟩
    · have eb : st.bad ≠ 0 := by simpa using kb
      have en : valueP st = (⟨0, 0, []⟩, st) := by simp [valueP, ev, eb]
      simp -implicitDefEqProofs only [go_sem, c2, c3, c4, c23, c24, c34, upd_ne, n2, n3, n4, m32, m23, m42, m24, m43, m34, k2, k3, k4, k5, kt, PO, kb, w1]
      exact .mk (h' := upd G id (some (PO (valueP st).2))) _ (.refl _) (by rw [en]; exact Sub.both (by repeat (first | exact .refl _ | refine Sub.put ?_ (by assumption) _)) _ _) ⟨by rw [en]; rfl, rfl⟩
  simp -implicitDefEqProofs only [go_sem, c2, c3, c4, c23, c24, c34, upd_ne, n2, n3, n4, m32, m23, m42, m24, m43, m34, k2, k3, k4, k5, kt]
  refine (is_ok st falseT hw).run ?_
  cases kf : isD st falseT
  case true =>
    have ev : valueV st = (⟨1, 0, []⟩, st) := by simp [valueV, e2, e3, e4, e5, kt, kf]
    cases kb : (st.bad != 0)
    · have eb : st.bad = 0 := by simpa using kb
      have en : valueP st = (⟨1, 0, []⟩, nextD st) := by simp [valueP, ev, eb]
      simp -implicitDefEqProofs only [go_sem, c2, c3, c4, c23, c24, c34, upd_ne, n2, n3, n4, m32, m23, m42, m24, m43, m34, k2, k3, k4, k5, kt, kf, PO, kb, w1]
      exact .mk (h' := upd G id (some (PO (valueP st).2))) _ (.refl _) (by rw [en]; exact Sub.both (by repeat (first | exact .refl _ | refine Sub.put ?_ (by assumption) _)) _ _) ⟨by rw [en]; rfl, rfl⟩
    · have eb : st.bad ≠ 0 := by simpa using kb
      have en : valueP st = (⟨0, 0, []⟩, st) := by simp [valueP, ev, eb]
      simp -implicitDefEqProofs only [go_sem, c2, c3, c4, c23, c24, c34, upd_ne, n2, n3, n4, m32, m23, m42, m24, m43, m34, k2, k3, k4, k5, kt, kf, PO, kb, w1]
      exact .mk (h' := upd G id (some (PO (valueP st).2))) _ (.refl _) (by rw [en]; exact Sub.both (by repeat (first | exact .refl _ | refine Sub.put ?_ (by assumption) _)) _ _) ⟨by rw [en]; rfl, rfl⟩
  have ev : valueV st = (⟨0, (hereD st).n, (hereD st).s⟩, stuckD st) := by simp [valueV, e2, e3, e4, e5, kt, kf]
  have en : valueP st = (⟨0, 0, []⟩, stuckD st) := by simp [valueP, ev, stuck_bad]
  have kb : ((stuckD st).bad != 0) = true := by simpa using stuck_bad st
  simp -implicitDefEqProofs only [go_sem, c2, c3, c4, c23, c24, c34, upd_ne, n2, n3, n4, m32, m23, m42, m24, m43, m34, k2, k3, k4, k5, kt, kf]
  refine (stuck_ok st hw).run ?_
  simp -implicitDefEqProofs only [go_sem, c2, c3, c4, c23, c24, c34, upd_ne, n2, n3, n4, m32, m23, m42, m24, m43, m34, k2, k3, k4, k5, kt, kf, PO, kb]
  exact .mk (h' := upd G id (some (PO (valueP st).2))) _ (.refl _) (by rw [en]; exact Sub.both (by repeat (first | exact .refl _ | refine Sub.put ?_ (by assumption) _)) _ _) ⟨by rw [en]; rfl, rfl⟩
end Go.Proofs.YtnhelgnmadbpgaaGreatDoor

set_option linter.unusedSimpArgs false
set_option linter.unusedVariables false
namespace Go.Proofs.YtnhelgnmadbpgaaGreatDoor
open Go Go.Ab Go.Bf
def opsT : List Txt := [[61], [60], [62]]
theorem opP_at {st : PS} (i : Nat) (hi : i < opsT.length) (hb : ∀ j (hj : j < opsT.length), j < i → isD st opsT[j] = false) (h : isD st opsT[i] = true) : opP st = ((i : Int) + 1, nextD st) := by
  have h3 : i < 3 := hi
  rcases (by omega : i = 0 ∨ i = 1 ∨ i = 2) with rfl | rfl | rfl
  · simp only [opP, show isD st [61] = true from h, if_true]; rfl
  · simp only [opP, show isD st [61] = false from hb 0 (by decide) (by decide), show isD st [60] = true from h, if_true]; rfl
  · simp only [opP, show isD st [61] = false from hb 0 (by decide) (by decide), show isD st [60] = false from hb 1 (by decide) (by decide), show isD st [62] = true from h, if_true]; rfl
theorem opP_none {st : PS} (hb : ∀ j (hj : j < opsT.length), isD st opsT[j] = false) : opP st = (0, stuckD st) := by
  simp only [opP, show isD st [61] = false from hb 0 (by decide), show isD st [60] = false from hb 1 (by decide), show isD st [62] = false from hb 2 (by decide)]; rfl
set_option maxRecDepth 20000 in
theorem match_p (st : PS) (hw : WfP st) : PC 199 [] st (matchA (matchP st).1) (matchP st).2 := .of fun G id => by
  have h1 := ah_attr hw
  obtain ⟨a, st1, e1⟩ : ∃ a st1, attrP st = (a, st1) := ⟨_, _, rfl⟩
  have hat := attr_p st hw
  rw [e1] at h1 hat
  simp only at h1 hat
  refine FnOK.body hU hm Tryz.func199 rfl (by kernel_rfl) 32 rfl [.cell 2 214] rfl (Nat.le_of_ble_eq_true rfl) (fun hwf => ?_)
  simp -implicitDefEqProofs only [go_sem]
  intro i2 hi2
  have n2 := ne_upd hi2
  have hG2 : G i2 = none := by rw [upd_other _ _ n2] at hi2; exact hi2
  have c2 : ∀ (f : Heap) (x y : Option Blk), upd (upd f id x) i2 y = upd (upd f i2 y) id x := fun f x y => upd_comm f x y n2.symm
  simp -implicitDefEqProofs only [go_sem, c2]
  refine hat.run ?_
  simp -implicitDefEqProofs only [go_sem, attrA]
  intro i3 hi3
  have n3 := ne_upd hi3
  have hi3' := hi3
  rw [upd_other _ _ n3] at hi3'
  have n32 := ne_upd hi3'
  have hG3 : G i3 = none := by rw [upd_other _ _ n32] at hi3'; exact hi3'
  have c3 : ∀ (f : Heap) (x y : Option Blk), upd (upd f id x) i3 y = upd (upd f i3 y) id x := fun f x y => upd_comm f x y n3.symm
  have c23 : ∀ (f : Heap) (x y : Option Blk), upd (upd f i3 x) i2 y = upd (upd f i2 y) i3 x := fun f x y => upd_comm f x y n32
  have m32 : ¬ i3 = i2 := n32
  have m23 : ¬ i2 = i3 := n32.symm
  simp -implicitDefEqProofs only [go_sem, c2, c3, c23, upd_ne, n2, n3, m32, m23, attrA]
  refine .intro (fun m ρ H => H = upd (upd (upd G i2 (some (.obj [.v (.int .i64 0), .s [], .v (.bool false), .v (.int .i64 0), .v (.int .i64 0), .v (.int .i64 0), .s []] 214))) i3 (some (.obj [.v (.int .i64 a.cat), .s a.name, .v (.bool a.must), .v (.int .i64 0), .v (.int .i64 0), .v (.int .i64 0), .s []] 214))) id (some (PO st1)) ∧
    ∃ i : Nat, i ≤ 3 ∧ m = 3 - i ∧ (∀ j (hj : j < opsT.length), j < i → isD st1 opsT[j] = false) ∧ lk ρ 0 = some (.ptr id 0) ∧ lk ρ 2 = some (.ptr i2 0) ∧ lk ρ 3 = some (.ptr i3 0) ∧ lk ρ 9 = some (.sl (opsT.map AV.s) .full) ∧ lk ρ 10 = some (.v (.int .i64 3)) ∧ lk ρ 11 = some (.v (.int .i64 i))) 3 ?_ ?_
  · refine ⟨rfl, 0, by omega, rfl, fun j _ hj => (by omega), ?_, ?_, ?_, ?_, ?_, ?_⟩ <;> simp -implicitDefEqProofs only [go_sem] <;> rfl
  · rintro m ρ H ⟨rfl, i, hi, rfl, hb, r0, r2, r3, r9, r10, r11⟩
    simp -implicitDefEqProofs only [go_sem, r0, r2, r3, r9, r10, r11]
    refine .intro (fun e => ?_) (fun e => ?_)
    · have hlt : i < 3 := by have := of_decide_eq_true e; omega
      have hlo : i < opsT.length := hlt
      have w1 : IntKind.i64.wrap ((i : Int) + 1) = ((i + 1 : Nat) : Int) := by rw [wr64 _ (by omega)]; omega
      have w2 : IntKind.i64.wrap (1 + (i : Int)) = ((i : Int) + 1) := by rw [wr64 _ (by omega)]; omega
      simp -implicitDefEqProofs only [go_sem, r0, r2, r3, r9, r10, r11]
      refine .at i (by simpa using hlo) (by rw [List.getElem_map]; rfl) ?_
      simp -implicitDefEqProofs only [go_sem, r0, r2, r3, r9, r10, r11, List.getElem_map]
      refine (take_ok st1 opsT[i] h1.1).run ?_
      cases d1 : isD st1 opsT[i]
      · have et : takeD st1 opsT[i] = (false, st1) := by simp [takeD, d1]
        rw [et]
        simp -implicitDefEqProofs only [go_sem, r0, r2, r3, r9, r10, r11, w1]
        refine ⟨_, ?_, rfl, i + 1, by omega, rfl, fun j hj hji => ?_, ?_, ?_, ?_, ?_, ?_, ?_⟩
        · omega
        · by_cases e : j = i
          · subst e; exact d1
          · exact hb j hj (by omega)
        all_goals simp -implicitDefEqProofs only [go_sem, r0, r2, r3, r9, r10, r11, w1]
      · have et : takeD st1 opsT[i] = (true, nextD st1) := by simp [takeD, d1]
        have eo := opP_at i hlo hb d1
        have h2 : Ah st1 (nextD st1) := ah_next h1.1 (isD_kind d1)
        have en : matchP st = (⟨a, (i : Int) + 1, (valueP (nextD st1)).1⟩, (valueP (nextD st1)).2) := by simp [matchP, e1, eo]
        have d2 : (((i : Int) + 1) == 0) = false := by simp; omega
        rw [et]
        simp -implicitDefEqProofs only [go_sem, c2, c3, c23, upd_ne, n2, n3, m32, m23, attrA, r0, r2, r3, r9, r10, r11, w2, d2]
        refine (value_p (nextD st1) h2.1).run ?_
        simp -implicitDefEqProofs only [go_sem, c2, c3, c23, upd_ne, n2, n3, m32, m23, attrA, valA, r0, r2, r3]
        exact .mk (h' := upd G id (some (PO (matchP st).2))) _ (.refl _) (by rw [en]; exact Sub.both (by repeat (first | exact .refl _ | refine Sub.put ?_ (by assumption) _)) _ _) ⟨by rw [en]; rfl, rfl⟩
    · have hge : i = 3 := by have := of_decide_eq_false e; omega
      subst hge
      have eo := opP_none fun j hj => hb j hj hj
      have h2 : Ah st1 (stuckD st1) := ah_stuck h1.1
      have en : matchP st = (⟨a, 0, (valueP (stuckD st1)).1⟩, (valueP (stuckD st1)).2) := by simp [matchP, e1, eo]
      simp -implicitDefEqProofs only [go_sem, r0, r2, r3, r9, r10, r11, c2, c3, c23, upd_ne, n2, n3, m32, m23, attrA]
      refine (stuck_ok st1 h1.1).run ?_
      simp -implicitDefEqProofs only [go_sem, c2, c3, c23, upd_ne, n2, n3, m32, m23, attrA, r0, r2, r3, r9, r10, r11]
      refine (value_p (stuckD st1) h2.1).run ?_
      simp -implicitDefEqProofs only [go_sem, c2, c3, c23, upd_ne, n2, n3, m32, m23, attrA, valA, r0, r2, r3]
      exact .mk (h' := upd G id (some (PO (matchP st).2))) _ (.refl _) (by rw [en]; exact Sub.both (by repeat (first | exact .refl _ | refine Sub.put ?_ (by assumption) _)) _ _) ⟨by rw [en]; rfl, rfl⟩
end Go.Proofs.YtnhelgnmadbpgaaGreatDoor

set_option linter.unusedSimpArgs false
set_option linter.unusedVariables false
namespace Go.Proofs.YtnhelgnmadbpgaaGreatDoor
open Go Go.Ab Go.Bf
theorem uz_m : (U 214).sz = 7 := by simp only [go_sem]
theorem ub_m : (U 214).bytes = 72 := by simp only [go_sem]
theorem sized_m (l : List MatchD) : Sized 7 (l.map matchA) := fun z hz => by
  obtain ⟨c, _, rfl⟩ := List.mem_map.1 hz; rfl
theorem uz_a : (U 215).sz = 1 := by simp only [go_sem]
theorem ub_a : (U 215).bytes = 24 := by simp only [go_sem]
theorem sized_a (l : List (List MatchD)) : Sized 1 (l.map allA) := fun z hz => by
  obtain ⟨c, _, rfl⟩ := List.mem_map.1 hz; rfl
theorem uz_y : (U 211).sz = 1 := by simp only [go_sem]
theorem ub_y : (U 211).bytes = 24 := by simp only [go_sem]
theorem sized_y (l : List (List (List MatchD))) : Sized 1 (l.map anyA) := fun z hz => by
  obtain ⟨c, _, rfl⟩ := List.mem_map.1 hz; rfl
theorem all_p (st : PS) (hw : WfP st) : PC 187 [] st (allA (allP st).1) (allP st).2 := .of fun G id => by
  have h1 := ah_match hw
  have hm1 := match_p st hw
  obtain ⟨x0, st1, e1⟩ : ∃ x0 st1, matchP st = (x0, st1) := ⟨_, _, rfl⟩
  have ep : manyF matchP [44] 8 st.ts.length st1 [x0] = allP st := by simp only [allP, e1]
  rw [e1] at h1 hm1
  simp only [matchA] at h1 hm1
  refine FnOK.body hU hm Tryz.func187 rfl (by kernel_rfl) 20 rfl [.tmp 2] rfl (Nat.le_of_ble_eq_true rfl) (fun hwf => ?_)
  simp -implicitDefEqProofs only [go_sem]
  refine hm1.run ?_
  simp -implicitDefEqProofs only [go_sem]
  have hB : upd G id none id = none := upd_same ..
  refine .intro (fun m ρ H => ∃ (f : Nat) (st' : PS) (l : List _) (y : AV), H id = some (PO st') ∧ Acc U 214 (upd G id none) H y (l.map matchA) ∧ Ah st1 st' ∧ manyF matchP [44] 8 f st' l = allP st ∧ st1.ts.length ≤ f + st'.pos ∧ l.length ≤ st'.pos + 1 ∧ m = st1.ts.length - st'.pos ∧ lk ρ 0 = some (.ptr id 0) ∧ lk ρ 3 = some y) (st1.ts.length - st1.pos) ?_ ?_
  · refine ⟨st.ts.length, st1, [x0], .sl ([x0].map matchA) .full, upd_same .., .full (base_start G id _), .refl h1.1, ep, by rw [h1.2.1]; omega, by simp, rfl, ?_, ?_⟩ <;> simp -implicitDefEqProofs only [go_sem] <;> rfl
  · rintro m ρ H ⟨f, st', l, y, hH, hy, ha, hfin, hf, hll, rfl, r0, r3⟩
    have hlen := ha.1.2.2
    have hpos := ha.1.1
    have htl := ha.2.1
    simp -implicitDefEqProofs only [go_sem, r0, r3]
    refine (take_ok st' [44] ha.1).go hH ?_
    cases d1 : isD st' [44]
    · have et : takeD st' [44] = (false, st') := by simp [takeD, d1]
      have ef : manyF matchP [44] 8 f st' l = (l, st') := by cases f <;> simp [manyF, d1]
      rw [et, upd_self hH]
      rw [ef] at hfin
      simp -implicitDefEqProofs only [go_sem, r0, r3]
      exact .mk (h' := upd G id (some (PO (allP st).2))) (allA l) hy.weak (by rw [← hfin]; exact base_end hy.1 hH) ⟨by rw [← hfin], rfl⟩
    · have et : takeD st' [44] = (true, nextD st') := by simp [takeD, d1]
      obtain ⟨g, rfl⟩ : ∃ g, f = g + 1 := ⟨f - 1, by rw [htl] at hpos; omega⟩
      simp only [manyF, d1, if_true] at hfin
      have h2 := ah_next ha.1 (isD_kind d1)
      have hone := match_p (nextD st') h2.1
      have h3 := (fun _ h => ah_match h : ∀ st, WfP st → Ah st (matchP st).2) _ h2.1
      obtain ⟨x, st2, e2⟩ : ∃ x st2, matchP (nextD st') = (x, st2) := ⟨_, _, rfl⟩
      rw [e2] at hfin hone h3
      simp only [matchA] at hfin hone h3
      have hdec : decide ((8 : Int) < ((l.length + 1 : Nat) : Int)) = decide (8 < l.length + 1) := by
        by_cases h : 8 < l.length + 1
        · simp only [h, decide_true]; exact decide_eq_true (by omega)
        · simp only [h, decide_false]; exact decide_eq_false (by omega)
      have h4 := ah_limit (decide (8 < l.length + 1)) h3.1
      have hnp : (nextD st').pos = st'.pos + 1 := rfl
      have hp3 := h3.2.2
      have hp4 := h4.2.2
      rw [et]
      simp -implicitDefEqProofs only [go_sem, r0, r3]
      refine hone.run ?_
      simp -implicitDefEqProofs only [go_sem, r0, r3]
      refine (hy.put hB hH _).app (zs := [matchA x]) (by rw [uz_m]; decide) (by rw [ub_m]; decide) (fun k hk => hk) (by rw [uz_m]; exact sized_m l) (by rw [uz_m]; exact sized_m [x]) (by rw [ub_m]; simp; omega) fun y' H2 hy' hk2 => ?_
      have hH2 : H2 id = some (PO st2) := hk2 _ _ _ (upd_same ..)
      simp -implicitDefEqProofs only [go_sem, r0, r3, hy'.len, List.length_append, List.length_map, List.length_cons, List.length_nil, Nat.zero_add, hdec]
      refine (limit_ok st2 _ h3.1).go hH2 ?_
      simp -implicitDefEqProofs only [go_sem, r0, r3]
      refine ⟨_, ?_, g, limitD st2 (decide (8 < l.length + 1)), l ++ [x], y', upd_same .., by rw [List.map_append]; exact hy'.put hB hH2 _, (((ha.trans h2).trans h3).trans h4), hfin, by omega, by simp; omega, rfl, ?_, ?_⟩
      · have : st1.ts.length = st'.ts.length := by rw [htl]
        omega
      all_goals simp -implicitDefEqProofs only [go_sem, r0, r3]
theorem any_p (st : PS) (hw : WfP st) : PC 159 [] st (anyA (anyP st).1) (anyP st).2 := .of fun G id => by
  have h0 := ah_must [40] hw
  have h1 := ah_all h0.1
  have hm1 := all_p _ h0.1
  obtain ⟨x0, st1, e1⟩ : ∃ x0 st1, allP (mustD st [40]) = (x0, st1) := ⟨_, _, rfl⟩
  obtain ⟨M, eM⟩ : ∃ M, manyF allP orT 8 st.ts.length st1 [x0] = M := ⟨_, rfl⟩
  have epp : (M.1, mustD M.2 [41]) = anyP st := by simp only [anyP, e1, eM]
  rw [e1] at h1 hm1
  simp only [allA] at h1 hm1
  refine FnOK.body hU hm Tryz.func159 rfl (by kernel_rfl) 24 rfl [.tmp 2] rfl (Nat.le_of_ble_eq_true rfl) (fun hwf => ?_)
  simp -implicitDefEqProofs only [go_sem]
  refine (must_ok st [40] hw).run ?_
  simp -implicitDefEqProofs only [go_sem]
  refine hm1.run ?_
  simp -implicitDefEqProofs only [go_sem]
  have hB : upd G id none id = none := upd_same ..
  refine .intro (fun m ρ H => ∃ (f : Nat) (st' : PS) (l : List _) (y : AV), H id = some (PO st') ∧ Acc U 215 (upd G id none) H y (l.map allA) ∧ Ah st1 st' ∧ manyF allP orT 8 f st' l = M ∧ st1.ts.length ≤ f + st'.pos ∧ l.length ≤ st'.pos + 1 ∧ m = st1.ts.length - st'.pos ∧ lk ρ 0 = some (.ptr id 0) ∧ lk ρ 3 = some y) (st1.ts.length - st1.pos) ?_ ?_
  · refine ⟨st.ts.length, st1, [x0], .sl ([x0].map allA) .full, upd_same .., .full (base_start G id _), .refl h1.1, eM, by rw [h1.2.1, h0.2.1]; omega, by simp, rfl, ?_, ?_⟩ <;> simp -implicitDefEqProofs only [go_sem] <;> rfl
  · rintro m ρ H ⟨f, st', l, y, hH, hy, ha, hfin, hf, hll, rfl, r0, r3⟩
    have hlen := ha.1.2.2
    have hpos := ha.1.1
    have htl := ha.2.1
    simp -implicitDefEqProofs only [go_sem, r0, r3]
    refine (take_ok st' orT ha.1).go hH ?_
    cases d1 : isD st' orT
    · have et : takeD st' orT = (false, st') := by simp [takeD, d1]
      have ef : manyF allP orT 8 f st' l = (l, st') := by cases f <;> simp [manyF, d1]
      rw [et, upd_self hH]
      rw [ef] at hfin
      simp -implicitDefEqProofs only [go_sem, r0, r3]
      refine (must_ok st' [41] ha.1).go hH ?_
      simp -implicitDefEqProofs only [go_sem, r0, r3]
      exact .mk (h' := upd G id (some (PO (anyP st).2))) (anyA l) hy.weak (by rw [← epp, ← hfin]; exact base_end (hy.1.put hB _) (upd_same ..)) ⟨by rw [← epp, ← hfin], rfl⟩
    · have et : takeD st' orT = (true, nextD st') := by simp [takeD, d1]
      obtain ⟨g, rfl⟩ : ∃ g, f = g + 1 := ⟨f - 1, by rw [htl] at hpos; omega⟩
      simp only [manyF, d1, if_true] at hfin
      have h2 := ah_next ha.1 (isD_kind d1)
      have hone := all_p (nextD st') h2.1
      have h3 := (fun _ h => ah_all h : ∀ st, WfP st → Ah st (allP st).2) _ h2.1
      obtain ⟨x, st2, e2⟩ : ∃ x st2, allP (nextD st') = (x, st2) := ⟨_, _, rfl⟩
      rw [e2] at hfin hone h3
      simp only [allA] at hfin hone h3
      have hdec : decide ((8 : Int) < ((l.length + 1 : Nat) : Int)) = decide (8 < l.length + 1) := by
        by_cases h : 8 < l.length + 1
        · simp only [h, decide_true]; exact decide_eq_true (by omega)
        · simp only [h, decide_false]; exact decide_eq_false (by omega)
      have h4 := ah_limit (decide (8 < l.length + 1)) h3.1
      have hnp : (nextD st').pos = st'.pos + 1 := rfl
      have hp3 := h3.2.2
      have hp4 := h4.2.2
      rw [et]
      simp -implicitDefEqProofs only [go_sem, r0, r3]
      refine hone.run ?_
      simp -implicitDefEqProofs only [go_sem, r0, r3]
      refine (hy.put hB hH _).app (zs := [allA x]) (by rw [uz_a]; decide) (by rw [ub_a]; decide) (fun k hk => hk) (by rw [uz_a]; exact sized_a l) (by rw [uz_a]; exact sized_a [x]) (by rw [ub_a]; simp; omega) fun y' H2 hy' hk2 => ?_
      have hH2 : H2 id = some (PO st2) := hk2 _ _ _ (upd_same ..)
      simp -implicitDefEqProofs only [go_sem, r0, r3, hy'.len, List.length_append, List.length_map, List.length_cons, List.length_nil, Nat.zero_add, hdec]
      refine (limit_ok st2 _ h3.1).go hH2 ?_
      simp -implicitDefEqProofs only [go_sem, r0, r3]
      refine ⟨_, ?_, g, limitD st2 (decide (8 < l.length + 1)), l ++ [x], y', upd_same .., by rw [List.map_append]; exact hy'.put hB hH2 _, (((ha.trans h2).trans h3).trans h4), hfin, by omega, by simp; omega, rfl, ?_, ?_⟩
      · have : st1.ts.length = st'.ts.length := by rw [htl]
        omega
      all_goals simp -implicitDefEqProofs only [go_sem, r0, r3]
theorem tgt_p (st : PS) (hw : WfP st) : PC 118 [] st (tgtA (tgtP st).1) (tgtP st).2 := .of fun G id => by
  refine FnOK.body hU hm Tryz.func118 rfl (by kernel_rfl) 23 rfl [.tmp 2] rfl (Nat.le_of_ble_eq_true rfl) (fun hwf => ?_)
  simp -implicitDefEqProofs only [go_sem]
  refine (take_ok st whenT hw).run ?_
  cases d0 : isD st whenT
  · have et : takeD st whenT = (false, st) := by simp [takeD, d0]
    have ep : tgtP st = ([], st) := by simp [tgtP, d0]
    rw [et]
    simp -implicitDefEqProofs only [go_sem]
    exact .mk (h' := upd G id (some (PO (tgtP st).2))) (tgtA []) (.sl _ _) (by rw [ep]; exact .refl _) ⟨by rw [ep], rfl⟩
  have et : takeD st whenT = (true, nextD st) := by simp [takeD, d0]
  have h0 := ah_next hw (isD_kind d0)
  have h1 := ah_any h0.1
  have hm1 := any_p _ h0.1
  obtain ⟨x0, st1, e1⟩ : ∃ x0 st1, anyP (nextD st) = (x0, st1) := ⟨_, _, rfl⟩
  obtain ⟨M, eM⟩ : ∃ M, manyF anyP andT 8 st.ts.length st1 [x0] = M := ⟨_, rfl⟩
  have ep : M = tgtP st := by simp only [tgtP, d0, if_true, e1, eM]
  rw [e1] at h1 hm1
  simp only [anyA] at h1 hm1
  rw [et]
  simp -implicitDefEqProofs only [go_sem]
  refine hm1.run ?_
  simp -implicitDefEqProofs only [go_sem]
  have hB : upd G id none id = none := upd_same ..
  refine .intro (fun m ρ H => ∃ (f : Nat) (st' : PS) (l : List _) (y : AV), H id = some (PO st') ∧ Acc U 211 (upd G id none) H y (l.map anyA) ∧ Ah st1 st' ∧ manyF anyP andT 8 f st' l = M ∧ st1.ts.length ≤ f + st'.pos ∧ l.length ≤ st'.pos + 1 ∧ m = st1.ts.length - st'.pos ∧ lk ρ 0 = some (.ptr id 0) ∧ lk ρ 3 = some y) (st1.ts.length - st1.pos) ?_ ?_
  · refine ⟨st.ts.length, st1, [x0], .sl ([x0].map anyA) .full, upd_same .., .full (base_start G id _), .refl h1.1, eM, by rw [h1.2.1, h0.2.1]; omega, by simp, rfl, ?_, ?_⟩ <;> simp -implicitDefEqProofs only [go_sem] <;> rfl
  · rintro m ρ H ⟨f, st', l, y, hH, hy, ha, hfin, hf, hll, rfl, r0, r3⟩
    have hlen := ha.1.2.2
    have hpos := ha.1.1
    have htl := ha.2.1
    simp -implicitDefEqProofs only [go_sem, r0, r3]
    refine (take_ok st' andT ha.1).go hH ?_
    cases d1 : isD st' andT
    · have et : takeD st' andT = (false, st') := by simp [takeD, d1]
      have ef : manyF anyP andT 8 f st' l = (l, st') := by cases f <;> simp [manyF, d1]
      rw [et, upd_self hH]
      rw [ef] at hfin
      simp -implicitDefEqProofs only [go_sem, r0, r3]
      exact .mk (h' := upd G id (some (PO (tgtP st).2))) (tgtA l) hy.weak (by rw [← ep, ← hfin]; exact base_end hy.1 hH) ⟨by rw [← ep, ← hfin], rfl⟩
    · have et : takeD st' andT = (true, nextD st') := by simp [takeD, d1]
      obtain ⟨g, rfl⟩ : ∃ g, f = g + 1 := ⟨f - 1, by rw [htl] at hpos; omega⟩
      simp only [manyF, d1, if_true] at hfin
      have h2 := ah_next ha.1 (isD_kind d1)
      have hone := any_p (nextD st') h2.1
      have h3 := (fun _ h => ah_any h : ∀ st, WfP st → Ah st (anyP st).2) _ h2.1
      obtain ⟨x, st2, e2⟩ : ∃ x st2, anyP (nextD st') = (x, st2) := ⟨_, _, rfl⟩
      rw [e2] at hfin hone h3
      simp only [anyA] at hfin hone h3
      have hdec : decide ((8 : Int) < ((l.length + 1 : Nat) : Int)) = decide (8 < l.length + 1) := by
        by_cases h : 8 < l.length + 1
        · simp only [h, decide_true]; exact decide_eq_true (by omega)
        · simp only [h, decide_false]; exact decide_eq_false (by omega)
      have h4 := ah_limit (decide (8 < l.length + 1)) h3.1
      have hnp : (nextD st').pos = st'.pos + 1 := rfl
      have hp3 := h3.2.2
      have hp4 := h4.2.2
      rw [et]
      simp -implicitDefEqProofs only [go_sem, r0, r3]
      refine hone.run ?_
      simp -implicitDefEqProofs only [go_sem, r0, r3]
      refine (hy.put hB hH _).app (zs := [anyA x]) (by rw [uz_y]; decide) (by rw [ub_y]; decide) (fun k hk => hk) (by rw [uz_y]; exact sized_y l) (by rw [uz_y]; exact sized_y [x]) (by rw [ub_y]; simp; omega) fun y' H2 hy' hk2 => ?_
      have hH2 : H2 id = some (PO st2) := hk2 _ _ _ (upd_same ..)
      simp -implicitDefEqProofs only [go_sem, r0, r3, hy'.len, List.length_append, List.length_map, List.length_cons, List.length_nil, Nat.zero_add, hdec]
      refine (limit_ok st2 _ h3.1).go hH2 ?_
      simp -implicitDefEqProofs only [go_sem, r0, r3]
      refine ⟨_, ?_, g, limitD st2 (decide (8 < l.length + 1)), l ++ [x], y', upd_same .., by rw [List.map_append]; exact hy'.put hB hH2 _, (((ha.trans h2).trans h3).trans h4), hfin, by omega, by simp; omega, rfl, ?_, ?_⟩
      · have : st1.ts.length = st'.ts.length := by rw [htl]
        omega
      all_goals simp -implicitDefEqProofs only [go_sem, r0, r3]
end Go.Proofs.YtnhelgnmadbpgaaGreatDoor

set_option linter.unusedSimpArgs false
set_option linter.unusedVariables false
namespace Go.Proofs.YtnhelgnmadbpgaaGreatDoor
open Go Go.Ab Go.Bf
theorem operands_ok (op : Int) (h : Heap) : FnOK Tryz.prog 215 [.v (.int .i64 op)] h fun r h' => r = .sl ((opers op).map boolA) .no ∧ h' = h := by
  refine FnOK.body hU hm Tryz.func215 rfl (by kernel_rfl) 15 rfl [.tmp 2] rfl (Nat.le_of_ble_eq_true rfl) (fun hwf => ?_)
  cases k3 : (op == 3) <;> cases k4 : (op == 4) <;> cases k5 : (op == 5) <;> cases k11 : (op == 11)
  all_goals
    simp -implicitDefEqProofs only [go_sem, k3, k4, k5, k11]
    simp only [beq_iff_eq, beq_eq_false_iff_ne] at k3 k4 k5 k11
    refine .mk _ (.sl _ _) (.refl _) ⟨?_, rfl⟩
    simp [opers, k3, k4, k5, k11, boolA]
theorem uz_o : (U 166).sz = 3 := by simp only [go_sem]
theorem ub_o : (U 166).bytes = 32 := by simp only [go_sem]
theorem sized_o (l : List OblD) : Sized 3 (l.map oblA) := fun z hz => by
  obtain ⟨c, _, rfl⟩ := List.mem_map.1 hz; rfl
set_option maxRecDepth 20000 in
theorem duties_p (st : PS) (hw : WfP st) : PC 122 [] st (oblsA (oblsP st).1) (oblsP st).2 := .of fun G id => by
  obtain ⟨M, eM⟩ : ∃ M, oblsP st = M := ⟨_, rfl⟩
  have eM2 : manyF oblP onceT 8 st.ts.length st [] = M := eM
  refine FnOK.body hU hm Tryz.func122 rfl (by kernel_rfl) 28 rfl [.tmp 2] rfl (Nat.le_of_ble_eq_true rfl) (fun hwf => ?_)
  simp -implicitDefEqProofs only [go_sem]
  have hB : upd G id none id = none := upd_same ..
  refine .intro (fun m ρ H => ∃ (f : Nat) (st' : PS) (l : List OblD) (y : AV), H id = some (PO st') ∧ Acc U 166 (upd G id none) H y (l.map oblA) ∧ Ah st st' ∧ manyF oblP onceT 8 f st' l = M ∧ st.ts.length ≤ f + st'.pos ∧ l.length ≤ st'.pos + 1 ∧ m = st.ts.length - st'.pos ∧ lk ρ 0 = some (.ptr id 0) ∧ lk ρ 3 = some y) (st.ts.length - st.pos) ?_ ?_
  · refine ⟨st.ts.length, st, [], .sl ([].map oblA) .full, upd_same .., .full (base_start G id _), .refl hw, eM2, by omega, by simp, rfl, ?_, ?_⟩ <;> simp -implicitDefEqProofs only [go_sem] <;> rfl
  · rintro m ρ H ⟨f, st', l, y, hH, hy, ha, hfin, hf, hll, rfl, r0, r3⟩
    have hlen := ha.1.2.2
    have hpos := ha.1.1
    have htl := ha.2.1
    simp -implicitDefEqProofs only [go_sem, r0, r3]
    refine (take_ok st' onceT ha.1).go hH ?_
    cases d1 : isD st' onceT
    · have et : takeD st' onceT = (false, st') := by simp [takeD, d1]
      have ef : manyF oblP onceT 8 f st' l = (l, st') := by cases f <;> simp [manyF, d1]
      rw [et, upd_self hH]
      rw [ef] at hfin
      simp -implicitDefEqProofs only [go_sem, r0, r3]
      exact .mk (h' := upd G id (some (PO (oblsP st).2))) (oblsA l) hy.weak (by rw [eM, ← hfin]; exact base_end hy.1 hH) ⟨by rw [eM, ← hfin], rfl⟩
    · have et : takeD st' onceT = (true, nextD st') := by simp [takeD, d1]
      obtain ⟨g, rfl⟩ : ∃ g, f = g + 1 := ⟨f - 1, by rw [htl] at hpos; omega⟩
      simp only [manyF, d1, if_true] at hfin
      have h2 := ah_next ha.1 (isD_kind d1)
      have ho1 := ah_among onWs h2.1
      have ho2 := ah_among dutyWs ho1.1
      have ho3 := ah_name ho2.1
      have h3 : Ah (nextD st') (oblP (nextD st')).2 := ah_obl h2.1
      have hdec : decide ((8 : Int) < ((l.length + 1 : Nat) : Int)) = decide (8 < l.length + 1) := by
        by_cases h : 8 < l.length + 1
        · simp only [h, decide_true]; exact decide_eq_true (by omega)
        · simp only [h, decide_false]; exact decide_eq_false (by omega)
      have h4 := ah_limit (decide (8 < l.length + 1)) h3.1
      have hnp : (nextD st').pos = st'.pos + 1 := rfl
      have hp3 := h3.2.2
      have hp4 := h4.2.2
      have eX : (oblP (nextD st')) = (⟨(amongD (nextD st') onWs).1, (amongD (amongD (nextD st') onWs).2 dutyWs).1, (nameP (amongD (amongD (nextD st') onWs).2 dutyWs).2).1⟩, (nameP (amongD (amongD (nextD st') onWs).2 dutyWs).2).2) := rfl
      obtain ⟨x, st2, e2⟩ : ∃ x st2, oblP (nextD st') = (x, st2) := ⟨_, _, rfl⟩
      rw [et]
      simp -implicitDefEqProofs only [go_sem, r0, r3]
      intro i4 hi4
      have n4 := ne_upd hi4
      have hH4 : H i4 = none := by rw [upd_other _ _ n4] at hi4; exact hi4
      have c4 : ∀ (f : Heap) (x y : Option Blk), upd (upd f id x) i4 y = upd (upd f i4 y) id x := fun f x y => upd_comm f x y n4.symm
      simp -implicitDefEqProofs only [go_sem, r0, r3, c4]
      refine (among_ok _ onWs .full (by decide) h2.1).run ?_
      simp -implicitDefEqProofs only [go_sem, r0, r3, c4, upd_ne, n4]
      refine (among_ok _ dutyWs .full (by decide) ho1.1).run ?_
      simp -implicitDefEqProofs only [go_sem, r0, r3, c4, upd_ne, n4]
      refine (pname_ok _ ho2.1).run ?_
      simp -implicitDefEqProofs only [go_sem, r0, r3, c4, upd_ne, n4]
      rw [e2] at hfin h3 h4 hp3 hp4
      simp only at hfin h3 h4 hp3 hp4
      have ex1 : x = (oblP (nextD st')).1 := by rw [e2]
      have ex2 : st2 = (nameP (amongD (amongD (nextD st') onWs).2 dutyWs).2).2 := by
        have : st2 = (oblP (nextD st')).2 := by rw [e2]
        exact this
      rw [← ex2]
      refine ((hy.sub (Sub.upd_new (k := _) hH4)).put hB (by rw [upd_other _ _ n4.symm]; exact hH) _).app (zs := [oblA x]) (by rw [uz_o]; decide) (by rw [ub_o]; decide) (fun k hk => by rw [ex1] at hk; exact hk) (by rw [uz_o]; exact sized_o l) (by rw [uz_o]; exact sized_o [x]) (by rw [ub_o]; simp; omega) fun y' H2 hy' hk2 => ?_
      have hH2 : H2 id = some (PO st2) := hk2 _ _ _ (upd_same ..)
      simp -implicitDefEqProofs only [go_sem, r0, r3, hy'.len, List.length_append, List.length_map, List.length_cons, List.length_nil, Nat.zero_add, hdec]
      refine (limit_ok st2 _ h3.1).go hH2 ?_
      simp -implicitDefEqProofs only [go_sem, r0, r3]
      refine ⟨_, ?_, g, limitD st2 (decide (8 < l.length + 1)), l ++ [x], y', upd_same .., by rw [List.map_append]; exact hy'.put hB hH2 _, (((ha.trans h2).trans h3).trans h4), hfin, by omega, by simp; omega, rfl, ?_, ?_⟩
      · have : st.ts.length = st'.ts.length := by rw [htl]
        omega
      all_goals simp -implicitDefEqProofs only [go_sem, r0, r3]
end Go.Proofs.YtnhelgnmadbpgaaGreatDoor

set_option linter.unusedSimpArgs false
set_option linter.unusedVariables false
namespace Go.Proofs.YtnhelgnmadbpgaaGreatDoor
open Go Go.Ab Go.Bf
theorem acc_less {U : TypeId → TI} {e : TypeId} {B B' H : Heap} {y : AV} {xs : List AV} (hs : Sub B B') (ha : Acc U e B' H y xs) : Acc U e B H y xs := by
  obtain ⟨h1, rfl | ⟨k, i1, rfl, i2⟩⟩ := ha
  · exact ⟨hs.trans h1, .inl rfl⟩
  · refine ⟨hs.trans h1, .inr ⟨k, ?_, rfl, i2⟩⟩
    cases hk : B k with
    | none => rfl
    | some b => rw [hs _ _ hk] at i1; cases i1
theorem acc_grow {U : TypeId → TI} {e : TypeId} {B H : Heap} {y : AV} {xs : List AV} (ha : Acc U e B H y xs) {i : Nat} (hi : H i = none) (b : Option Blk) : Acc U e (upd B i b) (upd H i b) y xs := by
  obtain ⟨h1, rfl | ⟨k, i1, rfl, i2⟩⟩ := ha
  · exact ⟨h1.both _ _, .inl rfl⟩
  · have hne : k ≠ i := fun hh => by subst hh; rw [hi] at i2; cases i2
    exact ⟨h1.both _ _, .inr ⟨k, by rw [upd_other _ _ hne]; exact i1, rfl, by rw [upd_other _ _ hne]; exact i2⟩⟩
theorem acc_step {U : TypeId → TI} {e : TypeId} {G K : Heap} {id : Nat} {st : PS} {y : AV} {xs : List AV} (ha : Acc U e (upd G id none) (upd K id (some (PO st))) y xs) (st' : PS) : Acc U e (upd G id none) (upd K id (some (PO st'))) y xs := by
  have := ha.put (id := id) (upd_same ..) (cs := _) (t := _) (upd_same ..) (some (PO st'))
  rw [upd_upd] at this
  exact this
def XC (f : FuncId) (args : List AV) (st : PS) (l : List NodeD) (mk : AV → AV) (st' : PS) (l' : List NodeD) : Prop :=
  ∀ (G K : Heap) (id : Nat) (y : AV), Acc U 172 (upd G id none) (upd K id (some (PO st))) y (l.map nodeA) → FnOK Tryz.prog f (.ptr id 0 :: y :: args) (upd K id (some (PO st))) fun r h' => ∃ y', r = mk y' ∧ h' id = some (PO st') ∧ Acc U 172 (upd G id none) h' y' (l'.map nodeA)
theorem XC.run {f : FuncId} {args : List AV} {st st' : PS} {l l' : List NodeD} {mk : AV → AV} (hc : XC f args st l mk st' l') {G K : Heap} {id : Nat} {y : AV} {Q : AV → Heap → Prop} (ha : Acc U 172 (upd G id none) (upd K id (some (PO st))) y (l.map nodeA))
    (k : ∀ y' K', Acc U 172 (upd G id none) (upd K' id (some (PO st'))) y' (l'.map nodeA) → Q (mk y') (upd K' id (some (PO st')))) : FnOK Tryz.prog f (.ptr id 0 :: y :: args) (upd K id (some (PO st))) Q :=
  (hc G K id y ha).mono fun r h' ⟨y', e1, e2, e3⟩ => by
    subst e1
    have := k y' h' (by rw [upd_self e2]; exact e3)
    rwa [upd_self e2] at this
def EH (ex : ExF) (f : Nat) : Prop := ∀ st l, WfP st → st.ts.length ≤ f + st.pos → l.length ≤ 2 * st.pos + 1 → XC 200 [] st l (fun y => .tup [y, .v (.bool (ex st l).1.2)]) (ex st l).2 (ex st l).1.1
theorem among_rng (st : PS) (ws : List Txt) : 0 ≤ (amongD st ws).1 ∧ (amongD st ws).1 ≤ ws.length := by
  unfold amongD
  cases ei : idxT (hereD st).s ws with
  | none => simp
  | some i =>
    have := idxT_lt ei
    simp only
    split <;> simp <;> omega
theorem operand_x {ex : ExF} (ho : ExOK ex) {f : Nat} (he : EH ex f) (st : PS) (l : List NodeD) (b : Bool) (hw : WfP st) (hf : st.ts.length ≤ f + st.pos) (hl : l.length ≤ 2 * st.pos + 1) : XC 188 [.v (.bool b)] st l (fun y => y) (operG ex st l b).2 (operG ex st l b).1 := fun G K id y ha => by
  refine FnOK.body hU hm Tryz.func188 rfl (by kernel_rfl) 25 rfl [.tmp 6] rfl (Nat.le_of_ble_eq_true rfl) (fun hwf => ?_)
  simp -implicitDefEqProofs only [go_sem]
  refine (here_ok st hw).run ?_
  simp -implicitDefEqProofs only [go_sem, tokA]
  refine (he st l hw hf hl).run ha fun y' K' ha' => ?_
  cases db : ((ex st l).1.2 == b)
  · have e1 : (ex st l).1.2 ≠ b := by simpa using db
    have en : operG ex st l b = ((ex st l).1.1, wrongD (ex st l).2 5 (hereD st).pos) := by simp [operG, e1]
    simp -implicitDefEqProofs only [go_sem, db, Bool.not_false]
    refine (wrong_ok _ 5 _).run ?_
    simp -implicitDefEqProofs only [go_sem]
    exact .mk (h' := upd K' id (some (PO (wrongD (ex st l).2 5 (hereD st).pos)))) y' (.refl _) (.refl _) ⟨y', rfl, by rw [en]; exact upd_same .., by rw [en]; exact acc_step ha' _⟩
  · have e1 : (ex st l).1.2 = b := by simpa using db
    have en : operG ex st l b = ((ex st l).1.1, (ex st l).2) := by simp [operG, e1]
    simp -implicitDefEqProofs only [go_sem, db, Bool.not_true]
    exact .mk (h' := upd K' id (some (PO (ex st l).2))) y' (.refl _) (.refl _) ⟨y', rfl, by rw [en]; exact upd_same .., by rw [en]; exact ha'⟩
set_option maxRecDepth 20000 in
theorem function_x {ex : ExF} (ho : ExOK ex) {f : Nat} (he : EH ex f) (st : PS) (l : List NodeD) (hw : WfP st) (hf : st.ts.length ≤ f + st.pos) (hl : l.length + 1 ≤ 2 * st.pos) : XC 210 [] st l (fun y => .tup [y, nodeA (funcG ex st l).1.2]) (funcG ex st l).2 (funcG ex st l).1.1 := fun G K id y ha => by
  have h1 := ah_among fnWs hw
  have hrg := among_rng st fnWs
  have hfl : fnWs.length = 11 := rfl
  have w2 : IntKind.i64.wrap (2 + (amongD st fnWs).1) = 2 + (amongD st fnWs).1 := by rw [wr64 _ (by omega)]
  refine FnOK.body hU hm Tryz.func210 rfl (by kernel_rfl) 36 rfl [.tmp 4, .cell 5 172] rfl (Nat.le_of_ble_eq_true rfl) (fun hwf => ?_)
  simp -implicitDefEqProofs only [go_sem]
  intro i5 hi5
  have n5 := ne_upd hi5
  have hK5 : K i5 = none := by rw [upd_other _ _ n5] at hi5; exact hi5
  have c5 : ∀ (f : Heap) (x y : Option Blk), upd (upd f id x) i5 y = upd (upd f i5 y) id x := fun f x y => upd_comm f x y n5.symm
  simp -implicitDefEqProofs only [go_sem, c5]
  refine (among_ok _ fnWs .full (by decide) hw).run ?_
  simp -implicitDefEqProofs only [go_sem, w2, c5]
  intro i6 hi6
  have n6 := ne_upd hi6
  have c6 : ∀ (f : Heap) (x y : Option Blk), upd (upd f id x) i6 y = upd (upd f i6 y) id x := fun f x y => upd_comm f x y n6.symm
  have hi6' := hi6
  rw [upd_other _ _ n6] at hi6'
  have n65 := ne_upd hi6'
  have hK6 : K i6 = none := by rw [upd_other _ _ n65] at hi6'; exact hi6'
  simp -implicitDefEqProofs only [go_sem, w2, c5, c6, upd_ne, n5, n6]
  refine (operands_ok _ _).pthen ?_
  simp -implicitDefEqProofs only [go_sem, w2, c5, c6, upd_ne, n5, n6]
  have h5f := ha
  obtain ⟨bs, ebs⟩ : ∃ bs, opers (2 + (amongD st fnWs).1) = bs := ⟨_, rfl⟩
  obtain ⟨M, eM⟩ : ∃ M, opersG ex bs (amongD st fnWs).2 l = M := ⟨_, rfl⟩
  have hb2 : bs.length ≤ 2 := by rw [← ebs]; exact opers_le _
  have hMr : funcG ex st l = ((M.1, ⟨2 + (amongD st fnWs).1, ⟨0, 0, []⟩, ⟨0, [], false⟩⟩), mustD M.2 [41]) := by simp only [funcG, ebs, eM]
  obtain ⟨st1, es1⟩ : ∃ st1, (amongD st fnWs).2 = st1 := ⟨_, rfl⟩
  have hac0 := acc_grow (acc_grow (acc_step ha st1) (by rw [upd_other _ _ n5]; exact hK5) (some (.obj [.v (.int .i64 0), .v (.int .i64 0), .v (.int .i64 0), .s [], .v (.int .i64 0), .s [], .v (.bool false)] 172))) (by rw [upd_other _ _ n65, upd_other _ _ n6]; exact hK6) (some (.obj [.v (.int .i64 (2 + (amongD st fnWs).1)), .v (.int .i64 0), .v (.int .i64 0), .s [], .v (.int .i64 0), .s [], .v (.bool false)] 172))
  simp only [c5, c6] at hac0
  obtain ⟨G', eG⟩ : ∃ G', G' = upd (upd G i5 (some (.obj [.v (.int .i64 0), .v (.int .i64 0), .v (.int .i64 0), .s [], .v (.int .i64 0), .s [], .v (.bool false)] 172))) i6 (some (.obj [.v (.int .i64 (2 + (amongD st fnWs).1)), .v (.int .i64 0), .v (.int .i64 0), .s [], .v (.int .i64 0), .s [], .v (.bool false)] 172)) := ⟨_, rfl⟩
  have g5 : upd G' id none i5 = some (.obj [.v (.int .i64 0), .v (.int .i64 0), .v (.int .i64 0), .s [], .v (.int .i64 0), .s [], .v (.bool false)] 172) := by rw [eG, upd_other _ _ n5, upd_other _ _ (Ne.symm n65), upd_same]
  have g6 : upd G' id none i6 = some (.obj [.v (.int .i64 (2 + (amongD st fnWs).1)), .v (.int .i64 0), .v (.int .i64 0), .s [], .v (.int .i64 0), .s [], .v (.bool false)] 172) := by rw [eG, upd_other _ _ n6, upd_same]
  rw [← eG] at hac0
  have gi5 : upd G id none i5 = none := by
    cases hk : upd G id none i5 with
    | none => rfl
    | some b => rw [ha.1 _ _ hk] at hi5; cases hi5
  have hsG : Sub (upd G id none) (upd G' id none) := fun k b hk => by
    have hs1 := ha.1 k b hk
    have hk5 : k ≠ i5 := fun e => by rw [e, hi5] at hs1; cases hs1
    have hk6 : k ≠ i6 := fun e => by
      rw [e, upd_other _ _ n6, hK6] at hs1; cases hs1
    by_cases hkid : k = id
    · subst hkid; rw [upd_same] at hk; cases hk
    · rw [upd_other _ _ hkid] at hk ⊢
      rw [eG, upd_other _ _ hk6, upd_other _ _ hk5]; exact hk
  simp only [es1, ebs] at h1 eM ⊢
  refine .intro (fun m ρ H => ∃ (i : Nat) (st' : PS) (l' : List NodeD) (y' : AV) (K' : Heap), H = upd K' id (some (PO st')) ∧ Acc U 172 (upd G' id none) (upd K' id (some (PO st'))) y' (l'.map nodeA) ∧ Ah st1 st' ∧ i ≤ bs.length ∧ opersG ex (bs.drop i) st' l' = M ∧ l'.length + 1 ≤ 2 * st'.pos + i ∧ m = bs.length - i ∧ lk ρ 0 = some (.ptr id 0) ∧ lk ρ 1 = some y' ∧ lk ρ 5 = some (.ptr i5 0) ∧ lk ρ 6 = some (.ptr i6 0) ∧ lk ρ 16 = some (.sl (bs.map boolA) .no) ∧ lk ρ 17 = some (.v (.int .i64 bs.length)) ∧ lk ρ 18 = some (.v (.int .i64 i))) bs.length ?_ ?_
  · refine ⟨0, st1, l, y, _, rfl, hac0, .refl h1.1, by omega, by simpa using eM, by have := h1.2.2; omega, rfl, ?_, ?_, ?_, ?_, ?_, ?_, ?_⟩ <;> simp -implicitDefEqProofs only [go_sem] <;> (try rfl) <;> simp
  · rintro m ρ H ⟨i, st', l', y', K', rfl, hac, hah, hi, hfin, hll, rfl, r0, r1, r5, r6, r16, r17, r18⟩
    simp -implicitDefEqProofs only [go_sem, r0, r1, r5, r6, r16, r17, r18]
    have k6 : upd K' id (some (PO st')) i6 = some (.obj [.v (.int .i64 (2 + (amongD st fnWs).1)), .v (.int .i64 0), .v (.int .i64 0), .s [], .v (.int .i64 0), .s [], .v (.bool false)] 172) := hac.1 _ _ g6
    have k5 : upd K' id (some (PO st')) i5 = some (.obj [.v (.int .i64 0), .v (.int .i64 0), .v (.int .i64 0), .s [], .v (.int .i64 0), .s [], .v (.bool false)] 172) := hac.1 _ _ g5
    rw [upd_other _ _ n6] at k6
    rw [upd_other _ _ n5] at k5
    refine .intro (fun e => ?_) (fun e => ?_)
    · have hlt : i < bs.length := Int.ofNat_lt.1 (of_decide_eq_true e)
      simp -implicitDefEqProofs only [go_sem, r0, r1, r5, r6, r16, r17, r18]
      refine .at i (by simpa using hlt) (by rw [List.getElem_map]; rfl) ?_
      cases db : (st'.bad != 0)
      · have e1 : st'.bad = 0 := by simpa using db
        rw [List.drop_eq_getElem_cons hlt] at hfin
        simp only [opersG, e1, if_true] at hfin
        simp -implicitDefEqProofs only [go_sem, r0, r1, r5, r6, r16, r17, r18, List.getElem_map, boolA, PO, db]
        have hpl := hah.2.2
        refine (operand_x ho he st' l' bs[i] hah.1 (by rw [hah.2.1, h1.2.1]; have := h1.2.2; omega) (by omega)).run hac fun y2 K2 hac2 => ?_
        obtain ⟨q1, q2⟩ := operG_ok ho st' l' bs[i] hah.1
        have w1 : IntKind.i64.wrap ((i : Int) + 1) = ((i + 1 : Nat) : Int) := by rw [wr64 _ (by omega)]; omega
        simp -implicitDefEqProofs only [go_sem, r0, r1, r5, r6, r16, r17, r18, w1]
        refine ⟨_, ?_, i + 1, (operG ex st' l' bs[i]).2, (operG ex st' l' bs[i]).1, y2, K2, rfl, hac2, hah.trans q1, hlt, hfin, by omega, rfl, ?_⟩
        · omega
        refine ⟨?_, ?_, ?_, ?_, ?_, ?_, ?_⟩
        all_goals simp -implicitDefEqProofs only [go_sem, r0, r1, r5, r6, r16, r17, r18, w1]
      · have e1 : st'.bad ≠ 0 := by simpa using db
        have hfin2 : (l', st') = M := by
          rw [← hfin, List.drop_eq_getElem_cons hlt]
          simp [opersG, e1]
        clear hfin
        have hfin := hfin2
        simp -implicitDefEqProofs only [go_sem, r0, r1, r5, r6, r16, r17, r18, List.getElem_map, boolA, PO, db]
        refine (must_ok _ [41] hah.1).run ?_
        simp -implicitDefEqProofs only [go_sem, r0, r1, r5, r6, r16, r17, r18, upd_ne, n5, n6, k5, k6]
        refine ⟨.of (by kernel_rfl), ?_⟩
        exact .mk (.tup [y', nodeA ⟨2 + (amongD st fnWs).1, ⟨0, 0, []⟩, ⟨0, [], false⟩⟩]) (.refl _) (.refl _) ⟨y', by rw [hMr], by rw [hMr, ← hfin]; exact (upd_other _ _ (Ne.symm n5)).trans (upd_same ..), by rw [hMr, ← hfin]; exact (acc_less hsG (acc_step hac (mustD st' [41]))).put gi5 ((upd_other _ _ n5).trans k5) _⟩
    · have hge : i = bs.length := by have := of_decide_eq_false e; omega
      subst hge
      rw [List.drop_length] at hfin
      simp only [opersG] at hfin
      simp -implicitDefEqProofs only [go_sem, r0, r1, r5, r6, r16, r17, r18]
      refine (must_ok _ [41] hah.1).run ?_
      simp -implicitDefEqProofs only [go_sem, r0, r1, r5, r6, r16, r17, r18, upd_ne, n5, n6, k5, k6]
      refine ⟨.of (by kernel_rfl), ?_⟩
      exact .mk (.tup [y', nodeA ⟨2 + (amongD st fnWs).1, ⟨0, 0, []⟩, ⟨0, [], false⟩⟩]) (.refl _) (.refl _) ⟨y', by rw [hMr], by rw [hMr, ← hfin]; exact (upd_other _ _ (Ne.symm n5)).trans (upd_same ..), by rw [hMr, ← hfin]; exact (acc_less hsG (acc_step hac (mustD st' [41]))).put gi5 ((upd_other _ _ n5).trans k5) _⟩
end Go.Proofs.YtnhelgnmadbpgaaGreatDoor

set_option linter.unusedSimpArgs false
set_option linter.unusedVariables false
namespace Go.Proofs.YtnhelgnmadbpgaaGreatDoor
open Go Go.Ab Go.Bf
theorem uz_n : (U 172).sz = 7 := by simp only [go_sem]
theorem ub_n : (U 172).bytes = 72 := by simp only [go_sem]
theorem sized_n (l : List NodeD) : Sized 7 (l.map nodeA) := fun z hz => by
  obtain ⟨c, _, rfl⟩ := List.mem_map.1 hz; rfl
set_option maxRecDepth 20000 in
theorem expr_s (f : Nat) (ih : EH (exprF f) f) : EH (exprF (f + 1)) (f + 1) := fun st l hw hf hl G K id y ha => by
  refine FnOK.body hU hm Tryz.func200 rfl (by kernel_rfl) 52 rfl [.tmp 4, .tmp 5] rfl (Nat.le_of_ble_eq_true rfl) (fun hwf => ?_)
  simp -implicitDefEqProofs only [go_sem]
  intro i6 hi6
  have n6 := ne_upd hi6
  have hK6 : K i6 = none := by rw [upd_other _ _ n6] at hi6; exact hi6
  have c6 : ∀ (f : Heap) (x y : Option Blk), upd (upd f id x) i6 y = upd (upd f i6 y) id x := fun f x y => upd_comm f x y n6.symm
  have gi6 : upd G id none i6 = none := by
    cases hk : upd G id none i6 with
    | none => rfl
    | some b => rw [ha.1 _ _ hk] at hi6; cases hi6
  have hac := acc_grow ha hi6 (some (.obj [.v (.int .i64 0), .v (.int .i64 0), .v (.int .i64 0), .s [], .v (.int .i64 0), .s [], .v (.bool false)] 172))
  simp -implicitDefEqProofs only [go_sem, c6]
  refine (here_ok st hw).run ?_
  simp -implicitDefEqProofs only [go_sem, c6, tokA]
  intro i7 hi7
  have n7 := ne_upd hi7
  have hi7' := hi7
  rw [upd_other _ _ n7] at hi7'
  have n76 := ne_upd hi7'
  have m76 : ¬ i7 = i6 := n76
  have m67 : ¬ i6 = i7 := fun e => n76 e.symm
  have hK7 : K i7 = none := by rw [upd_other _ _ n76] at hi7'; exact hi7'
  have c7 : ∀ (f : Heap) (x y : Option Blk), upd (upd f id x) i7 y = upd (upd f i7 y) id x := fun f x y => upd_comm f x y n7.symm
  have e6 : upd (upd G id none) i6 (some (.obj [.v (.int .i64 0), .v (.int .i64 0), .v (.int .i64 0), .s [], .v (.int .i64 0), .s [], .v (.bool false)] 172)) = upd (upd G i6 (some (.obj [.v (.int .i64 0), .v (.int .i64 0), .v (.int .i64 0), .s [], .v (.int .i64 0), .s [], .v (.bool false)] 172))) id none := c6 G none _
  have hac7 : ∀ k, Acc U 172 (upd (upd G i6 (some (.obj [.v (.int .i64 0), .v (.int .i64 0), .v (.int .i64 0), .s [], .v (.int .i64 0), .s [], .v (.bool false)] 172))) id none) (upd (upd (upd K i6 (some (.obj [.v (.int .i64 0), .v (.int .i64 0), .v (.int .i64 0), .s [], .v (.int .i64 0), .s [], .v (.bool false)] 172))) i7 k) id (some (PO st))) y (l.map nodeA) := fun k => by
    have := hac.sub (Sub.upd_new (k := k) (by rw [c6]; exact hi7))
    rw [e6, c6 K, c7] at this
    exact this
  have hsG : Sub (upd G id none) (upd (upd G i6 (some (.obj [.v (.int .i64 0), .v (.int .i64 0), .v (.int .i64 0), .s [], .v (.int .i64 0), .s [], .v (.bool false)] 172))) id none) := by
    rw [← e6]; exact Sub.upd_new gi6
  have g6 : upd (upd G i6 (some (.obj [.v (.int .i64 0), .v (.int .i64 0), .v (.int .i64 0), .s [], .v (.int .i64 0), .s [], .v (.bool false)] 172))) id none i6 = some (.obj [.v (.int .i64 0), .v (.int .i64 0), .v (.int .i64 0), .s [], .v (.int .i64 0), .s [], .v (.bool false)] 172) := by rw [← e6, upd_same]
  simp -implicitDefEqProofs only [go_sem, c6, c7, upd_ne, n6, n7, m76, m67]
  refine (take_ok st [40] hw).run ?_
  have hacX : ∀ tk NB st', Acc U 172 (upd G id none) (upd (upd (upd (upd K i6 (some (.obj [.v (.int .i64 0), .v (.int .i64 0), .v (.int .i64 0), .s [], .v (.int .i64 0), .s [], .v (.bool false)] 172))) i7 tk) i6 NB) id (some (PO st'))) y (l.map nodeA) := fun tk NB st' => by
    have := (acc_step (acc_less hsG (hac7 tk)) st').put gi6 ((upd_other _ _ n6).trans ((upd_other _ _ m67).trans (upd_same ..))) NB
    rw [c6] at this
    exact this
  obtain ⟨⟨⟨lh, n⟩, sth⟩, eh⟩ : ∃ x, headG (exprF f) st l = x := ⟨_, rfl⟩
  obtain ⟨hha, hhl⟩ := headG_ok (exprF_ok f) st l hw
  rw [eh] at hha hhl
  simp only at hha hhl
  have hwp := hha.1.2.2
  have hwq := hha.1.1
  have hpl := hha.2.2
  have hdec : decide ((32 : Int) < ((lh.length + 1 : Nat) : Int)) = decide (32 < lh.length + 1) := by
    by_cases h : 32 < lh.length + 1
    · simp only [h, decide_true]; exact decide_eq_true (by omega)
    · simp only [h, decide_false]; exact decide_eq_false (by omega)
  cases d0 : isD st [40]
  · have et : takeD st [40] = (false, st) := by simp [takeD, d0]
    rw [et]
    cases d1 : ((hereD st).kind == 1)
    · have en : headG (exprF f) st l = ((l, ⟨1, (valueP st).1, ⟨0, [], false⟩⟩), (valueP st).2) := by
        have : (hereD st).kind ≠ 1 := by simpa using d1
        simp [headG, d0, this]
      simp -implicitDefEqProofs only [go_sem, c6, c7, upd_ne, n6, n7, m76, m67, d1]
      refine (value_p st hw).run ?_
      rw [en] at eh
      injection eh with eh1 eh2
      injection eh1 with eh3 eh4
      subst eh2
      subst eh3
      subst eh4
      simp -implicitDefEqProofs only [go_sem, c6, c7, upd_ne, n6, n7, m76, m67, valA]
      refine (hacX _ _ _).app (zs := [nodeA (⟨1, (valueP st).1, ⟨0, [], false⟩⟩ : NodeD)]) (by rw [uz_n]; decide) (by rw [ub_n]; decide) (fun k hk => hk) (by rw [uz_n]; exact sized_n _) (by rw [uz_n]; exact sized_n [(⟨1, (valueP st).1, ⟨0, [], false⟩⟩ : NodeD)]) (by rw [ub_n]; simp; omega) fun y3 H3 hy3 hk3 => ?_
      have hH3 : H3 id = some (PO (valueP st).2) := hk3 _ _ _ (upd_same ..)
      have hb3 : H3 i6 = some (.obj [.v (.int .i64 (⟨1, (valueP st).1, ⟨0, [], false⟩⟩ : NodeD).op), .v (.int .i64 (⟨1, (valueP st).1, ⟨0, [], false⟩⟩ : NodeD).val.kind), .v (.int .i64 (⟨1, (valueP st).1, ⟨0, [], false⟩⟩ : NodeD).val.n), .s (⟨1, (valueP st).1, ⟨0, [], false⟩⟩ : NodeD).val.s, .v (.int .i64 (⟨1, (valueP st).1, ⟨0, [], false⟩⟩ : NodeD).attr.cat), .s (⟨1, (valueP st).1, ⟨0, [], false⟩⟩ : NodeD).attr.name, .v (.bool (⟨1, (valueP st).1, ⟨0, [], false⟩⟩ : NodeD).attr.must)] 172) := hk3 _ _ _ ((upd_other _ _ n6).trans (upd_same ..))
      simp -implicitDefEqProofs only [go_sem, hy3.len, List.length_append, List.length_map, List.length_cons, List.length_nil, Nat.zero_add, hdec]
      refine (limit_ok (valueP st).2 _ hha.1).go hH3 ?_
      simp -implicitDefEqProofs only [go_sem, upd_ne, n6, hb3]
      refine ⟨.of (by kernel_rfl), ?_⟩
      have efin : exprF (f + 1) st l = ((l ++ [(⟨1, (valueP st).1, ⟨0, [], false⟩⟩ : NodeD)], (⟨1, (valueP st).1, ⟨0, [], false⟩⟩ : NodeD).op == 2), limitD (valueP st).2 (decide (32 < l.length + 1))) := by simp only [exprF, en]
      exact .mk (.tup [y3, .v (.bool ((⟨1, (valueP st).1, ⟨0, [], false⟩⟩ : NodeD).op == 2))]) (.refl _) (.refl _) ⟨y3, by rw [efin], by rw [efin]; exact upd_same .., by rw [efin, List.map_append]; exact hy3.put (upd_same ..) hH3 _⟩
    · have k1 : (hereD st).kind = 1 := by simpa using d1
      cases d2 : ((hereD st).s == [116, 114, 117, 101])
      · have k2 : (hereD st).s ≠ trueT := by unfold trueT; simpa using d2
        cases d3 : ((hereD st).s == [102, 97, 108, 115, 101])
        · have k3 : (hereD st).s ≠ falseT := by unfold falseT; simpa using d3
          have en : headG (exprF f) st l = ((l, ⟨2, ⟨0, 0, []⟩, (attrP st).1⟩), (attrP st).2) := by simp [headG, d0, k1, k2, k3]
          simp -implicitDefEqProofs only [go_sem, c6, c7, upd_ne, n6, n7, m76, m67, d1, d2, d3, Bool.not_false]
          refine (attr_p st hw).run ?_
          rw [en] at eh
          injection eh with eh1 eh2
          injection eh1 with eh3 eh4
          subst eh2
          subst eh3
          subst eh4
          simp -implicitDefEqProofs only [go_sem, c6, c7, upd_ne, n6, n7, m76, m67, attrA]
          refine (hacX _ _ _).app (zs := [nodeA (⟨2, ⟨0, 0, []⟩, (attrP st).1⟩ : NodeD)]) (by rw [uz_n]; decide) (by rw [ub_n]; decide) (fun k hk => hk) (by rw [uz_n]; exact sized_n _) (by rw [uz_n]; exact sized_n [(⟨2, ⟨0, 0, []⟩, (attrP st).1⟩ : NodeD)]) (by rw [ub_n]; simp; omega) fun y3 H3 hy3 hk3 => ?_
          have hH3 : H3 id = some (PO (attrP st).2) := hk3 _ _ _ (upd_same ..)
          have hb3 : H3 i6 = some (.obj [.v (.int .i64 (⟨2, ⟨0, 0, []⟩, (attrP st).1⟩ : NodeD).op), .v (.int .i64 (⟨2, ⟨0, 0, []⟩, (attrP st).1⟩ : NodeD).val.kind), .v (.int .i64 (⟨2, ⟨0, 0, []⟩, (attrP st).1⟩ : NodeD).val.n), .s (⟨2, ⟨0, 0, []⟩, (attrP st).1⟩ : NodeD).val.s, .v (.int .i64 (⟨2, ⟨0, 0, []⟩, (attrP st).1⟩ : NodeD).attr.cat), .s (⟨2, ⟨0, 0, []⟩, (attrP st).1⟩ : NodeD).attr.name, .v (.bool (⟨2, ⟨0, 0, []⟩, (attrP st).1⟩ : NodeD).attr.must)] 172) := hk3 _ _ _ ((upd_other _ _ n6).trans (upd_same ..))
          simp -implicitDefEqProofs only [go_sem, hy3.len, List.length_append, List.length_map, List.length_cons, List.length_nil, Nat.zero_add, hdec]
          refine (limit_ok (attrP st).2 _ hha.1).go hH3 ?_
          simp -implicitDefEqProofs only [go_sem, upd_ne, n6, hb3]
          refine ⟨.of (by kernel_rfl), ?_⟩
          have efin : exprF (f + 1) st l = ((l ++ [(⟨2, ⟨0, 0, []⟩, (attrP st).1⟩ : NodeD)], (⟨2, ⟨0, 0, []⟩, (attrP st).1⟩ : NodeD).op == 2), limitD (attrP st).2 (decide (32 < l.length + 1))) := by simp only [exprF, en]
          exact .mk (.tup [y3, .v (.bool ((⟨2, ⟨0, 0, []⟩, (attrP st).1⟩ : NodeD).op == 2))]) (.refl _) (.refl _) ⟨y3, by rw [efin], by rw [efin]; exact upd_same .., by rw [efin, List.map_append]; exact hy3.put (upd_same ..) hH3 _⟩
        · have k3 : (hereD st).s = falseT := by unfold falseT; simpa using d3
          have en : headG (exprF f) st l = ((l, ⟨1, (valueP st).1, ⟨0, [], false⟩⟩), (valueP st).2) := by simp [headG, d0, k1, k2, k3]
          simp -implicitDefEqProofs only [go_sem, c6, c7, upd_ne, n6, n7, m76, m67, d1, d2, d3, Bool.not_false, Bool.not_true]
          refine (value_p st hw).run ?_
          rw [en] at eh
          injection eh with eh1 eh2
          injection eh1 with eh3 eh4
          subst eh2
          subst eh3
          subst eh4
          simp -implicitDefEqProofs only [go_sem, c6, c7, upd_ne, n6, n7, m76, m67, valA]
          refine (hacX _ _ _).app (zs := [nodeA (⟨1, (valueP st).1, ⟨0, [], false⟩⟩ : NodeD)]) (by rw [uz_n]; decide) (by rw [ub_n]; decide) (fun k hk => hk) (by rw [uz_n]; exact sized_n _) (by rw [uz_n]; exact sized_n [(⟨1, (valueP st).1, ⟨0, [], false⟩⟩ : NodeD)]) (by rw [ub_n]; simp; omega) fun y3 H3 hy3 hk3 => ?_
          have hH3 : H3 id = some (PO (valueP st).2) := hk3 _ _ _ (upd_same ..)
          have hb3 : H3 i6 = some (.obj [.v (.int .i64 (⟨1, (valueP st).1, ⟨0, [], false⟩⟩ : NodeD).op), .v (.int .i64 (⟨1, (valueP st).1, ⟨0, [], false⟩⟩ : NodeD).val.kind), .v (.int .i64 (⟨1, (valueP st).1, ⟨0, [], false⟩⟩ : NodeD).val.n), .s (⟨1, (valueP st).1, ⟨0, [], false⟩⟩ : NodeD).val.s, .v (.int .i64 (⟨1, (valueP st).1, ⟨0, [], false⟩⟩ : NodeD).attr.cat), .s (⟨1, (valueP st).1, ⟨0, [], false⟩⟩ : NodeD).attr.name, .v (.bool (⟨1, (valueP st).1, ⟨0, [], false⟩⟩ : NodeD).attr.must)] 172) := hk3 _ _ _ ((upd_other _ _ n6).trans (upd_same ..))
          simp -implicitDefEqProofs only [go_sem, hy3.len, List.length_append, List.length_map, List.length_cons, List.length_nil, Nat.zero_add, hdec]
          refine (limit_ok (valueP st).2 _ hha.1).go hH3 ?_
          simp -implicitDefEqProofs only [go_sem, upd_ne, n6, hb3]
          refine ⟨.of (by kernel_rfl), ?_⟩
          have efin : exprF (f + 1) st l = ((l ++ [(⟨1, (valueP st).1, ⟨0, [], false⟩⟩ : NodeD)], (⟨1, (valueP st).1, ⟨0, [], false⟩⟩ : NodeD).op == 2), limitD (valueP st).2 (decide (32 < l.length + 1))) := by simp only [exprF, en]
          exact .mk (.tup [y3, .v (.bool ((⟨1, (valueP st).1, ⟨0, [], false⟩⟩ : NodeD).op == 2))]) (.refl _) (.refl _) ⟨y3, by rw [efin], by rw [efin]; exact upd_same .., by rw [efin, List.map_append]; exact hy3.put (upd_same ..) hH3 _⟩
      · have k2 : (hereD st).s = trueT := by unfold trueT; simpa using d2
        have en : headG (exprF f) st l = ((l, ⟨1, (valueP st).1, ⟨0, [], false⟩⟩), (valueP st).2) := by simp [headG, d0, k1, k2]
        simp -implicitDefEqProofs only [go_sem, c6, c7, upd_ne, n6, n7, m76, m67, d1, d2, Bool.not_true]
        refine (value_p st hw).run ?_
        rw [en] at eh
        injection eh with eh1 eh2
        injection eh1 with eh3 eh4
        subst eh2
        subst eh3
        subst eh4
        simp -implicitDefEqProofs only [go_sem, c6, c7, upd_ne, n6, n7, m76, m67, valA]
        refine (hacX _ _ _).app (zs := [nodeA (⟨1, (valueP st).1, ⟨0, [], false⟩⟩ : NodeD)]) (by rw [uz_n]; decide) (by rw [ub_n]; decide) (fun k hk => hk) (by rw [uz_n]; exact sized_n _) (by rw [uz_n]; exact sized_n [(⟨1, (valueP st).1, ⟨0, [], false⟩⟩ : NodeD)]) (by rw [ub_n]; simp; omega) fun y3 H3 hy3 hk3 => ?_
        have hH3 : H3 id = some (PO (valueP st).2) := hk3 _ _ _ (upd_same ..)
        have hb3 : H3 i6 = some (.obj [.v (.int .i64 (⟨1, (valueP st).1, ⟨0, [], false⟩⟩ : NodeD).op), .v (.int .i64 (⟨1, (valueP st).1, ⟨0, [], false⟩⟩ : NodeD).val.kind), .v (.int .i64 (⟨1, (valueP st).1, ⟨0, [], false⟩⟩ : NodeD).val.n), .s (⟨1, (valueP st).1, ⟨0, [], false⟩⟩ : NodeD).val.s, .v (.int .i64 (⟨1, (valueP st).1, ⟨0, [], false⟩⟩ : NodeD).attr.cat), .s (⟨1, (valueP st).1, ⟨0, [], false⟩⟩ : NodeD).attr.name, .v (.bool (⟨1, (valueP st).1, ⟨0, [], false⟩⟩ : NodeD).attr.must)] 172) := hk3 _ _ _ ((upd_other _ _ n6).trans (upd_same ..))
        simp -implicitDefEqProofs only [go_sem, hy3.len, List.length_append, List.length_map, List.length_cons, List.length_nil, Nat.zero_add, hdec]
        refine (limit_ok (valueP st).2 _ hha.1).go hH3 ?_
        simp -implicitDefEqProofs only [go_sem, upd_ne, n6, hb3]
        refine ⟨.of (by kernel_rfl), ?_⟩
        have efin : exprF (f + 1) st l = ((l ++ [(⟨1, (valueP st).1, ⟨0, [], false⟩⟩ : NodeD)], (⟨1, (valueP st).1, ⟨0, [], false⟩⟩ : NodeD).op == 2), limitD (valueP st).2 (decide (32 < l.length + 1))) := by simp only [exprF, en]
        exact .mk (.tup [y3, .v (.bool ((⟨1, (valueP st).1, ⟨0, [], false⟩⟩ : NodeD).op == 2))]) (.refl _) (.refl _) ⟨y3, by rw [efin], by rw [efin]; exact upd_same .., by rw [efin, List.map_append]; exact hy3.put (upd_same ..) hH3 _⟩
  · have et : takeD st [40] = (true, nextD st) := by simp [takeD, d0]
    have h1 := ah_next hw (isD_kind d0)
    have hnp : (nextD st).pos = st.pos + 1 := rfl
    have hnt : (nextD st).ts = st.ts := rfl
    rw [et]
    simp -implicitDefEqProofs only [go_sem, c6, c7]
    have ef : funcG (exprF f) (nextD st) l = ((lh, n), sth) := by rw [← eh]; simp [headG, d0]
    have hfx := function_x (exprF_ok f) ih (nextD st) l h1.1 (by rw [hnt]; omega) (by omega)
    simp only [ef] at hfx
    refine hfx.run (acc_step (hac7 _) _) fun y2 K2 hac2 => ?_
    have k6 := hac2.1 _ _ g6
    rw [upd_other _ _ n6] at k6
    simp -implicitDefEqProofs only [go_sem, c6, c7, upd_ne, n6, n7, k6, nodeA, valA, attrA]
    have hac3 := (acc_less hsG hac2).put gi6 ((upd_other _ _ n6).trans k6) (some (.obj [.v (.int .i64 n.op), .v (.int .i64 n.val.kind), .v (.int .i64 n.val.n), .s n.val.s, .v (.int .i64 n.attr.cat), .s n.attr.name, .v (.bool n.attr.must)] 172))
    rw [c6] at hac3
    refine (hac3).app (zs := [nodeA n]) (by rw [uz_n]; decide) (by rw [ub_n]; decide) (fun k hk => hk) (by rw [uz_n]; exact sized_n _) (by rw [uz_n]; exact sized_n [n]) (by rw [ub_n]; simp; omega) fun y3 H3 hy3 hk3 => ?_
    have hH3 : H3 id = some (PO sth) := hk3 _ _ _ (upd_same ..)
    have hb3 : H3 i6 = some (.obj [.v (.int .i64 n.op), .v (.int .i64 n.val.kind), .v (.int .i64 n.val.n), .s n.val.s, .v (.int .i64 n.attr.cat), .s n.attr.name, .v (.bool n.attr.must)] 172) := hk3 _ _ _ ((upd_other _ _ n6).trans (upd_same ..))
    simp -implicitDefEqProofs only [go_sem, hy3.len, List.length_append, List.length_map, List.length_cons, List.length_nil, Nat.zero_add, hdec]
    refine (limit_ok sth _ hha.1).go hH3 ?_
    simp -implicitDefEqProofs only [go_sem, upd_ne, n6, hb3]
    refine ⟨.of (by kernel_rfl), ?_⟩
    have efin : exprF (f + 1) st l = ((lh ++ [n], n.op == 2), limitD sth (decide (32 < lh.length + 1))) := by simp only [exprF, eh]
    exact .mk (.tup [y3, .v (.bool (n.op == 2))]) (.refl _) (.refl _) ⟨y3, by rw [efin], by rw [efin]; exact upd_same .., by rw [efin, List.map_append]; exact hy3.put (upd_same ..) hH3 _⟩
theorem expr_x : ∀ f, EH (exprF f) f
  | 0 => fun st l hw hf _ => absurd hw.1 (by omega)
  | f + 1 => expr_s f (expr_x f)
end Go.Proofs.YtnhelgnmadbpgaaGreatDoor

set_option linter.unusedSimpArgs false
set_option linter.unusedVariables false
namespace Go.Proofs.YtnhelgnmadbpgaaGreatDoor
open Go Go.Ab Go.Bf
theorem fnok_loose {P : Program} {f : FuncId} {args : List AV} {h : Heap} {Q Q' : AV → Heap → Prop} (hf : FnOK P f args h Q) (hq : ∀ x h1, Q x h1 → ∃ y h2, Weak x y ∧ Sub h2 h1 ∧ Q' y h2) : FnOK P f args h Q' :=
  fun c vs h1 h2 h3 h4 => (hf c vs h1 h2 h3 h4).mono fun u w' ⟨c', x, h', g1, g2, g3, g4, g5, g6⟩ => by
    obtain ⟨y, h'', k1, k2, k3⟩ := hq x h' g6
    exact ⟨c', y, h'', g1, g2, g3, g4.weak k1, k2.trans g5, k3⟩
def flat : AV → AV
  | .sl xs _ => .sl xs .no
  | x => x
theorem weak_flat (xs : List AV) : Weak (.agg xs) (.agg (xs.map flat)) := .agg _ _ (by simp) fun i h1 h2 => by
  rw [List.getElem_map]
  cases xs[i] <;> first | exact .refl _ | exact .sl _ _
theorem operand_p (st : PS) (hw : WfP st) : PC 188 [.sl [] .full, .v (.bool false)] st (condA (operG (exprF st.ts.length) st [] false).1) (operG (exprF st.ts.length) st [] false).2 := .of fun G id => by
  have hx := operand_x (exprF_ok st.ts.length) (expr_x st.ts.length) st [] false hw (by omega) (by simp)
  refine fnok_loose (hx G G id (.sl [] .full) (.full (base_start G id _))) fun r h1 ⟨y', e1, e2, e3⟩ => ⟨_, upd G id (some (PO (operG (exprF st.ts.length) st [] false).2)), ?_, base_end e3.1 e2, rfl, rfl⟩
  subst e1
  exact e3.weak
set_option maxRecDepth 20000 in
theorem rule_p (deny : Bool) (st : PS) (hw : WfP st) : PC 162 [.v (.bool deny)] st (ruleA (ruleP deny st).1) (ruleP deny st).2 := .of fun G id => by
  have h1 := ah_name hw
  have h2 := ah_tgt h1.1
  have h3 := ah_cond h2.1
  have h4 := ah_obls h3.1
  have ht := tgt_p _ h1.1
  simp only [tgtA] at ht
  refine FnOK.body hU hm Tryz.func162 rfl (by kernel_rfl) 23 rfl [.cell 4 169] rfl (Nat.le_of_ble_eq_true rfl) (fun hwf => ?_)
  simp -implicitDefEqProofs only [go_sem]
  intro i4 hi4
  have n4 := ne_upd hi4
  have hG4 : G i4 = none := by rw [upd_other _ _ n4] at hi4; exact hi4
  have c4 : ∀ (f : Heap) (x y : Option Blk), upd (upd f id x) i4 y = upd (upd f i4 y) id x := fun f x y => upd_comm f x y n4.symm
  simp -implicitDefEqProofs only [go_sem, c4]
  refine (pname_ok st hw).run ?_
  simp -implicitDefEqProofs only [go_sem, c4]
  refine ht.run ?_
  simp -implicitDefEqProofs only [go_sem, c4]
  intro i5 hi5
  have n5 := ne_upd hi5
  have hi5' := hi5
  rw [upd_other _ _ n5] at hi5'
  have n54 := ne_upd hi5'
  have m54 : ¬ i5 = i4 := n54
  have m45 : ¬ i4 = i5 := n54.symm
  have hG5 : G i5 = none := by rw [upd_other _ _ n54] at hi5'; exact hi5'
  have c5 : ∀ (f : Heap) (x y : Option Blk), upd (upd f id x) i5 y = upd (upd f i5 y) id x := fun f x y => upd_comm f x y n5.symm
  have c45 : ∀ (f : Heap) (x y : Option Blk), upd (upd f i5 x) i4 y = upd (upd f i4 y) i5 x := fun f x y => upd_comm f x y n54
  simp -implicitDefEqProofs only [go_sem, c4, c5, c45, upd_ne, n4, n5, m54, m45]
  refine (take_ok _ ifT h2.1).run ?_
  cases d0 : isD (tgtP (nameP st).2).2 ifT
  · have et : takeD (tgtP (nameP st).2).2 ifT = (false, (tgtP (nameP st).2).2) := by simp [takeD, d0]
    have ec : condP (tgtP (nameP st).2).2 = ([], (tgtP (nameP st).2).2) := by simp [condP, d0]
    have er : ruleP deny st = (⟨(nameP st).1, deny, (tgtP (nameP st).2).1, [], (oblsP (tgtP (nameP st).2).2).1⟩, mustD (oblsP (tgtP (nameP st).2).2).2 [59]) := by simp only [ruleP, ec]
    rw [ec] at h4
    have ho := duties_p _ h2.1
    simp only [oblsA] at ho
    rw [et]
    simp -implicitDefEqProofs only [go_sem, c4, c5, c45, upd_ne, n4, n5, m54, m45]
    refine ho.run ?_
    simp -implicitDefEqProofs only [go_sem, c4, c5, c45, upd_ne, n4, n5, m54, m45]
    refine (must_ok _ [59] h4.1).run ?_
    simp -implicitDefEqProofs only [go_sem, c4, c5, c45, upd_ne, n4, n5, m54, m45]
    exact .mk (h' := upd G id (some (PO (mustD (oblsP (tgtP (nameP st).2).2).2 [59])))) (ruleA ⟨(nameP st).1, deny, (tgtP (nameP st).2).1, [], (oblsP (tgtP (nameP st).2).2).1⟩) (weak_flat _) (Sub.both (by repeat (first | exact .refl _ | refine Sub.put ?_ (by assumption) _)) _ _) ⟨by rw [er], by rw [er]⟩
  · have et : takeD (tgtP (nameP st).2).2 ifT = (true, nextD (tgtP (nameP st).2).2) := by simp [takeD, d0]
    obtain ⟨⟨cn, stc⟩, ec⟩ : ∃ x, condP (tgtP (nameP st).2).2 = x := ⟨_, rfl⟩
    have er : ruleP deny st = (⟨(nameP st).1, deny, (tgtP (nameP st).2).1, cn, (oblsP stc).1⟩, mustD (oblsP stc).2 [59]) := by simp only [ruleP, ec]
    have hcnd := operand_p (nextD (tgtP (nameP st).2).2) (ah_next h2.1 (isD_kind d0)).1
    have ec2 : operG (exprF (nextD (tgtP (nameP st).2).2).ts.length) (nextD (tgtP (nameP st).2).2) [] false = (cn, stc) := by rw [← ec]; simp only [condP, d0, if_true]; rfl
    rw [ec2] at hcnd
    simp only [condA] at hcnd
    rw [ec] at h3 h4
    have ho := duties_p _ h3.1
    simp only [oblsA] at ho
    rw [et]
    simp -implicitDefEqProofs only [go_sem, c4, c5, c45, upd_ne, n4, n5, m54, m45]
    refine hcnd.run ?_
    simp -implicitDefEqProofs only [go_sem, c4, c5, c45, upd_ne, n4, n5, m54, m45]
    refine ho.run ?_
    simp -implicitDefEqProofs only [go_sem, c4, c5, c45, upd_ne, n4, n5, m54, m45]
    refine (must_ok _ [59] h4.1).run ?_
    simp -implicitDefEqProofs only [go_sem, c4, c5, c45, upd_ne, n4, n5, m54, m45]
    exact .mk (h' := upd G id (some (PO (mustD (oblsP stc).2 [59])))) (ruleA ⟨(nameP st).1, deny, (tgtP (nameP st).2).1, cn, (oblsP stc).1⟩) (weak_flat _) (Sub.both (by repeat (first | exact .refl _ | refine Sub.put ?_ (by assumption) _)) _ _) ⟨by rw [er], by rw [er]⟩
end Go.Proofs.YtnhelgnmadbpgaaGreatDoor

set_option linter.unusedSimpArgs false
set_option linter.unusedVariables false
namespace Go.Proofs.YtnhelgnmadbpgaaGreatDoor
open Go Go.Ab Go.Bf
theorem uz_r : (U 169).sz = 5 := by simp only [go_sem]
theorem ub_r : (U 169).bytes = 96 := by simp only [go_sem]
theorem sized_r (l : List RuleD) : Sized 5 (l.map ruleA) := fun z hz => by
  obtain ⟨c, _, rfl⟩ := List.mem_map.1 hz; rfl
set_option maxRecDepth 20000 in
theorem some_p (st : PS) (hw : WfP st) (hr : st.rules ≤ 64) : PC 121 [] st (.sl ((someF 17 st []).1.map ruleA) .no) (someF 17 st []).2 := .of fun G id => by
  obtain ⟨M, eM⟩ : ∃ M, someF 17 st [] = M := ⟨_, rfl⟩
  rw [eM]
  refine FnOK.body hU hm Tryz.func121 rfl (by kernel_rfl) 51 rfl [.tmp 2] rfl (Nat.le_of_ble_eq_true rfl) (fun hwf => ?_)
  simp -implicitDefEqProofs only [go_sem]
  have hB : upd G id none id = none := upd_same ..
  refine .intro (fun m ρ H => ∃ (f : Nat) (st' : PS) (l : List RuleD) (y : AV), H id = some (PO st') ∧ Acc U 169 (upd G id none) H y (l.map ruleA) ∧ Ah st st' ∧ st'.rules ≤ 64 ∧ someF f st' l = M ∧ f + l.length = 17 ∧ l.length ≤ 16 ∧ m = f ∧ lk ρ 0 = some (.ptr id 0) ∧ lk ρ 3 = some y) 17 ?_ ?_
  · refine ⟨17, st, [], .sl ([].map ruleA) .full, upd_same .., .full (base_start G id _), .refl hw, hr, eM, by simp, by simp, rfl, ?_, ?_⟩ <;> simp -implicitDefEqProofs only [go_sem] <;> rfl
  · rintro m ρ H ⟨f, st', l, y, hH, hy, ha, hru, hfin, hf, hll, rfl, r0, r3⟩
    have hlen := ha.1.2.2
    have hpos := ha.1.1
    obtain ⟨g, rfl⟩ : ∃ g, m = g + 1 := ⟨m - 1, by omega⟩
    simp -implicitDefEqProofs only [go_sem, r0, r3]
    refine (is_ok st' permitT ha.1).go hH ?_
    rw [upd_self hH]
    have fin : isD st' permitT = false → isD st' denyT = false → (l, st') = M := fun d1 d2 => by
      rw [← hfin]; simp [someF, d1, d2]
    have rest : isD st' permitT = true ∨ isD st' denyT = true → True := fun _ => trivial
    cases d1 : isD st' permitT
    · simp -implicitDefEqProofs only [go_sem, r0, r3]
      refine (is_ok st' denyT ha.1).go hH ?_
      rw [upd_self hH]
      cases d2 : isD st' denyT
      · simp -implicitDefEqProofs only [go_sem, r0, r3]
        have e := fin d1 d2
        exact .mk (h' := upd G id (some (PO M.2))) (.sl (M.1.map ruleA) .no) (by rw [← e]; exact hy.weak) (by rw [← e]; exact base_end hy.1 hH) ⟨rfl, rfl⟩
      · have hd : isD st' permitT = true ∨ isD st' denyT = true := by first | exact .inl d1 | exact .inr d2
        have eb := (isD_or hd).1
        have ek := (isD_or hd).2
        have db : (st'.bad != 0) = false := by simp [eb]
        have gP := hH
        unfold PO at gP
        have lim : l.length = 16 ∨ st'.rules = 64 → (l, limitD st' true) = M := fun h => by
          rw [← hfin]; simp only [someF, if_pos hd, if_pos h]
        have hdl : limitD st' true = wrongD st' 6 (hereD st').pos := rfl
        have hlb : ((limitD st' true).bad != 0) = true := by rw [hdl]; simp [wrongD, eb]
        cases dA : ((l.length : Int) == 16)
        · cases dB : ((st'.rules : Int) == 64)
          · have nA : l.length ≠ 16 := fun e => by rw [e] at dA; simp at dA
            have nB : st'.rules ≠ 64 := fun e => by rw [e] at dB; simp at dB
            have hno : ¬ (l.length = 16 ∨ st'.rules = 64) := fun h => h.elim nA nB
            simp only [someF, if_pos hd, if_neg hno] at hfin
            simp -implicitDefEqProofs only [go_sem, r0, r3, hy.len, List.length_map, dA, gP, dB]
            refine (limit_ok st' false ha.1).go hH ?_
            rw [show limitD st' false = st' from rfl, upd_self hH]
            have w1 : IntKind.i64.wrap ((st'.rules : Int) + 1) = ((st'.rules + 1 : Nat) : Int) := by rw [wr64 _ (by omega)]; omega
            have w2 : IntKind.i64.wrap ((st'.pos : Int) + 1) = ((st'.pos + 1 : Nat) : Int) := by rw [wr64 _ (by omega)]; omega
            simp -implicitDefEqProofs only [go_sem, r0, r3, gP, db, w1]
            have hwr : WfP { st' with rules := st'.rules + 1 } := ha.1
            refine (is_ok { st' with rules := st'.rules + 1 } denyT hwr).go (upd_same ..) ?_
            rw [upd_upd]
            have g2 : upd H id (some (PO { st' with rules := st'.rules + 1 })) id = some (.obj [.sl (st'.ts.map tokA) .no, .v (.int .i64 st'.pos), .v (.int .i64 (st'.rules + 1 : Nat)), .v (.int .i64 st'.bad), .v (.int .i64 st'.place)] 141) := upd_same ..
            simp -implicitDefEqProofs only [go_sem, r0, r3, g2, w2]
            have h2 : Ah st' { nextD st' with rules := st'.rules + 1 } := ah_rules ha.1 ek
            have h3 := ah_rule (isD st' denyT) h2.1
            have hrp := rule_p (isD st' denyT) { nextD st' with rules := st'.rules + 1 } h2.1
            have hr3 := (rch_pos (rch_rule (isD st' denyT) { nextD st' with rules := st'.rules + 1 })).2.2
            obtain ⟨x, st2, e2⟩ : ∃ x st2, ruleP (isD st' denyT) { nextD st' with rules := st'.rules + 1 } = (x, st2) := ⟨_, _, rfl⟩
            rw [e2] at hfin hrp h3 hr3
            simp only [ruleA] at hrp hfin h3 hr3
            refine hrp.go (upd_same ..) ?_
            rw [upd_upd]
            simp -implicitDefEqProofs only [go_sem, r0, r3]
            refine (hy.put hB hH _).app (zs := [ruleA x]) (by rw [uz_r]; decide) (by rw [ub_r]; decide) (fun k hk => hk) (by rw [uz_r]; exact sized_r l) (by rw [uz_r]; exact sized_r [x]) (by rw [ub_r]; simp; omega) fun y' H2 hy' hk2 => ?_
            have hH2 : H2 id = some (PO st2) := hk2 _ _ _ (upd_same ..)
            simp -implicitDefEqProofs only [go_sem, r0, r3]
            refine ⟨_, ?_, g, st2, l ++ [x], y', hH2, by rw [List.map_append]; exact hy', (ha.trans h2).trans h3, by omega, hfin, by simp; omega, by simp; omega, rfl, ?_, ?_⟩
            · omega
            all_goals simp -implicitDefEqProofs only [go_sem, r0, r3]
          · have nB : st'.rules = 64 := by have : (st'.rules : Int) = 64 := by simpa using dB
                                           omega
            have e := lim (.inr nB)
            simp -implicitDefEqProofs only [go_sem, r0, r3, hy.len, List.length_map, dA, gP, dB]
            refine (limit_ok st' true ha.1).go hH ?_
            have g3 : upd H id (some (PO (limitD st' true))) id = some (PO (limitD st' true)) := upd_same ..
            unfold PO at g3
            simp -implicitDefEqProofs only [go_sem, r0, r3, g3, hlb, PO]
            exact .mk (h' := upd G id (some (PO M.2))) (.sl (M.1.map ruleA) .no) (by rw [← e]; exact hy.weak) (by rw [← e]; exact base_end (hy.put hB hH _).1 (upd_same ..)) ⟨rfl, rfl⟩
        · have nA : l.length = 16 := by have : (l.length : Int) = 16 := by simpa using dA
                                        omega
          have e := lim (.inl nA)
          simp -implicitDefEqProofs only [go_sem, r0, r3, hy.len, List.length_map, dA, gP]
          refine (limit_ok st' true ha.1).go hH ?_
          have g3 : upd H id (some (PO (limitD st' true))) id = some (PO (limitD st' true)) := upd_same ..
          unfold PO at g3
          simp -implicitDefEqProofs only [go_sem, r0, r3, g3, hlb, PO]
          exact .mk (h' := upd G id (some (PO M.2))) (.sl (M.1.map ruleA) .no) (by rw [← e]; exact hy.weak) (by rw [← e]; exact base_end (hy.put hB hH _).1 (upd_same ..)) ⟨rfl, rfl⟩
    · have hd : isD st' permitT = true ∨ isD st' denyT = true := by first | exact .inl d1 | exact .inr d2
      have eb := (isD_or hd).1
      have ek := (isD_or hd).2
      have db : (st'.bad != 0) = false := by simp [eb]
      have gP := hH
      unfold PO at gP
      have lim : l.length = 16 ∨ st'.rules = 64 → (l, limitD st' true) = M := fun h => by
        rw [← hfin]; simp only [someF, if_pos hd, if_pos h]
      have hdl : limitD st' true = wrongD st' 6 (hereD st').pos := rfl
      have hlb : ((limitD st' true).bad != 0) = true := by rw [hdl]; simp [wrongD, eb]
      cases dA : ((l.length : Int) == 16)
      · cases dB : ((st'.rules : Int) == 64)
        · have nA : l.length ≠ 16 := fun e => by rw [e] at dA; simp at dA
          have nB : st'.rules ≠ 64 := fun e => by rw [e] at dB; simp at dB
          have hno : ¬ (l.length = 16 ∨ st'.rules = 64) := fun h => h.elim nA nB
          simp only [someF, if_pos hd, if_neg hno] at hfin
          simp -implicitDefEqProofs only [go_sem, r0, r3, hy.len, List.length_map, dA, gP, dB]
          refine (limit_ok st' false ha.1).go hH ?_
          rw [show limitD st' false = st' from rfl, upd_self hH]
          have w1 : IntKind.i64.wrap ((st'.rules : Int) + 1) = ((st'.rules + 1 : Nat) : Int) := by rw [wr64 _ (by omega)]; omega
          have w2 : IntKind.i64.wrap ((st'.pos : Int) + 1) = ((st'.pos + 1 : Nat) : Int) := by rw [wr64 _ (by omega)]; omega
          simp -implicitDefEqProofs only [go_sem, r0, r3, gP, db, w1]
          have hwr : WfP { st' with rules := st'.rules + 1 } := ha.1
          refine (is_ok { st' with rules := st'.rules + 1 } denyT hwr).go (upd_same ..) ?_
          rw [upd_upd]
          have g2 : upd H id (some (PO { st' with rules := st'.rules + 1 })) id = some (.obj [.sl (st'.ts.map tokA) .no, .v (.int .i64 st'.pos), .v (.int .i64 (st'.rules + 1 : Nat)), .v (.int .i64 st'.bad), .v (.int .i64 st'.place)] 141) := upd_same ..
          simp -implicitDefEqProofs only [go_sem, r0, r3, g2, w2]
          have h2 : Ah st' { nextD st' with rules := st'.rules + 1 } := ah_rules ha.1 ek
          have h3 := ah_rule (isD st' denyT) h2.1
          have hrp := rule_p (isD st' denyT) { nextD st' with rules := st'.rules + 1 } h2.1
          have hr3 := (rch_pos (rch_rule (isD st' denyT) { nextD st' with rules := st'.rules + 1 })).2.2
          obtain ⟨x, st2, e2⟩ : ∃ x st2, ruleP (isD st' denyT) { nextD st' with rules := st'.rules + 1 } = (x, st2) := ⟨_, _, rfl⟩
          rw [e2] at hfin hrp h3 hr3
          simp only [ruleA] at hrp hfin h3 hr3
          refine hrp.go (upd_same ..) ?_
          rw [upd_upd]
          simp -implicitDefEqProofs only [go_sem, r0, r3]
          refine (hy.put hB hH _).app (zs := [ruleA x]) (by rw [uz_r]; decide) (by rw [ub_r]; decide) (fun k hk => hk) (by rw [uz_r]; exact sized_r l) (by rw [uz_r]; exact sized_r [x]) (by rw [ub_r]; simp; omega) fun y' H2 hy' hk2 => ?_
          have hH2 : H2 id = some (PO st2) := hk2 _ _ _ (upd_same ..)
          simp -implicitDefEqProofs only [go_sem, r0, r3]
          refine ⟨_, ?_, g, st2, l ++ [x], y', hH2, by rw [List.map_append]; exact hy', (ha.trans h2).trans h3, by omega, hfin, by simp; omega, by simp; omega, rfl, ?_, ?_⟩
          · omega
          all_goals simp -implicitDefEqProofs only [go_sem, r0, r3]
        · have nB : st'.rules = 64 := by have : (st'.rules : Int) = 64 := by simpa using dB
                                         omega
          have e := lim (.inr nB)
          simp -implicitDefEqProofs only [go_sem, r0, r3, hy.len, List.length_map, dA, gP, dB]
          refine (limit_ok st' true ha.1).go hH ?_
          have g3 : upd H id (some (PO (limitD st' true))) id = some (PO (limitD st' true)) := upd_same ..
          unfold PO at g3
          simp -implicitDefEqProofs only [go_sem, r0, r3, g3, hlb, PO]
          exact .mk (h' := upd G id (some (PO M.2))) (.sl (M.1.map ruleA) .no) (by rw [← e]; exact hy.weak) (by rw [← e]; exact base_end (hy.put hB hH _).1 (upd_same ..)) ⟨rfl, rfl⟩
      · have nA : l.length = 16 := by have : (l.length : Int) = 16 := by simpa using dA
                                      omega
        have e := lim (.inl nA)
        simp -implicitDefEqProofs only [go_sem, r0, r3, hy.len, List.length_map, dA, gP]
        refine (limit_ok st' true ha.1).go hH ?_
        have g3 : upd H id (some (PO (limitD st' true))) id = some (PO (limitD st' true)) := upd_same ..
        unfold PO at g3
        simp -implicitDefEqProofs only [go_sem, r0, r3, g3, hlb, PO]
        exact .mk (h' := upd G id (some (PO M.2))) (.sl (M.1.map ruleA) .no) (by rw [← e]; exact hy.weak) (by rw [← e]; exact base_end (hy.put hB hH _).1 (upd_same ..)) ⟨rfl, rfl⟩
end Go.Proofs.YtnhelgnmadbpgaaGreatDoor

set_option linter.unusedSimpArgs false
set_option linter.unusedVariables false
namespace Go.Proofs.YtnhelgnmadbpgaaGreatDoor
open Go Go.Ab Go.Bf
theorem uz_k : (U 32).sz = 7 := by simp only [go_sem]
theorem ub_k : (U 32).bytes = 128 := by simp only [go_sem]
theorem sized_k (l : List PolD) : Sized 7 (l.map polA) := fun z hz => by
  obtain ⟨c, _, rfl⟩ := List.mem_map.1 hz
  cases c; rfl
set_option maxRecDepth 20000 in
theorem kids_p (pol : PoF) (d : Nat) (hd5 : d ≤ 5) (hp : ∀ st, WfP st → st.rules ≤ 64 → d ≤ 4 → PC 82 [.v (.int .i64 d)] st (polA (pol st).1) (pol st).2) (hpa : ∀ st, WfP st → Ah st (pol st).2) (hpr : ∀ st, RchR st (pol st).2)
    (st : PS) (hw : WfP st) (hr : st.rules ≤ 64) : PC 120 [.v (.int .i64 d)] st (.sl ((kidsF pol (decide ((4 : Int) < (d : Int))) 17 st []).1.map polA) .no) (kidsF pol (decide ((4 : Int) < (d : Int))) 17 st []).2 := .of fun G id => by
  obtain ⟨M, eM⟩ : ∃ M, kidsF pol (decide ((4 : Int) < (d : Int))) 17 st [] = M := ⟨_, rfl⟩
  rw [eM]
  refine FnOK.body hU hm Tryz.func120 rfl (by kernel_rfl) 33 rfl [.tmp 4] rfl (Nat.le_of_ble_eq_true rfl) (fun hwf => ?_)
  simp -implicitDefEqProofs only [go_sem]
  have hB : upd G id none id = none := upd_same ..
  refine .intro (fun m ρ H => ∃ (f : Nat) (st' : PS) (l : List PolD) (y : AV), H id = some (PO st') ∧ Acc U 32 (upd G id none) H y (l.map polA) ∧ Ah st st' ∧ st'.rules ≤ 64 ∧ kidsF pol (decide ((4 : Int) < (d : Int))) f st' l = M ∧ f + l.length = 17 ∧ l.length ≤ 16 ∧ m = f ∧ lk ρ 0 = some (.ptr id 0) ∧ lk ρ 1 = some (.v (.int .i64 d)) ∧ lk ρ 5 = some y) 17 ?_ ?_
  · refine ⟨17, st, [], .sl ([].map polA) .full, upd_same .., .full (base_start G id _), .refl hw, hr, eM, by simp, by simp, rfl, ?_, ?_, ?_⟩ <;> simp -implicitDefEqProofs only [go_sem] <;> rfl
  · rintro m ρ H ⟨f, st', l, y, hH, hy, ha, hru, hfin, hf, hll, rfl, r0, r1, r5⟩
    have hlen := ha.1.2.2
    have hpos := ha.1.1
    obtain ⟨g, rfl⟩ : ∃ g, m = g + 1 := ⟨m - 1, by omega⟩
    simp -implicitDefEqProofs only [go_sem, r0, r1, r5]
    refine (is_ok st' policyT ha.1).go hH ?_
    rw [upd_self hH]
    have fin : isD st' policyT = false → isD st' setT = false → (l, st') = M := fun d1 d2 => by
      rw [← hfin]; simp [kidsF, d1, d2]
    cases d1 : isD st' policyT
    · simp -implicitDefEqProofs only [go_sem, r0, r1, r5]
      refine (is_ok st' setT ha.1).go hH ?_
      rw [upd_self hH]
      cases d2 : isD st' setT
      · simp -implicitDefEqProofs only [go_sem, r0, r1, r5]
        have e := fin d1 d2
        exact .mk (h' := upd G id (some (PO M.2))) (.sl (M.1.map polA) .no) (by rw [← e]; exact hy.weak) (by rw [← e]; exact base_end hy.1 hH) ⟨rfl, rfl⟩
      · have hd : isD st' policyT = true ∨ isD st' setT = true := by first | exact .inl d1 | exact .inr d2
        have eb := (isD_or hd).1
        have ek := (isD_or hd).2
        have db : (st'.bad != 0) = false := by simp [eb]
        have gP := hH
        unfold PO at gP
        have lim : l.length = 16 ∨ decide ((4 : Int) < (d : Int)) = true → (l, limitD st' true) = M := fun h => by
          rw [← hfin]; simp only [kidsF, if_pos hd, if_pos h]
        have hdl : limitD st' true = wrongD st' 6 (hereD st').pos := rfl
        have hlb : ((limitD st' true).bad != 0) = true := by rw [hdl]; simp [wrongD, eb]
        cases dA : ((l.length : Int) == 16)
        · cases dB : decide ((4 : Int) < (d : Int))
          · have nA : l.length ≠ 16 := fun e => by rw [e] at dA; simp at dA
            have hno : ¬ (l.length = 16 ∨ decide ((4 : Int) < (d : Int)) = true) := fun h => h.elim nA (fun e => by rw [dB] at e; cases e)
            simp only [kidsF, if_pos hd, if_neg hno] at hfin
            rw [dB] at hfin
            have hd4 : d ≤ 4 := by have := of_decide_eq_false dB; omega
            simp -implicitDefEqProofs only [go_sem, r0, r1, r5, hy.len, List.length_map, dA, gP, dB]
            refine (limit_ok st' false ha.1).go hH ?_
            rw [show limitD st' false = st' from rfl, upd_self hH]
            have h3 := hpa st' ha.1
            have hrp := hp st' ha.1 hru hd4
            have hr3 := rules_pol (hpr st') hru
            obtain ⟨x, st2, e2⟩ : ∃ x st2, pol st' = (x, st2) := ⟨_, _, rfl⟩
            rw [e2] at hfin hrp h3 hr3
            obtain ⟨pid, pset, palg, ptgt, prules, pkids, pobls⟩ := x
            simp only [polA] at hrp hfin h3 hr3
            simp -implicitDefEqProofs only [go_sem, r0, r1, r5, gP, db]
            refine hrp.go hH ?_
            simp -implicitDefEqProofs only [go_sem, r0, r1, r5]
            refine (hy.put hB hH _).app (zs := [polA ⟨pid, pset, palg, ptgt, prules, pkids, pobls⟩]) (by rw [uz_k]; decide) (by rw [ub_k]; decide) (fun k hk => hk) (by rw [uz_k]; exact sized_k l) (by rw [uz_k]; exact sized_k [⟨pid, pset, palg, ptgt, prules, pkids, pobls⟩]) (by rw [ub_k]; simp; omega) fun y' H2 hy' hk2 => ?_
            have hH2 : H2 id = some (PO st2) := hk2 _ _ _ (upd_same ..)
            simp -implicitDefEqProofs only [go_sem, r0, r1, r5]
            refine ⟨_, ?_, g, st2, l ++ [⟨pid, pset, palg, ptgt, prules, pkids, pobls⟩], y', hH2, by rw [List.map_append]; exact hy', ha.trans h3, hr3, hfin, by simp; omega, by simp; omega, rfl, ?_, ?_, ?_⟩
            · omega
            all_goals simp -implicitDefEqProofs only [go_sem, r0, r1, r5]
          · have e := lim (.inr dB)
            simp -implicitDefEqProofs only [go_sem, r0, r1, r5, hy.len, List.length_map, dA, gP, dB]
            refine (limit_ok st' true ha.1).go hH ?_
            have g3 : upd H id (some (PO (limitD st' true))) id = some (PO (limitD st' true)) := upd_same ..
            unfold PO at g3
            simp -implicitDefEqProofs only [go_sem, r0, r1, r5, g3, hlb, PO]
            exact .mk (h' := upd G id (some (PO M.2))) (.sl (M.1.map polA) .no) (by rw [← e]; exact hy.weak) (by rw [← e]; exact base_end (hy.put hB hH _).1 (upd_same ..)) ⟨rfl, rfl⟩
        · have nA : l.length = 16 := by have : (l.length : Int) = 16 := by simpa using dA
                                        omega
          have e := lim (.inl nA)
          simp -implicitDefEqProofs only [go_sem, r0, r1, r5, hy.len, List.length_map, dA, gP]
          refine (limit_ok st' true ha.1).go hH ?_
          have g3 : upd H id (some (PO (limitD st' true))) id = some (PO (limitD st' true)) := upd_same ..
          unfold PO at g3
          simp -implicitDefEqProofs only [go_sem, r0, r1, r5, g3, hlb, PO]
          exact .mk (h' := upd G id (some (PO M.2))) (.sl (M.1.map polA) .no) (by rw [← e]; exact hy.weak) (by rw [← e]; exact base_end (hy.put hB hH _).1 (upd_same ..)) ⟨rfl, rfl⟩
    · have hd : isD st' policyT = true ∨ isD st' setT = true := by first | exact .inl d1 | exact .inr d2
      have eb := (isD_or hd).1
      have ek := (isD_or hd).2
      have db : (st'.bad != 0) = false := by simp [eb]
      have gP := hH
      unfold PO at gP
      have lim : l.length = 16 ∨ decide ((4 : Int) < (d : Int)) = true → (l, limitD st' true) = M := fun h => by
        rw [← hfin]; simp only [kidsF, if_pos hd, if_pos h]
      have hdl : limitD st' true = wrongD st' 6 (hereD st').pos := rfl
      have hlb : ((limitD st' true).bad != 0) = true := by rw [hdl]; simp [wrongD, eb]
      cases dA : ((l.length : Int) == 16)
      · cases dB : decide ((4 : Int) < (d : Int))
        · have nA : l.length ≠ 16 := fun e => by rw [e] at dA; simp at dA
          have hno : ¬ (l.length = 16 ∨ decide ((4 : Int) < (d : Int)) = true) := fun h => h.elim nA (fun e => by rw [dB] at e; cases e)
          simp only [kidsF, if_pos hd, if_neg hno] at hfin
          rw [dB] at hfin
          have hd4 : d ≤ 4 := by have := of_decide_eq_false dB; omega
          simp -implicitDefEqProofs only [go_sem, r0, r1, r5, hy.len, List.length_map, dA, gP, dB]
          refine (limit_ok st' false ha.1).go hH ?_
          rw [show limitD st' false = st' from rfl, upd_self hH]
          have h3 := hpa st' ha.1
          have hrp := hp st' ha.1 hru hd4
          have hr3 := rules_pol (hpr st') hru
          obtain ⟨x, st2, e2⟩ : ∃ x st2, pol st' = (x, st2) := ⟨_, _, rfl⟩
          rw [e2] at hfin hrp h3 hr3
          obtain ⟨pid, pset, palg, ptgt, prules, pkids, pobls⟩ := x
          simp only [polA] at hrp hfin h3 hr3
          simp -implicitDefEqProofs only [go_sem, r0, r1, r5, gP, db]
          refine hrp.go hH ?_
          simp -implicitDefEqProofs only [go_sem, r0, r1, r5]
          refine (hy.put hB hH _).app (zs := [polA ⟨pid, pset, palg, ptgt, prules, pkids, pobls⟩]) (by rw [uz_k]; decide) (by rw [ub_k]; decide) (fun k hk => hk) (by rw [uz_k]; exact sized_k l) (by rw [uz_k]; exact sized_k [⟨pid, pset, palg, ptgt, prules, pkids, pobls⟩]) (by rw [ub_k]; simp; omega) fun y' H2 hy' hk2 => ?_
          have hH2 : H2 id = some (PO st2) := hk2 _ _ _ (upd_same ..)
          simp -implicitDefEqProofs only [go_sem, r0, r1, r5]
          refine ⟨_, ?_, g, st2, l ++ [⟨pid, pset, palg, ptgt, prules, pkids, pobls⟩], y', hH2, by rw [List.map_append]; exact hy', ha.trans h3, hr3, hfin, by simp; omega, by simp; omega, rfl, ?_, ?_, ?_⟩
          · omega
          all_goals simp -implicitDefEqProofs only [go_sem, r0, r1, r5]
        · have e := lim (.inr dB)
          simp -implicitDefEqProofs only [go_sem, r0, r1, r5, hy.len, List.length_map, dA, gP, dB]
          refine (limit_ok st' true ha.1).go hH ?_
          have g3 : upd H id (some (PO (limitD st' true))) id = some (PO (limitD st' true)) := upd_same ..
          unfold PO at g3
          simp -implicitDefEqProofs only [go_sem, r0, r1, r5, g3, hlb, PO]
          exact .mk (h' := upd G id (some (PO M.2))) (.sl (M.1.map polA) .no) (by rw [← e]; exact hy.weak) (by rw [← e]; exact base_end (hy.put hB hH _).1 (upd_same ..)) ⟨rfl, rfl⟩
      · have nA : l.length = 16 := by have : (l.length : Int) = 16 := by simpa using dA
                                      omega
        have e := lim (.inl nA)
        simp -implicitDefEqProofs only [go_sem, r0, r1, r5, hy.len, List.length_map, dA, gP]
        refine (limit_ok st' true ha.1).go hH ?_
        have g3 : upd H id (some (PO (limitD st' true))) id = some (PO (limitD st' true)) := upd_same ..
        unfold PO at g3
        simp -implicitDefEqProofs only [go_sem, r0, r1, r5, g3, hlb, PO]
        exact .mk (h' := upd G id (some (PO M.2))) (.sl (M.1.map polA) .no) (by rw [← e]; exact hy.weak) (by rw [← e]; exact base_end (hy.put hB hH _).1 (upd_same ..)) ⟨rfl, rfl⟩
end Go.Proofs.YtnhelgnmadbpgaaGreatDoor

set_option linter.unusedSimpArgs false
set_option linter.unusedVariables false
namespace Go.Proofs.YtnhelgnmadbpgaaGreatDoor
open Go Go.Ab Go.Bf
set_option maxRecDepth 20000 in
theorem policy_s (r : Nat) (d : Nat) (hrd : r + d = 4) (hp : ∀ st, WfP st → st.rules ≤ 64 → d + 1 ≤ 4 → PC 82 [.v (.int .i64 (d + 1 : Nat))] st (polA (polF r st).1) (polF r st).2) (st : PS) (hw : WfP st) (hr : st.rules ≤ 64) :
    PC 82 [.v (.int .i64 d)] st (polA (polF (r + 1) st).1) (polF (r + 1) st).2 := .of fun G id => by
  have h1 := ah_among kindWs hw
  have h2 := ah_name h1.1
  have h3 := ah_among algWs h2.1
  have h4 := ah_tgt h3.1
  have h5 : Ah _ (headP st).2 := ah_must [123] h4.1
  have ht := tgt_p _ h3.1
  simp only [tgtA] at ht
  have hrh := rules_pol (rch_head st).big hr
  have hset : (headP st).1.1 = ((amongD st kindWs).1 == 2) := rfl
  have w1 : IntKind.i64.wrap ((d : Int) + 1) = ((d + 1 : Nat) : Int) := by rw [wr64 _ (by omega)]; omega
  have hdp : (r == 0) = decide ((4 : Int) < ((d + 1 : Nat) : Int)) := by
    by_cases h : r = 0
    · rw [decide_eq_true (by omega), h]; rfl
    · rw [decide_eq_false (by omega)]; simpa using h
  have hk := kids_p (polF r) (d + 1) (by omega) hp (fun _ h => ah_pol r _ h) (rch_pol r) _ h5.1 hrh
  have hs := some_p _ h5.1 hrh
  refine FnOK.body hU hm Tryz.func82 rfl (by kernel_rfl) 39 rfl [.cell 4 32] rfl (Nat.le_of_ble_eq_true rfl) (fun hwf => ?_)
  simp -implicitDefEqProofs only [go_sem]
  intro i4 hi4
  have n4 := ne_upd hi4
  have hG4 : G i4 = none := by rw [upd_other _ _ n4] at hi4; exact hi4
  have c4 : ∀ (f : Heap) (x y : Option Blk), upd (upd f id x) i4 y = upd (upd f i4 y) id x := fun f x y => upd_comm f x y n4.symm
  simp -implicitDefEqProofs only [go_sem, c4]
  intro i5 hi5
  have n5 := ne_upd hi5
  have hi5' := hi5
  rw [upd_other _ _ n5] at hi5'
  have n54 := ne_upd hi5'
  have m54 : ¬ i5 = i4 := n54
  have m45 : ¬ i4 = i5 := n54.symm
  have hG5 : G i5 = none := by rw [upd_other _ _ n54] at hi5'; exact hi5'
  have c5 : ∀ (f : Heap) (x y : Option Blk), upd (upd f id x) i5 y = upd (upd f i5 y) id x := fun f x y => upd_comm f x y n5.symm
  have c45 : ∀ (f : Heap) (x y : Option Blk), upd (upd f i5 x) i4 y = upd (upd f i4 y) i5 x := fun f x y => upd_comm f x y n54
  simp -implicitDefEqProofs only [go_sem, c4, c5, c45, upd_ne, n4, n5, m54, m45]
  refine (among_ok st kindWs .full (by decide) hw).run ?_
  simp -implicitDefEqProofs only [go_sem, c4, c5, c45, upd_ne, n4, n5, m54, m45]
  refine (pname_ok _ h1.1).run ?_
  simp -implicitDefEqProofs only [go_sem, c4, c5, c45, upd_ne, n4, n5, m54, m45]
  refine (among_ok _ algWs .full (by decide) h2.1).run ?_
  simp -implicitDefEqProofs only [go_sem, c4, c5, c45, upd_ne, n4, n5, m54, m45]
  refine ht.run ?_
  simp -implicitDefEqProofs only [go_sem, c4, c5, c45, upd_ne, n4, n5, m54, m45]
  refine (must_ok _ [123] h4.1).run ?_
  cases ds : ((amongD st kindWs).1 == 2)
  · rw [ds] at hset
    simp -implicitDefEqProofs only [go_sem, c4, c5, c45, upd_ne, n4, n5, m54, m45, ds]
    have eb : bodyP (polF r) (r == 0) (headP st).1.1 (headP st).2 = (((someF 17 (headP st).2 []).1, []), (someF 17 (headP st).2 []).2) := by simp [bodyP, hset]
    have hb := ah_body (fun _ h => ah_pol r _ h) (r == 0) (headP st).1.1 h5.1
    obtain ⟨⟨rl, stb⟩, er⟩ : ∃ x, someF 17 (headP st).2 [] = x := ⟨_, rfl⟩
    rw [er] at eb hs
    rw [eb] at hb
    have ho := duties_p _ (ah_must [125] hb.1).1
    simp only [oblsA] at ho hs
    refine hs.run ?_
    simp -implicitDefEqProofs only [go_sem, c4, c5, c45, upd_ne, n4, n5, m54, m45]
    refine (must_ok _ [125] hb.1).run ?_
    simp -implicitDefEqProofs only [go_sem, c4, c5, c45, upd_ne, n4, n5, m54, m45]
    refine ho.run ?_
    simp -implicitDefEqProofs only [go_sem, c4, c5, c45, upd_ne, n4, n5, m54, m45]
    have efin : polF (r + 1) st = (.mk (headP st).1.2.1 false (headP st).1.2.2.1 (headP st).1.2.2.2 rl [] (oblsP (mustD stb [125])).1, (oblsP (mustD stb [125])).2) := by simp only [polF, eb]; rw [hset]
    exact .mk (h' := upd G id (some (PO (oblsP (mustD stb [125])).2))) (polA (.mk (headP st).1.2.1 false (headP st).1.2.2.1 (headP st).1.2.2.2 rl [] (oblsP (mustD stb [125])).1)) (weak_flat _) (Sub.both (by repeat (first | exact .refl _ | refine Sub.put ?_ (by assumption) _)) _ _) ⟨by rw [efin], by rw [efin]⟩
  · rw [ds] at hset
    simp -implicitDefEqProofs only [go_sem, c4, c5, c45, upd_ne, n4, n5, m54, m45, ds, w1]
    have eb : bodyP (polF r) (r == 0) (headP st).1.1 (headP st).2 = (([], (kidsF (polF r) (r == 0) 17 (headP st).2 []).1), (kidsF (polF r) (r == 0) 17 (headP st).2 []).2) := by simp [bodyP, hset]
    have hb := ah_body (fun _ h => ah_pol r _ h) (r == 0) (headP st).1.1 h5.1
    rw [← hdp] at hk
    obtain ⟨⟨kl, stb⟩, er⟩ : ∃ x, kidsF (polF r) (r == 0) 17 (headP st).2 [] = x := ⟨_, rfl⟩
    rw [er] at eb hk
    rw [eb] at hb
    have ho := duties_p _ (ah_must [125] hb.1).1
    simp only [oblsA] at ho hk
    refine hk.run ?_
    simp -implicitDefEqProofs only [go_sem, c4, c5, c45, upd_ne, n4, n5, m54, m45]
    refine (must_ok _ [125] hb.1).run ?_
    simp -implicitDefEqProofs only [go_sem, c4, c5, c45, upd_ne, n4, n5, m54, m45]
    refine ho.run ?_
    simp -implicitDefEqProofs only [go_sem, c4, c5, c45, upd_ne, n4, n5, m54, m45]
    have efin : polF (r + 1) st = (.mk (headP st).1.2.1 true (headP st).1.2.2.1 (headP st).1.2.2.2 [] kl (oblsP (mustD stb [125])).1, (oblsP (mustD stb [125])).2) := by simp only [polF, eb]; rw [hset]
    exact .mk (h' := upd G id (some (PO (oblsP (mustD stb [125])).2))) (polA (.mk (headP st).1.2.1 true (headP st).1.2.2.1 (headP st).1.2.2.2 [] kl (oblsP (mustD stb [125])).1)) (by simp only [polA, kidsA_eq]; exact weak_flat _) (Sub.both (by repeat (first | exact .refl _ | refine Sub.put ?_ (by assumption) _)) _ _) ⟨by rw [efin], by rw [efin]⟩
theorem policy_p : ∀ (r d : Nat), r + d = 4 → ∀ st, WfP st → st.rules ≤ 64 → PC 82 [.v (.int .i64 d)] st (polA (polF (r + 1) st).1) (polF (r + 1) st).2
  | 0, d, hrd => fun st hw hr => policy_s 0 d hrd (fun _ _ _ h => absurd h (by omega)) st hw hr
  | r + 1, d, hrd => fun st hw hr => policy_s (r + 1) d hrd (fun st hw hr _ => policy_p r (d + 1) (by omega) st hw hr) st hw hr
end Go.Proofs.YtnhelgnmadbpgaaGreatDoor

set_option linter.unusedSimpArgs false
set_option linter.unusedVariables false
namespace Go.Proofs.YtnhelgnmadbpgaaGreatDoor
open Go Go.Ab Go.Bf
theorem anyOf_ok (l : List (List MatchD)) (h : Heap) : FnOK Tryz.prog 179 [anyA l] h fun r h' => r = .v (.int .i64 (anyE l)) ∧ h' = h := by
  refine FnOK.body hU hm Tryz.func179 rfl (by kernel_rfl) 25 rfl [.tmp 2] rfl (Nat.le_of_ble_eq_true rfl) (fun hwf => ?_)
  simp -implicitDefEqProofs only [go_sem, anyA, List.length_map]
  refine (many_ok _ _).pthen ?_
  cases d1 : (manyE l.length != 0)
  case true =>
    have e1 : manyE l.length ≠ 0 := by simpa using d1
    simp -implicitDefEqProofs only [go_sem, d1]
    exact .same (.refl _) ⟨by simp [anyE, e1, oneOr], rfl⟩
  have e1 : manyE l.length = 0 := by simpa using d1
  have hlen := manyE_le e1
  simp -implicitDefEqProofs only [go_sem, d1, List.length_map]
  refine .intro (fun m ρ h' => Ab.Sub h h' ∧ ∃ i : Nat, i ≤ l.length ∧ m = l.length - i ∧ firstE allE (l.take i) = 0 ∧ lk ρ 13 = some (anyA l) ∧ lk ρ 14 = some (.v (.int .i64 l.length)) ∧ lk ρ 15 = some (.v (.int .i64 i))) l.length ?_ ?_
  · refine ⟨.refl _, 0, by omega, rfl, rfl, ?_, ?_, ?_⟩ <;> simp -implicitDefEqProofs only [go_sem, anyA]
  · rintro m ρ h' ⟨hs, i, hi, rfl, hc, r12, r13, r14⟩
    simp -implicitDefEqProofs only [go_sem, r12, r13, r14]
    refine .intro (fun e => ?_) (fun e => ?_)
    · have hlt : i < l.length := Int.ofNat_lt.1 (of_decide_eq_true e)
      have w1 : IntKind.i64.wrap ((i : Int) + 1) = ((i + 1 : Nat) : Int) := by rw [wr64 _ (by omega)]; omega
      simp -implicitDefEqProofs only [go_sem, r12, r13, r14, anyA]
      refine .at i (by simpa using hlt) (by rw [List.getElem_map]; rfl) ?_
      simp -implicitDefEqProofs only [go_sem, r12, r13, r14, List.getElem_map, allA]
      refine (allOf_ok l[i] _).pthen ?_
      cases d2 : (allE l[i] != 0)
      · have e2 : allE l[i] = 0 := by simpa using d2
        simp -implicitDefEqProofs only [go_sem, r12, r13, r14, d2, w1]
        refine ⟨_, ?_, hs, i + 1, by omega, rfl, firstE_take hlt hc e2, ?_, ?_, ?_⟩
        · omega
        all_goals simp -implicitDefEqProofs only [go_sem, r12, r13, r14, w1, anyA]
      · have e2 : allE l[i] ≠ 0 := by simpa using d2
        simp -implicitDefEqProofs only [go_sem, r12, r13, r14, d2]
        refine .mk _ (.refl _) hs ⟨?_, rfl⟩
        simp [anyE, e1, firstE_at hlt hc e2, oneOr]
    · have hge : i = l.length := by have := of_decide_eq_false e; omega
      subst hge
      rw [List.take_length] at hc
      simp -implicitDefEqProofs only [go_sem, r12, r13, r14]
      exact .mk _ (.refl _) hs ⟨by simp [anyE, e1, hc, oneOr], rfl⟩
theorem target_ok (l : TgtD) (h : Heap) : FnOK Tryz.prog 149 [tgtA l] h fun r h' => r = .v (.int .i64 (tgtE l)) ∧ h' = h := by
  refine FnOK.body hU hm Tryz.func149 rfl (by kernel_rfl) 21 rfl [.tmp 2] rfl (Nat.le_of_ble_eq_true rfl) (fun hwf => ?_)
  cases d1 : decide (8 < (l.length : Int))
  case true =>
    have e1 : 8 < l.length := by have := of_decide_eq_true d1; omega
    simp -implicitDefEqProofs only [go_sem, tgtA, List.length_map, d1]
    exact .same (.refl _) ⟨by simp [tgtE, e1, oneOr], rfl⟩
  have e1 : ¬ 8 < l.length := by have := of_decide_eq_false d1; omega
  simp -implicitDefEqProofs only [go_sem, d1, tgtA, List.length_map]
  refine .intro (fun m ρ h' => Ab.Sub h h' ∧ ∃ i : Nat, i ≤ l.length ∧ m = l.length - i ∧ firstE anyE (l.take i) = 0 ∧ lk ρ 9 = some (tgtA l) ∧ lk ρ 10 = some (.v (.int .i64 l.length)) ∧ lk ρ 11 = some (.v (.int .i64 i))) l.length ?_ ?_
  · refine ⟨.refl _, 0, by omega, rfl, rfl, ?_, ?_, ?_⟩ <;> simp -implicitDefEqProofs only [go_sem, tgtA]
  · rintro m ρ h' ⟨hs, i, hi, rfl, hc, r12, r13, r14⟩
    simp -implicitDefEqProofs only [go_sem, r12, r13, r14]
    refine .intro (fun e => ?_) (fun e => ?_)
    · have hlt : i < l.length := Int.ofNat_lt.1 (of_decide_eq_true e)
      have w1 : IntKind.i64.wrap ((i : Int) + 1) = ((i + 1 : Nat) : Int) := by rw [wr64 _ (by omega)]; omega
      simp -implicitDefEqProofs only [go_sem, r12, r13, r14, tgtA]
      refine .at i (by simpa using hlt) (by rw [List.getElem_map]; rfl) ?_
      simp -implicitDefEqProofs only [go_sem, r12, r13, r14, List.getElem_map, anyA]
      refine (anyOf_ok l[i] _).pthen ?_
      cases d2 : (anyE l[i] != 0)
      · have e2 : anyE l[i] = 0 := by simpa using d2
        simp -implicitDefEqProofs only [go_sem, r12, r13, r14, d2, w1]
        refine ⟨_, ?_, hs, i + 1, by omega, rfl, firstE_take hlt hc e2, ?_, ?_, ?_⟩
        · omega
        all_goals simp -implicitDefEqProofs only [go_sem, r12, r13, r14, w1, tgtA]
      · have e2 : anyE l[i] ≠ 0 := by simpa using d2
        simp -implicitDefEqProofs only [go_sem, r12, r13, r14, d2]
        refine .mk _ (.refl _) hs ⟨?_, rfl⟩
        simp [tgtE, e1, firstE_at hlt hc e2, oneOr]
    · have hge : i = l.length := by have := of_decide_eq_false e; omega
      subst hge
      rw [List.take_length] at hc
      simp -implicitDefEqProofs only [go_sem, r12, r13, r14]
      exact .mk _ (.refl _) hs ⟨by simp [tgtE, e1, hc, oneOr], rfl⟩
theorem obls_ok (l : List OblD) (h : Heap) : FnOK Tryz.prog 150 [oblsA l] h fun r h' => r = .v (.int .i64 (oblsE l)) ∧ h' = h := by
  refine FnOK.body hU hm Tryz.func150 rfl (by kernel_rfl) 39 rfl [.tmp 2] rfl (Nat.le_of_ble_eq_true rfl) (fun hwf => ?_)
  cases d1 : decide (8 < (l.length : Int))
  case true =>
    have e1 : 8 < l.length := by have := of_decide_eq_true d1; omega
    simp -implicitDefEqProofs only [go_sem, oblsA, List.length_map, d1]
    exact .same (.refl _) ⟨by simp [oblsE, e1, oneOr], rfl⟩
  have e1 : ¬ 8 < l.length := by have := of_decide_eq_false d1; omega
  simp -implicitDefEqProofs only [go_sem, d1, oblsA, List.length_map]
  refine .intro (fun m ρ h' => Ab.Sub h h' ∧ ∃ i : Nat, i ≤ l.length ∧ m = l.length - i ∧ (l.take i).all oblOK = true ∧ lk ρ 8 = some (oblsA l) ∧ lk ρ 9 = some (.v (.int .i64 l.length)) ∧ lk ρ 10 = some (.v (.int .i64 i))) l.length ?_ ?_
  · refine ⟨.refl _, 0, by omega, rfl, rfl, ?_, ?_, ?_⟩ <;> simp -implicitDefEqProofs only [go_sem, oblsA]
  · rintro m ρ h' ⟨hs, i, hi, rfl, hc, r12, r13, r14⟩
    simp -implicitDefEqProofs only [go_sem, r12, r13, r14]
    refine .intro (fun e => ?_) (fun e => ?_)
    · have hlt : i < l.length := Int.ofNat_lt.1 (of_decide_eq_true e)
      have w1 : IntKind.i64.wrap ((i : Int) + 1) = ((i + 1 : Nat) : Int) := by rw [wr64 _ (by omega)]; omega
      simp -implicitDefEqProofs only [go_sem, r12, r13, r14, oblsA]
      refine .at i (by simpa using hlt) (by rw [List.getElem_map]; rfl) ?_
      simp -implicitDefEqProofs only [go_sem, r12, r13, r14, List.getElem_map, oblA]
      intro id hid
      have bad : oblOK l[i] = false → oblsE l = 1 := fun hb => by
        have : l.all oblOK = false := List.all_eq_false.2 ⟨_, List.getElem_mem hlt, by simp [hb]⟩
        simp [oblsE, e1, this]
      cases c1 : decide (l[i].on < 1)
      case true =>
        simp -implicitDefEqProofs only [go_sem, r12, r13, r14, c1]
        exact .mk _ (.refl _) (hs.new hid _) ⟨by rw [bad (by have := of_decide_eq_true c1; simp [oblOK]; omega)]; rfl, rfl⟩
      cases c2 : decide (2 < l[i].on)
      case true =>
        simp -implicitDefEqProofs only [go_sem, r12, r13, r14, c1, c2]
        exact .mk _ (.refl _) (hs.new hid _) ⟨by rw [bad (by have := of_decide_eq_true c2; simp [oblOK]; omega)]; rfl, rfl⟩
      cases c3 : decide (l[i].kind < 1)
      case true =>
        simp -implicitDefEqProofs only [go_sem, r12, r13, r14, c1, c2, c3]
        exact .mk _ (.refl _) (hs.new hid _) ⟨by rw [bad (by have := of_decide_eq_true c3; simp [oblOK]; omega)]; rfl, rfl⟩
      cases c4 : decide (4 < l[i].kind)
      case true =>
        simp -implicitDefEqProofs only [go_sem, r12, r13, r14, c1, c2, c3, c4]
        exact .mk _ (.refl _) (hs.new hid _) ⟨by rw [bad (by have := of_decide_eq_true c4; simp [oblOK]; omega)]; rfl, rfl⟩
      simp -implicitDefEqProofs only [go_sem, r12, r13, r14, c1, c2, c3, c4]
      refine (name_ok _ _).pthen ?_
      cases d2 : nameOK l[i].arg
      · simp -implicitDefEqProofs only [go_sem, r12, r13, r14, d2]
        exact .mk _ (.refl _) (hs.new hid _) ⟨by rw [bad (by simp [oblOK, d2])]; rfl, rfl⟩
      · simp -implicitDefEqProofs only [go_sem, r12, r13, r14, d2, w1]
        refine ⟨_, ?_, hs.new hid _, i + 1, by omega, rfl, ?_, ?_, ?_, ?_⟩
        · omega
        · have f1 := of_decide_eq_false c1
          have f2 := of_decide_eq_false c2
          have f3 := of_decide_eq_false c3
          have f4 := of_decide_eq_false c4
          rw [List.take_succ_eq_append_getElem hlt, List.all_append, hc]; simp [oblOK, d2]; omega
        all_goals simp -implicitDefEqProofs only [go_sem, r12, r13, r14, w1, oblsA]
    · have hge : i = l.length := by have := of_decide_eq_false e; omega
      subst hge
      rw [List.take_length] at hc
      simp -implicitDefEqProofs only [go_sem, r12, r13, r14]
      exact .mk _ (.refl _) hs ⟨by simp [oblsE, e1, hc, oneOr], rfl⟩
end Go.Proofs.YtnhelgnmadbpgaaGreatDoor

set_option linter.unusedSimpArgs false
set_option linter.unusedVariables false
namespace Go.Proofs.YtnhelgnmadbpgaaGreatDoor
open Go Go.Ab Go.Bf
theorem wants_ok (op : Int) (h : Heap) : FnOK Tryz.prog 193 [.v (.int .i64 op)] h fun r h' => r = (match wantsD op with
    | none => .tup [.sl [] .no, .v (.bool false)]
    | some w => .tup [.sl (w.map boolA) .no, .v (.bool true)]) ∧ h' = h := by
  refine FnOK.body hU hm Tryz.func193 rfl (by kernel_rfl) 35 rfl [.tmp 2, .tmp 3] rfl (Nat.le_of_ble_eq_true rfl) (fun hwf => ?_)
  cases k1 : (op == 1)
  case true =>
    have e1 : op = 1 := by simpa using k1
    simp -implicitDefEqProofs only [go_sem, k1]
    exact .mk _ (weak_strip _) (.refl _) ⟨by simp [wantsD, e1, oneOr, strip, stripL, boolA], rfl⟩
  have n1 : op ≠ 1 := by simpa using k1
  cases k2 : (op == 2)
  case true =>
    have e1 : op = 2 := by simpa using k2
    simp -implicitDefEqProofs only [go_sem, k1, k2]
    exact .mk _ (weak_strip _) (.refl _) ⟨by simp [wantsD, e1, oneOr, strip, stripL, boolA], rfl⟩
  have n2 : op ≠ 2 := by simpa using k2
  cases k3 : (op == 3)
  case true =>
    have e1 : op = 3 := by simpa using k3
    simp -implicitDefEqProofs only [go_sem, k1, k2, k3]
    exact .mk _ (weak_strip _) (.refl _) ⟨by simp [wantsD, e1, oneOr, strip, stripL, boolA], rfl⟩
  have n3 : op ≠ 3 := by simpa using k3
  cases k4 : (op == 4)
  case true =>
    have e1 : op = 4 := by simpa using k4
    simp -implicitDefEqProofs only [go_sem, k1, k2, k3, k4]
    exact .mk _ (weak_strip _) (.refl _) ⟨by simp [wantsD, e1, oneOr, strip, stripL, boolA], rfl⟩
  have n4 : op ≠ 4 := by simpa using k4
  cases k5 : (op == 5)
  case true =>
    have e1 : op = 5 := by simpa using k5
    simp -implicitDefEqProofs only [go_sem, k1, k2, k3, k4, k5]
    exact .mk _ (weak_strip _) (.refl _) ⟨by simp [wantsD, e1, oneOr, strip, stripL, boolA], rfl⟩
  have n5 : op ≠ 5 := by simpa using k5
  cases k11 : (op == 11)
  case true =>
    have e1 : op = 11 := by simpa using k11
    simp -implicitDefEqProofs only [go_sem, k1, k2, k3, k4, k5, k11]
    exact .mk _ (weak_strip _) (.refl _) ⟨by simp [wantsD, e1, oneOr, strip, stripL, boolA], rfl⟩
  have n11 : op ≠ 11 := by simpa using k11
  cases k6 : decide (6 ≤ op)
  · have n6 := of_decide_eq_false k6
    simp -implicitDefEqProofs only [go_sem, k1, k2, k3, k4, k5, k11, k6]
    exact .mk _ (weak_strip _) (.refl _) ⟨by simp [wantsD, n1, n2, n3, n4, n5, n11, n6, oneOr, strip, stripL, boolA], rfl⟩
  cases k13 : decide (op ≤ 13)
  · have n13 := of_decide_eq_false k13
    simp -implicitDefEqProofs only [go_sem, k1, k2, k3, k4, k5, k11, k6, k13]
    exact .mk _ (weak_strip _) (.refl _) ⟨by simp [wantsD, n1, n2, n3, n4, n5, n11, n13, oneOr, strip, stripL, boolA], rfl⟩
  have n6 := of_decide_eq_true k6
  have n13 := of_decide_eq_true k13
  simp -implicitDefEqProofs only [go_sem, k1, k2, k3, k4, k5, k11, k6, k13]
  exact .mk _ (weak_strip _) (.refl _) ⟨by simp [wantsD, n1, n2, n3, n4, n5, n11, n6, n13, oneOr, strip, stripL, boolA], rfl⟩
theorem fields_ok (n : NodeD) (h : Heap) : FnOK Tryz.prog 194 [nodeA n] h fun r h' => r = .v (.bool (fieldsOK n)) ∧ h' = h := by
  refine FnOK.body hU hm Tryz.func194 rfl (by kernel_rfl) 37 rfl [.tmp 2] rfl (Nat.le_of_ble_eq_true rfl) (fun hwf => ?_)
  simp -implicitDefEqProofs only [go_sem, nodeA]
  intro id hid
  have fa : ∀ x y z : Bool, (x && (y && (z && true))) = (x && (y && (z && true))) := fun _ _ _ => rfl
  cases k1 : (n.op == 1)
  case true =>
    have e1 : n.op = 1 := by simpa using k1
    simp -implicitDefEqProofs only [go_sem, k1]
    refine (valRight_ok n.val _).pthen ?_
    cases d0 : valOK n.val
    · simp -implicitDefEqProofs only [go_sem, d0]
      exact .mk _ (.refl _) (.upd_new hid) ⟨by simp [fieldsOK, e1, d0, oneOr], rfl⟩
    · simp -implicitDefEqProofs only [go_sem, d0]
      exact .mk _ (.refl _) (.upd_new hid) ⟨by simp [fieldsOK, e1, d0, oneOr, zeroAt], rfl⟩
  have n1 : n.op ≠ 1 := by simpa using k1
  cases k2 : (n.op == 2)
  case true =>
    have e1 : n.op = 2 := by simpa using k2
    simp -implicitDefEqProofs only [go_sem, k1, k2]
    refine (attr_ok n.attr _).pthen ?_
    cases d0 : attrOK n.attr
    · simp -implicitDefEqProofs only [go_sem, d0]
      exact .mk _ (.refl _) (.upd_new hid) ⟨by simp [fieldsOK, e1, d0, oneOr], rfl⟩
    · simp -implicitDefEqProofs only [go_sem, d0]
      exact .mk _ (.refl _) (.upd_new hid) ⟨by simp [fieldsOK, e1, d0, oneOr, zeroV], rfl⟩
  have n2 : n.op ≠ 2 := by simpa using k2
  cases d0 : zeroV n.val
  · have d1 := d0
    unfold zeroV at d1
    simp -implicitDefEqProofs only [go_sem, k1, k2, d1]
    exact .mk _ (.refl _) (.upd_new hid) ⟨by simp [fieldsOK, n1, n2, d0, oneOr], rfl⟩
  · have d1 := d0
    unfold zeroV at d1
    simp -implicitDefEqProofs only [go_sem, k1, k2, d1]
    exact .mk _ (.refl _) (.upd_new hid) ⟨by simp [fieldsOK, n1, n2, d0, oneOr, zeroAt], rfl⟩
end Go.Proofs.YtnhelgnmadbpgaaGreatDoor

set_option linter.unusedSimpArgs false
set_option linter.unusedVariables false
namespace Go.Proofs.YtnhelgnmadbpgaaGreatDoor
open Go Go.Ab Go.Bf
theorem u4 : (U 4).sz = 1 := by simp only [go_sem]
theorem u4a : (U 4).k.agg = false := by simp only [go_sem]
theorem u4b : (U 4).bytes = 1 := by simp only [go_sem]
theorem u4f : fit (U 4).zero 1 := by simp only [go_sem]
theorem u4n : isAggA (U 4).zero = false := by simp only [go_sem]
theorem b_one (l : List Bool) : One (l.map boolA) := One.map (fun _ => rfl) l
theorem step_ok (y : AV) (st : List Bool) (n : NodeD) (h0 h : Heap) (hy : WrA 4 h0 h y (st.map boolA)) (hl : st.length ≤ 1000000) :
    FnOK Tryz.prog 180 [y, nodeA n] h fun r h' => ∃ z, r = .tup [z, .v (.bool (stepD st n).isSome)] ∧ match stepD st n with
      | none => Ab.Sub h0 h'
      | some st' => WrA 4 h0 h' z (st'.map boolA) := by
  refine FnOK.body hU hm Tryz.func180 rfl (by kernel_rfl) 60 rfl [.tmp 4, .tmp 5] rfl (Nat.le_of_ble_eq_true rfl) (fun hwf => ?_)
  simp -implicitDefEqProofs only [go_sem, nodeA]
  intro id hid
  simp -implicitDefEqProofs only [go_sem]
  have hyb := hy.base hid (some (.obj [.v (.int .i64 n.op), .v (.int .i64 n.val.kind), .v (.int .i64 n.val.n), .s n.val.s, .v (.int .i64 n.attr.cat), .s n.attr.name, .v (.bool n.attr.must)] 172))
  have hw := wants_ok n.op (upd h id (some (.obj [.v (.int .i64 n.op), .v (.int .i64 n.val.kind), .v (.int .i64 n.val.n), .s n.val.s, .v (.int .i64 n.attr.cat), .s n.attr.name, .v (.bool n.attr.must)] 172)))
  cases hwd : wantsD n.op with
  | none =>
    rw [hwd] at hw
    have hst : stepD st n = none := by simp [stepD, hwd]
    refine hw.pthen ?_
    simp -implicitDefEqProofs only [go_sem]
    exact .mk _ (.refl _) (.upd_new hid) ⟨_, by rw [hst]; rfl, by rw [hst]; exact hy.1⟩
  | some w =>
    rw [hwd] at hw
    have hwl : w.length ≤ 2 := by
      unfold wantsD at hwd
      repeat' split at hwd
      all_goals first | (cases hwd; simp; done) | (cases hwd)
    refine hw.pthen ?_
    simp -implicitDefEqProofs only [go_sem]
    refine (fields_ok n _).pthen ?_
    cases d1 : fieldsOK n
    · have hst : stepD st n = none := by simp [stepD, hwd, d1]
      simp -implicitDefEqProofs only [go_sem, d1]
      exact .mk _ (.refl _) (.upd_new hid) ⟨_, by rw [hst]; rfl, by rw [hst]; exact hy.1⟩
    cases d2 : decide ((st.length : Int) < (w.length : Int))
    case true =>
      have e2 : ¬ w.length ≤ st.length := by have := of_decide_eq_true d2; omega
      have hst : stepD st n = none := by simp [stepD, hwd, d1, e2]
      simp -implicitDefEqProofs only [go_sem, d1, hyb.len, List.length_map, d2]
      exact .mk _ (.refl _) (.upd_new hid) ⟨_, by rw [hst]; rfl, by rw [hst]; exact hy.1⟩
    have e2 : w.length ≤ st.length := by have := of_decide_eq_false d2; omega
    have w1 : IntKind.i64.wrap ((st.length : Int) - (w.length : Int)) = ((st.length - w.length : Nat) : Int) := by rw [wr64 _ (by omega)]; omega
    obtain ⟨hb, ehb⟩ : ∃ hb, upd h id (some (.obj [.v (.int .i64 n.op), .v (.int .i64 n.val.kind), .v (.int .i64 n.val.n), .s n.val.s, .v (.int .i64 n.attr.cat), .s n.attr.name, .v (.bool n.attr.must)] 172)) = hb := ⟨_, rfl⟩
    have hbid : hb id = some (.obj [.v (.int .i64 n.op), .v (.int .i64 n.val.kind), .v (.int .i64 n.val.n), .s n.val.s, .v (.int .i64 n.attr.cat), .s n.attr.name, .v (.bool n.attr.must)] 172) := by rw [← ehb]; exact upd_same ..
    have hsub : Ab.Sub h hb := by rw [← ehb]; exact .upd_new hid
    rw [ehb] at hyb ⊢
    simp -implicitDefEqProofs only [go_sem, d1, hyb.len, List.length_map, d2, w1]
    refine .intro (fun m ρ h' => h' = hb ∧ ∃ i : Nat, i ≤ w.length ∧ m = w.length - i ∧ (∀ j, j < i → st[st.length - w.length + j]? = w[j]?) ∧ lk ρ 0 = some y ∧ lk ρ 3 = some (.ptr id 0) ∧ lk ρ 8 = some (.v (.int .i64 ((st.length - w.length : Nat) : Int))) ∧ lk ρ 36 = some (.sl (w.map boolA) .no) ∧ lk ρ 37 = some (.v (.int .i64 w.length)) ∧ lk ρ 38 = some (.v (.int .i64 i))) w.length ?_ ?_
    · refine ⟨rfl, 0, by omega, rfl, fun j hj => (by omega), ?_, ?_, ?_, ?_, ?_, ?_⟩ <;> simp -implicitDefEqProofs only [go_sem]
    · rintro m ρ h' ⟨rfl, i, hi, rfl, hc, r0, r3, r8, r36, r37, r38⟩
      simp -implicitDefEqProofs only [go_sem, r0, r3, r8, r36, r37, r38]
      refine .intro (fun e => ?_) (fun e => ?_)
      · have hlt : i < w.length := Int.ofNat_lt.1 (of_decide_eq_true e)
        have w2 : IntKind.i64.wrap ((i : Int) + 1) = ((i + 1 : Nat) : Int) := by rw [wr64 _ (by omega)]; omega
        have w3 : IntKind.i64.wrap (((st.length - w.length : Nat) : Int) + (i : Int)) = ((st.length - w.length + i : Nat) : Int) := by rw [wr64 _ (by omega)]; omega
        have hlt2 : st.length - w.length + i < st.length := by omega
        simp -implicitDefEqProofs only [go_sem, r0, r3, r8, r36, r37, r38]
        refine .at i (by simpa using hlt) (by rw [List.getElem_map]; rfl) ?_
        simp -implicitDefEqProofs only [go_sem, r0, r3, r8, r36, r37, r38, List.getElem_map, boolA, w3]
        refine hyb.idx (b_one st) (st.length - w.length + i) rfl (by simpa using hlt2) u4 u4a fun p hp => ?_
        simp -implicitDefEqProofs only [go_sem, r0, r3, r8, r36, r37, r38, hp _, List.getElem_map, boolA]
        cases d3 : (st[st.length - w.length + i] == w[i])
        · have hst : stepD st n = none := by
            have : st.drop (st.length - w.length) ≠ w := fun hh => by
              have := congrArg (fun q => q[i]?) hh
              simp only [List.getElem?_drop, List.getElem?_eq_getElem hlt, List.getElem?_eq_getElem hlt2, Option.some.injEq] at this
              rw [this] at d3; simp at d3
            simp [stepD, hwd, this]
          simp -implicitDefEqProofs only [go_sem, r0, r3, r8, r36, r37, r38, d3]
          exact .mk _ (.refl _) hsub ⟨_, by rw [hst]; rfl, by rw [hst]; exact hy.1⟩
        · simp -implicitDefEqProofs only [go_sem, r0, r3, r8, r36, r37, r38, d3, w2]
          refine ⟨_, ?_, rfl, i + 1, by omega, rfl, fun j hj => ?_, ?_, ?_, ?_, ?_, ?_, ?_⟩
          · omega
          · by_cases hji : j = i
            · subst hji
              rw [List.getElem?_eq_getElem hlt2, List.getElem?_eq_getElem hlt]
              simpa using d3
            · exact hc j (by omega)
          all_goals simp -implicitDefEqProofs only [go_sem, r0, r3, r8, r36, r37, r38, w2]
      · have hge : i = w.length := by have := of_decide_eq_false e; omega
        subst hge
        have hdrop : st.drop (st.length - w.length) = w := by
          apply List.ext_getElem?
          intro j
          rw [List.getElem?_drop]
          by_cases hj : j < w.length
          · exact hc j hj
          · rw [List.getElem?_eq_none (by omega), List.getElem?_eq_none (by omega)]
        have hst : stepD st n = some (st.take (st.length - w.length) ++ [n.op == 2]) := by
          simp [stepD, hwd, d1, e2, hdrop]
        simp -implicitDefEqProofs only [go_sem, r0, r3, r8, r36, r37, r38]
        refine .calls (hm1 id _) [0, 1, 2, 3, 4, 5, 6, 7, 8, 9] (.hm1 hbid) (by kernel_rfl) rfl ?_
        simp -implicitDefEqProofs only [go_sem, r0, r3, r8, r36, r37, r38]
        refine hyb.cut (x := .i64) (st.length - w.length) (by simp -implicitDefEqProofs only [go_sem, r0, r3, r8]) rfl (by simp) u4 fun z hz => ?_
        rw [← List.map_take] at hz
        simp -implicitDefEqProofs only [go_sem, r0, r3, r8, r36, r37, r38, hm1_same]
        refine hz.app (zs := [.v (.bool (n.op == 2))]) (b_one _) (b_one [n.op == 2]) u4 (by rw [u4b]; decide) u4f u4n (fun k hk => hk) (by rw [u4b]; simp; omega) fun z' h2 hz' => ?_
        refine ⟨fun j b hj => ((Sub.hm1 (upd_same ..)).trans hz'.1) j b hj, ?_⟩
        simp -implicitDefEqProofs only [go_sem, r0, r3, r8]
        have hz2 := hz'.less (Sub.upd_new (hy.1.none hid))
        refine .same (.refl _) ⟨z', by rw [hst]; rfl, ?_⟩
        rw [hst]
        simp only [List.map_append]
        exact hz2
theorem condE_none {l : List NodeD} (h : l.length ≤ 32) (hs : stepsD [] l = none) : exprE l = 1 := by
  simp [exprE, hs, Nat.not_lt.2 h]
theorem stepsD_split (st : List Bool) : ∀ (l : List NodeD) (i : Nat), stepsD st l = (match stepsD st (l.take i) with
    | none => none
    | some st' => stepsD st' (l.drop i))
  | [], i => by simp [stepsD]
  | n :: r, 0 => by simp [stepsD]
  | n :: r, i + 1 => by
    simp only [List.take_succ_cons, List.drop_succ_cons, stepsD]
    cases stepD st n with
    | none => rfl
    | some st' => simp only; exact stepsD_split st' r i
theorem stepsD_length (st st' : List Bool) (l : List NodeD) (h : stepsD st l = some st') : st'.length ≤ st.length + l.length := by
  induction l generalizing st with
  | nil => simp only [stepsD, Option.some.injEq] at h; subst h; simp
  | cons n r ih =>
    simp only [stepsD] at h
    cases hs : stepD st n with
    | none => rw [hs] at h; cases h
    | some s2 =>
      rw [hs] at h
      have := ih s2 h
      unfold stepD at hs
      split at hs
      · cases hs
      · split at hs
        · cases hs
          simp at this ⊢
          omega
        · cases hs
theorem expr_ok (l : List NodeD) (h : Heap) : FnOK Tryz.prog 151 [condA l] h fun r h' => r = .v (.int .i64 (exprE l)) ∧ h' = h := by
  refine FnOK.body hU hm Tryz.func151 rfl (by kernel_rfl) 38 rfl [.tmp 2] rfl (Nat.le_of_ble_eq_true rfl) (fun hwf => ?_)
  cases d1 : decide (32 < (l.length : Int))
  case true =>
    have e1 : 32 < l.length := by have := of_decide_eq_true d1; omega
    simp -implicitDefEqProofs only [go_sem, condA, List.length_map, d1]
    exact .same (.refl _) ⟨by simp [exprE, e1, oneOr], rfl⟩
  have e1 : l.length ≤ 32 := by have := of_decide_eq_false d1; omega
  simp -implicitDefEqProofs only [go_sem, condA, List.length_map, d1]
  refine .intro (fun m ρ h' => ∃ (i : Nat) (y : AV) (st : List Bool), WrA 4 h h' y (st.map boolA) ∧ stepsD [] (l.take i) = some st ∧ i ≤ l.length ∧ m = l.length - i ∧
    lk ρ 0 = some (condA l) ∧ lk ρ 3 = some y ∧ lk ρ 10 = some (condA l) ∧ lk ρ 11 = some (.v (.int .i64 l.length)) ∧ lk ρ 12 = some (.v (.int .i64 i))) l.length ?_ ?_
  · refine ⟨0, _, [], .nil (.refl _), rfl, by omega, rfl, ?_, ?_, ?_, ?_, ?_⟩ <;> simp -implicitDefEqProofs only [go_sem, condA]
  · rintro m ρ h' ⟨i, y, st, hy, hst, hi, rfl, r0, r3, r10, r11, r12⟩
    have hsl := stepsD_length _ _ _ hst
    have hsl : st.length ≤ i := by simpa [Nat.min_eq_left hi] using hsl
    simp -implicitDefEqProofs only [go_sem, r0, r3, r10, r11, r12]
    refine .intro (fun e => ?_) (fun e => ?_)
    · have hlt : i < l.length := Int.ofNat_lt.1 (of_decide_eq_true e)
      have w1 : IntKind.i64.wrap ((i : Int) + 1) = ((i + 1 : Nat) : Int) := by rw [wr64 _ (by omega)]; omega
      have hnx : stepsD [] (l.take (i + 1)) = stepD st l[i] := by
        rw [stepsD_split [] _ i, List.take_take, Nat.min_eq_left (by omega), hst, List.take_succ_eq_append_getElem hlt, List.drop_append_of_le_length (by simp; omega), List.drop_of_length_le (by simp; omega)]
        simp only [List.nil_append, stepsD]
        cases stepD st l[i] <;> rfl
      simp -implicitDefEqProofs only [go_sem, r0, r3, r10, r11, r12, condA]
      refine .at i (by simpa using hlt) (by rw [List.getElem_map]; rfl) ?_
      simp -implicitDefEqProofs only [go_sem, r0, r3, r10, r11, r12, List.getElem_map, nodeA]
      intro id hid
      simp -implicitDefEqProofs only [go_sem, r0, r3, r10, r11, r12]
      have hyb := hy.sub (Sub.upd_new (k := some (.obj [.v (.int .i64 l[i].op), .v (.int .i64 l[i].val.kind), .v (.int .i64 l[i].val.n), .s l[i].val.s, .v (.int .i64 l[i].attr.cat), .s l[i].attr.name, .v (.bool l[i].attr.must)] 172)) hid)
      refine (step_ok y st l[i] h _ hyb (by omega)).mono fun r h2 ⟨z, e2, hz⟩ => ?_
      subst e2
      cases hsd : stepD st l[i] with
      | none =>
        rw [hsd] at hz
        simp -implicitDefEqProofs only [go_sem, r0, r3, r10, r11, r12, Option.isSome_none]
        refine .mk _ (.refl _) hz ⟨?_, rfl⟩
        rw [condE_none e1 (by rw [stepsD_split [] l (i + 1), hnx, hsd])]; rfl
      | some st' =>
        rw [hsd] at hz hnx
        simp -implicitDefEqProofs only [go_sem, r0, r3, r10, r11, r12, Option.isSome_some, w1]
        refine ⟨_, ?_, i + 1, z, st', hz, hnx, by omega, rfl, ?_, ?_, ?_, ?_, ?_⟩
        · omega
        all_goals simp -implicitDefEqProofs only [go_sem, r0, r3, r10, r11, r12, w1, condA]
    · have hge : i = l.length := by have := of_decide_eq_false e; omega
      subst hge
      rw [List.take_length] at hst
      have he : exprE l = if l = [] ∨ st = [false] then 0 else 1 := by
        simp only [exprE, hst]
        rw [if_neg (by omega)]
      cases d2 : decide (0 < (l.length : Int))
      · have e2 : l = [] := by have := of_decide_eq_false d2; exact List.length_eq_zero_iff.1 (by omega)
        simp -implicitDefEqProofs only [go_sem, r0, r3, r10, r11, r12, condA, List.length_map, d2]
        exact .mk _ (.refl _) hy.1 ⟨by rw [he, if_pos (.inl e2)]; rfl, rfl⟩
      have e2 : l ≠ [] := by rintro rfl; simp at d2
      cases d3 : ((st.length : Int) != 1)
      case true =>
        have e3 : st ≠ [false] := by rintro rfl; simp at d3
        simp -implicitDefEqProofs only [go_sem, r0, r3, r10, r11, r12, condA, List.length_map, d2, hy.len, d3]
        exact .mk _ (.refl _) hy.1 ⟨by rw [he, if_neg (by simp [e2, e3])]; rfl, rfl⟩
      have e3 : st.length = 1 := by
        have : (st.length : Int) = 1 := by simpa using d3
        omega
      obtain ⟨b, rfl⟩ := List.length_eq_one_iff.1 e3
      simp -implicitDefEqProofs only [go_sem, r0, r3, r10, r11, r12, condA, List.length_map, d2, hy.len, d3]
      refine hy.idx (b_one [b]) 0 rfl (by simp) u4 u4a fun p hp => ?_
      simp -implicitDefEqProofs only [go_sem, r0, r3, r10, r11, r12, hp _, List.getElem_map, boolA, List.getElem_cons_zero]
      cases b
      · simp -implicitDefEqProofs only [go_sem, r0, r3, r10, r11, r12]
        exact .mk _ (.refl _) hy.1 ⟨by rw [he, if_pos (.inr rfl)]; rfl, rfl⟩
      · simp -implicitDefEqProofs only [go_sem, r0, r3, r10, r11, r12]
        exact .mk _ (.refl _) hy.1 ⟨by rw [he, if_neg (by simp [e2])]; rfl, rfl⟩
end Go.Proofs.YtnhelgnmadbpgaaGreatDoor

set_option linter.unusedSimpArgs false
set_option linter.unusedVariables false
namespace Go.Proofs.YtnhelgnmadbpgaaGreatDoor
open Go Go.Ab Go.Bf
def Keeps (S : List Nat) (h h' : Heap) : Prop := ∀ j k, j ∉ S → h j = some k → h' j = some k
theorem Keeps.refl (S : List Nat) (h : Heap) : Keeps S h h := fun _ _ _ e => e
theorem Keeps.trans {S : List Nat} {a b c : Heap} (x : Keeps S a b) (y : Keeps S b c) : Keeps S a c := fun j k hj e => y j k hj (x j k hj e)
theorem Keeps.of {S : List Nat} {a b : Heap} (x : Ab.Sub a b) : Keeps S a b := fun j k _ e => x j k e
theorem Keeps.upd {S : List Nat} {a : Heap} {i : Nat} {b : Option Blk} (hi : i ∈ S) : Keeps S a (Ab.upd a i b) := fun j k hj e => by
  rw [upd_other _ _ (fun e => hj (by rw [e]; exact hi))]; exact e
def WalkAt (h : Heap) (idw mid : Nat) (m : MetD) : Prop := h idw = some (.obj [.mp mid, .v (.int .i64 m.rules)] 133) ∧ h mid = some (.mp (setA m.met)) ∧ (∀ l ∈ m.met, l.length ≤ 16) ∧ m.rules ≤ 64
theorem WalkAt.ne {h : Heap} {idw mid : Nat} {m : MetD} (hw : WalkAt h idw mid m) : idw ≠ mid := fun e => by
  have h1 := hw.1; have h2 := hw.2.1
  rw [e, h2] at h1; cases h1
theorem WalkAt.keep {h h' : Heap} {idw mid : Nat} {m : MetD} (hw : WalkAt h idw mid m) (hs : Ab.Sub h h') : WalkAt h' idw mid m := ⟨hs _ _ hw.1, hs _ _ hw.2.1, hw.2.2⟩
theorem u158 : (U 241).sz = 0 := by simp only [go_sem]
theorem nameOK_len {s : Txt} (h : nameOK s = true) : s.length ≤ 16 := by
  simp [nameOK] at h; exact h.2
theorem meetD_none {m : MetD} {s : Txt} (h : s ∈ m.met ∨ nameOK s = false) : meetD m s = none := by
  unfold meetD
  rw [if_neg]
  rintro ⟨h1, h2⟩
  rcases h with h | h
  · exact h1 h
  · rw [h] at h2; cases h2
theorem wname_ok (idw mid : Nat) (m : MetD) (s : Txt) (h : Heap) (hw : WalkAt h idw mid m) : FnOK Tryz.prog 148 [.ptr idw 0, .s s] h fun r h' => match meetD m s with
    | none => r = .v (.bool false) ∧ Ab.Sub h h'
    | some m' => r = .v (.bool true) ∧ Keeps [idw, mid] h h' ∧ WalkAt h' idw mid m' := by
  refine FnOK.body hU hm Tryz.func148 rfl (by kernel_rfl) 28 rfl [.tmp 4] rfl (Nat.le_of_ble_eq_true rfl) (fun hwf => ?_)
  obtain ⟨w1, w2, w3, w4⟩ := hw
  have hlen : s.length ≤ maxLen := by
    have := hwf (.s s) (by simp)
    simp only [wfA, wf1, lim] at this
    unfold maxLen; omega
  have hkeys : KeysA .str (setA m.met) := keysA_set fun l hl => by have := w3 l hl; unfold maxLen; omega
  simp -implicitDefEqProofs only [go_sem, w1, w2, u158]
  refine ⟨hlen, .inr (by simp only [go_sem]), hkeys, ?_⟩
  rw [lookM_set _ _ u158]
  simp -implicitDefEqProofs only [go_sem, w1, w2]
  intro idv hidv
  simp -implicitDefEqProofs only [go_sem]
  cases d1 : decide (s ∈ m.met)
  case true =>
    have hm := meetD_none (.inl (of_decide_eq_true d1))
    simp -implicitDefEqProofs only [go_sem, d1]
    rw [hm]
    exact .mk _ (.refl _) (.upd_new hidv) ⟨rfl, .refl _⟩
  have e1 := of_decide_eq_false d1
  simp -implicitDefEqProofs only [go_sem, d1]
  refine (name_ok _ _).pthen ?_
  cases d2 : nameOK s
  · have hm := meetD_none (m := m) (.inr d2)
    simp -implicitDefEqProofs only [go_sem, d1, d2]
    rw [hm]
    exact .mk _ (.refl _) (.upd_new hidv) ⟨rfl, .refl _⟩
  have hm : meetD m s = some ⟨m.met ++ [s], m.rules⟩ := by simp [meetD, e1, d2]
  have hne := WalkAt.ne ⟨w1, w2, w3, w4⟩
  have n1 : idw ≠ idv := fun e => by rw [e, hidv] at w1; cases w1
  have n2 : mid ≠ idv := fun e => by rw [e, hidv] at w2; cases w2
  have w1' : upd h idv (some (.obj [] 241)) idw = some (.obj [.mp mid, .v (.int .i64 m.rules)] 133) := by rw [upd_other _ _ n1]; exact w1
  have w2' : upd h idv (some (.obj [] 241)) mid = some (.mp (setA m.met)) := by rw [upd_other _ _ n2]; exact w2
  simp -implicitDefEqProofs only [go_sem, d1, d2, w1', w2']
  refine ⟨hlen, hkeys, ?_⟩
  rw [setM_new e1]
  rw [hm]
  refine .same (.refl _) ⟨rfl, (Keeps.of (.upd_new hidv)).trans (.upd (by simp)), ?_, ?_, ?_, w4⟩
  · rw [upd_other _ _ hne]; exact w1'
  · rw [upd_same]
  · intro l hl
    rcases List.mem_append.1 hl with hl | hl
    · exact w3 l hl
    · rw [List.mem_singleton.1 hl]; exact nameOK_len d2
theorem wrule_ok (idw mid : Nat) (m : MetD) (r : RuleD) (h : Heap) (hw : WalkAt h idw mid m) : FnOK Tryz.prog 114 [.ptr idw 0, ruleA r] h fun x h' => x = .v (.int .i64 (ruleW m r).err) ∧ Keeps [idw, mid] h h' ∧ ∀ m', ruleW m r = .ok m' → WalkAt h' idw mid m' := by
  refine FnOK.body hU hm Tryz.func114 rfl (by kernel_rfl) 39 rfl [.tmp 4] rfl (Nat.le_of_ble_eq_true rfl) (fun hwf => ?_)
  simp -implicitDefEqProofs only [go_sem, ruleA, tgtA, condA, oblsA]
  intro id hid
  have n1 : idw ≠ id := fun e => by have := hw.1; rw [e, hid] at this; cases this
  have n2 : mid ≠ id := fun e => by have := hw.2.1; rw [e, hid] at this; cases this
  have hwb := hw.keep (Sub.upd_new (k := some (.obj [.s r.id, .v (.bool r.deny), .sl (r.tgt.map anyA) .no, .sl (r.cond.map nodeA) .no, .sl (r.obls.map oblA) .no] 169)) hid)
  have hk0 : Keeps [idw, mid] h (upd h id (some (.obj [.s r.id, .v (.bool r.deny), .sl (r.tgt.map anyA) .no, .sl (r.cond.map nodeA) .no, .sl (r.obls.map oblA) .no] 169))) := .of (.upd_new hid)
  simp -implicitDefEqProofs only [go_sem]
  obtain ⟨hb, ehb⟩ : ∃ hb, upd h id (some (.obj [.s r.id, .v (.bool r.deny), .sl (r.tgt.map anyA) .no, .sl (r.cond.map nodeA) .no, .sl (r.obls.map oblA) .no] 169)) = hb := ⟨_, rfl⟩
  have hbid : hb id = some (.obj [.s r.id, .v (.bool r.deny), .sl (r.tgt.map anyA) .no, .sl (r.cond.map nodeA) .no, .sl (r.obls.map oblA) .no] 169) := by rw [← ehb]; exact upd_same ..
  rw [ehb] at hwb hk0 ⊢
  refine (wname_ok idw mid m r.id hb hwb).mono fun x h2 hx => ?_
  cases hm : meetD m r.id with
  | none =>
    rw [hm] at hx
    obtain ⟨rfl, hs⟩ := hx
    have hr : ruleW m r = .bad 1 := by simp [ruleW, hm]
    simp -implicitDefEqProofs only [go_sem]
    exact .same (.refl _) ⟨by rw [hr]; rfl, hk0.trans (.of hs), fun m' h' => by rw [hr] at h'; cases h'⟩
  | some m1 =>
    rw [hm] at hx
    obtain ⟨rfl, hk, hw2⟩ := hx
    have g2 := hw2.1
    have hle := hw2.2.2.2
    have hid2 : h2 id = some (.obj [.s r.id, .v (.bool r.deny), .sl (r.tgt.map anyA) .no, .sl (r.cond.map nodeA) .no, .sl (r.obls.map oblA) .no] 169) := hk id _ (by simp [n1.symm, n2.symm]) hbid
    have w1 : IntKind.i64.wrap ((m1.rules : Int) + 1) = ((m1.rules + 1 : Nat) : Int) := by rw [wr64 _ (by omega)]; omega
    have hk3 : Keeps [idw, mid] h (upd h2 idw (some (.obj [.mp mid, .v (.int .i64 ((m1.rules + 1 : Nat) : Int))] 133))) := (hk0.trans hk).trans (.upd (by simp))
    have hid3 : upd h2 idw (some (.obj [.mp mid, .v (.int .i64 ((m1.rules + 1 : Nat) : Int))] 133)) id = some (.obj [.s r.id, .v (.bool r.deny), .sl (r.tgt.map anyA) .no, .sl (r.cond.map nodeA) .no, .sl (r.obls.map oblA) .no] 169) := by
      rw [upd_other _ _ n1.symm]; exact hid2
    cases d1 : decide (64 < ((m1.rules + 1 : Nat) : Int))
    case true =>
      have e1 : m1.rules + 1 > 64 := by have := of_decide_eq_true d1; omega
      have hr : ruleW m r = .bad 6 := by simp [ruleW, hm, e1]
      simp -implicitDefEqProofs only [go_sem, g2, w1, d1]
      exact .same (.refl _) ⟨by rw [hr]; rfl, hk3, fun m' h' => by rw [hr] at h'; cases h'⟩
    have e1 : ¬ m1.rules + 1 > 64 := by have := of_decide_eq_false d1; omega
    have hr : ruleW m r = need (tgtE r.tgt) (need (exprE r.cond) (need (oblsE r.obls) (.ok ⟨m1.met, m1.rules + 1⟩))) := by simp [ruleW, hm, e1]
    simp -implicitDefEqProofs only [go_sem, g2, w1, d1, hid3]
    refine (target_ok r.tgt _).pthen ?_
    cases d2 : (tgtE r.tgt != 0)
    case true =>
      have e2 : tgtE r.tgt ≠ 0 := by simpa using d2
      have hr : ruleW m r = .bad (tgtE r.tgt) := by rw [hr]; simp [need, e2]
      simp -implicitDefEqProofs only [go_sem, d2]
      exact .same (.refl _) ⟨by rw [hr]; rfl, hk3, fun m' h' => by rw [hr] at h'; cases h'⟩
    have e2 : tgtE r.tgt = 0 := by simpa using d2
    rw [need, if_pos e2] at hr
    simp -implicitDefEqProofs only [go_sem, d2, hid3]
    refine (expr_ok r.cond _).pthen ?_
    cases d3 : (exprE r.cond != 0)
    case true =>
      have e3 : exprE r.cond ≠ 0 := by simpa using d3
      have hr : ruleW m r = .bad (exprE r.cond) := by rw [hr]; simp [need, e3]
      simp -implicitDefEqProofs only [go_sem, d3]
      exact .same (.refl _) ⟨by rw [hr]; rfl, hk3, fun m' h' => by rw [hr] at h'; cases h'⟩
    have e3 : exprE r.cond = 0 := by simpa using d3
    rw [need, if_pos e3] at hr
    simp -implicitDefEqProofs only [go_sem, d3, hid3]
    refine (obls_ok r.obls _).pthen ?_
    simp -implicitDefEqProofs only [go_sem]
    by_cases e4 : oblsE r.obls = 0
    · rw [need, if_pos e4] at hr
      refine .same (.refl _) ⟨by rw [hr, e4]; rfl, hk3, fun m' h' => ?_⟩
      rw [hr] at h'
      cases h'
      refine ⟨upd_same .., ?_, hw2.2.2.1, by show m1.rules + 1 ≤ 64; omega⟩
      rw [upd_other _ _ hw2.ne.symm]; exact hw2.2.1
    · rw [need, if_neg e4] at hr
      exact .same (.refl _) ⟨by rw [hr]; rfl, hk3, fun m' h' => by rw [hr] at h'; cases h'⟩
end Go.Proofs.YtnhelgnmadbpgaaGreatDoor

set_option linter.unusedSimpArgs false
set_option linter.unusedVariables false
namespace Go.Proofs.YtnhelgnmadbpgaaGreatDoor
open Go Go.Ab Go.Bf
theorem headW_none {m : MetD} {id : Txt} {set : Bool} {alg : Int} {tgt : TgtD} {nr nk : Nat} {obls : List OblD} (h : meetD m id = none) : headW m id set alg tgt nr nk obls = .bad 1 := by
  simp [headW, h]
theorem whead_ok (idw mid : Nat) (m : MetD) (id : Txt) (set : Bool) (alg : Int) (tgt : TgtD) (rules : List RuleD) (kids : List PolD) (obls : List OblD) (h : Heap) (hw : WalkAt h idw mid m) :
    FnOK Tryz.prog 113 [.ptr idw 0, polA (.mk id set alg tgt rules kids obls)] h fun x h' => x = .v (.int .i64 (headW m id set alg tgt rules.length kids.length obls).err) ∧ Keeps [idw, mid] h h' ∧ ∀ m', headW m id set alg tgt rules.length kids.length obls = .ok m' → WalkAt h' idw mid m' := by
  refine FnOK.body hU hm Tryz.func113 rfl (by kernel_rfl) 68 rfl [.tmp 4] rfl (Nat.le_of_ble_eq_true rfl) (fun hwf => ?_)
  simp -implicitDefEqProofs only [go_sem, polA, tgtA, oblsA]
  intro ip hip
  have n1 : idw ≠ ip := fun e => by have := hw.1; rw [e, hip] at this; cases this
  have n2 : mid ≠ ip := fun e => by have := hw.2.1; rw [e, hip] at this; cases this
  have hwb := hw.keep (Sub.upd_new (k := some (.obj [.s id, .v (.bool set), .v (.int .i64 alg), .sl (tgt.map anyA) .no, .sl (rules.map ruleA) .no, .sl (kidsA kids) .no, .sl (obls.map oblA) .no] 32)) hip)
  have hk0 : Keeps [idw, mid] h (upd h ip (some (.obj [.s id, .v (.bool set), .v (.int .i64 alg), .sl (tgt.map anyA) .no, .sl (rules.map ruleA) .no, .sl (kidsA kids) .no, .sl (obls.map oblA) .no] 32))) := .of (.upd_new hip)
  simp -implicitDefEqProofs only [go_sem]
  obtain ⟨hb, ehb⟩ : ∃ hb, upd h ip (some (.obj [.s id, .v (.bool set), .v (.int .i64 alg), .sl (tgt.map anyA) .no, .sl (rules.map ruleA) .no, .sl (kidsA kids) .no, .sl (obls.map oblA) .no] 32)) = hb := ⟨_, rfl⟩
  have hbip : hb ip = some (.obj [.s id, .v (.bool set), .v (.int .i64 alg), .sl (tgt.map anyA) .no, .sl (rules.map ruleA) .no, .sl (kidsA kids) .no, .sl (obls.map oblA) .no] 32) := by rw [← ehb]; exact upd_same ..
  rw [ehb] at hwb hk0 ⊢
  refine (wname_ok idw mid m id hb hwb).mono fun x h2 hx => ?_
  cases hm : meetD m id with
  | none =>
    rw [hm] at hx
    obtain ⟨rfl, hs⟩ := hx
    simp -implicitDefEqProofs only [go_sem]
    exact .same (.refl _) ⟨by rw [headW_none hm]; rfl, hk0.trans (.of hs), fun m' h' => by rw [headW_none hm] at h'; cases h'⟩
  | some m1 =>
    rw [hm] at hx
    obtain ⟨rfl, hk, hw2⟩ := hx
    have hip2 : h2 ip = some (.obj [.s id, .v (.bool set), .v (.int .i64 alg), .sl (tgt.map anyA) .no, .sl (rules.map ruleA) .no, .sl (kidsA kids) .no, .sl (obls.map oblA) .no] 32) := hk ip _ (by simp [n1.symm, n2.symm]) hbip
    have hkk := hk0.trans hk
    have bad : ∀ e, headW m id set alg tgt rules.length kids.length obls = .bad e → (.v (.int .i64 e) : AV) = .v (.int .i64 (headW m id set alg tgt rules.length kids.length obls).err) ∧ Keeps [idw, mid] h h2 ∧ ∀ m', headW m id set alg tgt rules.length kids.length obls = .ok m' → WalkAt h2 idw mid m' :=
      fun e he => ⟨by rw [he]; rfl, hkk, fun m' h' => by rw [he] at h'; cases h'⟩
    cases d1 : decide (alg < 1)
    case true =>
      have e1 := of_decide_eq_true d1
      simp -implicitDefEqProofs only [go_sem, d1, hip2]
      exact .same (.refl _) (bad 1 (by simp [headW, hm, e1]))
    cases d2 : decide (6 < alg)
    case true =>
      have e2 := of_decide_eq_true d2
      simp -implicitDefEqProofs only [go_sem, d1, d2, hip2]
      exact .same (.refl _) (bad 1 (by simp [headW, hm, e2]))
    have e1 : ¬ (alg < 1 ∨ alg > 6) := by have := of_decide_eq_false d1; have := of_decide_eq_false d2; omega
    have tail : ∀ (z : Unit), ¬ (set = true ∧ rules.length > 0 ∨ set = false ∧ (kids.length > 0 ∨ alg = 4)) → headW m id set alg tgt rules.length kids.length obls = need (tgtE tgt) (need (oblsE obls) (if rules.length > 16 ∨ kids.length > 16 then .bad 6 else .ok m1)) := fun _ hh => by
      simp only [headW, hm]
      rw [if_neg e1, if_neg hh]
    cases set
    · cases d4 : decide (0 < (kids.length : Int))
      case true =>
        have f4 : 0 < kids.length := by have := of_decide_eq_true d4; omega
        simp -implicitDefEqProofs only [go_sem, d1, d2, hip2, kidsA_eq, List.length_map, d4]
        exact .same (.refl _) (bad 1 (by simp [headW, hm, e1, f4]))
      have g4 : ¬ 0 < kids.length := by have := of_decide_eq_false d4; omega
      cases d5 : (alg == 4)
      case true =>
        have f5 : alg = 4 := by simpa using d5
        simp -implicitDefEqProofs only [go_sem, d1, d2, hip2, kidsA_eq, List.length_map, d4, d5]
        exact .same (.refl _) (bad 1 (by simp [headW, hm, f5]))
      have g5 : alg ≠ 4 := by simpa using d5
      simp -implicitDefEqProofs only [go_sem, d1, d2, hip2, kidsA_eq, List.length_map, d4, d5]
      have e3 := tail () (by simp [g4, g5])
      refine (target_ok tgt _).pthen ?_
      cases t1 : (tgtE tgt != 0)
      case true =>
        have f1 : tgtE tgt ≠ 0 := by simpa using t1
        simp -implicitDefEqProofs only [go_sem, t1]
        exact .same (.refl _) (bad _ (by rw [e3]; simp [need, f1]))
      have f1 : tgtE tgt = 0 := by simpa using t1
      simp -implicitDefEqProofs only [go_sem, t1, hip2]
      refine (obls_ok obls _).pthen ?_
      cases t2 : (oblsE obls != 0)
      case true =>
        have f2 : oblsE obls ≠ 0 := by simpa using t2
        simp -implicitDefEqProofs only [go_sem, t2]
        exact .same (.refl _) (bad _ (by rw [e3]; simp [need, f1, f2]))
      have f2 : oblsE obls = 0 := by simpa using t2
      cases t3 : decide (16 < (rules.length : Int))
      case true =>
        have f3 : 16 < rules.length := by have := of_decide_eq_true t3; omega
        simp -implicitDefEqProofs only [go_sem, t2, hip2, List.length_map, t3]
        exact .same (.refl _) (bad _ (by rw [e3]; simp [need, f1, f2, f3]))
      have f3 : ¬ 16 < rules.length := by have := of_decide_eq_false t3; omega
      cases t4 : decide (16 < (kids.length : Int))
      case true =>
        have f4 : 16 < kids.length := by have := of_decide_eq_true t4; omega
        simp -implicitDefEqProofs only [go_sem, t2, hip2, List.length_map, t3, kidsA_eq, t4]
        exact .same (.refl _) (bad _ (by rw [e3]; simp [need, f1, f2, f4]))
      have f4 : ¬ 16 < kids.length := by have := of_decide_eq_false t4; omega
      simp -implicitDefEqProofs only [go_sem, t2, hip2, List.length_map, t3, kidsA_eq, t4]
      have e4 : headW m id false alg tgt rules.length kids.length obls = .ok m1 := by rw [e3]; simp [need, f1, f2, f3, f4]
      exact .same (.refl _) ⟨by rw [e4]; rfl, hkk, fun m' h' => by rw [e4] at h'; cases h'; exact hw2⟩
    · cases d3 : decide (0 < (rules.length : Int))
      case true =>
        have f3 : 0 < rules.length := by have := of_decide_eq_true d3; omega
        simp -implicitDefEqProofs only [go_sem, d1, d2, hip2, List.length_map, d3]
        exact .same (.refl _) (bad 1 (by simp [headW, hm, e1, f3]))
      have g3 : ¬ 0 < rules.length := by have := of_decide_eq_false d3; omega
      simp -implicitDefEqProofs only [go_sem, d1, d2, hip2, List.length_map, d3]
      have e3 := tail () (by simp [g3])
      refine (target_ok tgt _).pthen ?_
      cases t1 : (tgtE tgt != 0)
      case true =>
        have f1 : tgtE tgt ≠ 0 := by simpa using t1
        simp -implicitDefEqProofs only [go_sem, t1]
        exact .same (.refl _) (bad _ (by rw [e3]; simp [need, f1]))
      have f1 : tgtE tgt = 0 := by simpa using t1
      simp -implicitDefEqProofs only [go_sem, t1, hip2]
      refine (obls_ok obls _).pthen ?_
      cases t2 : (oblsE obls != 0)
      case true =>
        have f2 : oblsE obls ≠ 0 := by simpa using t2
        simp -implicitDefEqProofs only [go_sem, t2]
        exact .same (.refl _) (bad _ (by rw [e3]; simp [need, f1, f2]))
      have f2 : oblsE obls = 0 := by simpa using t2
      cases t3 : decide (16 < (rules.length : Int))
      case true =>
        have f3 : 16 < rules.length := by have := of_decide_eq_true t3; omega
        simp -implicitDefEqProofs only [go_sem, t2, hip2, List.length_map, t3]
        exact .same (.refl _) (bad _ (by rw [e3]; simp [need, f1, f2, f3]))
      have f3 : ¬ 16 < rules.length := by have := of_decide_eq_false t3; omega
      cases t4 : decide (16 < (kids.length : Int))
      case true =>
        have f4 : 16 < kids.length := by have := of_decide_eq_true t4; omega
        simp -implicitDefEqProofs only [go_sem, t2, hip2, List.length_map, t3, kidsA_eq, t4]
        exact .same (.refl _) (bad _ (by rw [e3]; simp [need, f1, f2, f4]))
      have f4 : ¬ 16 < kids.length := by have := of_decide_eq_false t4; omega
      simp -implicitDefEqProofs only [go_sem, t2, hip2, List.length_map, t3, kidsA_eq, t4]
      have e4 : headW m id true alg tgt rules.length kids.length obls = .ok m1 := by rw [e3]; simp [need, f1, f2, f3, f4]
      exact .same (.refl _) ⟨by rw [e4]; rfl, hkk, fun m' h' => by rw [e4] at h'; cases h'; exact hw2⟩
end Go.Proofs.YtnhelgnmadbpgaaGreatDoor

set_option linter.unusedSimpArgs false
set_option linter.unusedVariables false
namespace Go.Proofs.YtnhelgnmadbpgaaGreatDoor
open Go Go.Ab Go.Bf
theorem polA_len (k : PolD) : (polA k).cells.length = 7 := by
  cases k; simp [polA, AV.cells]
theorem polW_deep {m : MetD} {d : Nat} {p : PolD} (h : 4 < d) : polW m d p = .bad 6 := by
  cases p; simp [polW, h]
theorem polW_head {m : MetD} {d : Nat} {id : Txt} {set : Bool} {alg : Int} {tgt : TgtD} {rules : List RuleD} {kids : List PolD} {obls : List OblD} {e : Int} (h : ¬ 4 < d)
    (hh : headW m id set alg tgt rules.length kids.length obls = .bad e) : polW m d (.mk id set alg tgt rules kids obls) = .bad e := by
  simp [polW, h, hh]
theorem polW_rules {m m1 : MetD} {d : Nat} {id : Txt} {set : Bool} {alg : Int} {tgt : TgtD} {rules : List RuleD} {kids : List PolD} {obls : List OblD} {e : Int} (h : ¬ 4 < d)
    (hh : headW m id set alg tgt rules.length kids.length obls = .ok m1) (hr : rulesW m1 rules = .bad e) : polW m d (.mk id set alg tgt rules kids obls) = .bad e := by
  simp [polW, h, hh, hr]
theorem polW_kids {m m1 m2 : MetD} {d : Nat} {id : Txt} {set : Bool} {alg : Int} {tgt : TgtD} {rules : List RuleD} {kids : List PolD} {obls : List OblD} (h : ¬ 4 < d)
    (hh : headW m id set alg tgt rules.length kids.length obls = .ok m1) (hr : rulesW m1 rules = .ok m2) : polW m d (.mk id set alg tgt rules kids obls) = kidsW m2 (d + 1) kids := by
  simp [polW, h, hh, hr]
theorem polW_bad : ∀ (n d : Nat) (m : MetD) (p : PolD) (e : Int), d + n = 5 → polW m d p = .bad e → e ≠ 0
  | 0, d, m, p, e, hd, h => by rw [polW_deep (by omega)] at h; cases h; decide
  | n + 1, d, m, .mk id set alg tgt rules kids obls, e, hd, h => by
    by_cases h4 : 4 < d
    · rw [polW_deep h4] at h; cases h; decide
    cases hh : headW m id set alg tgt rules.length kids.length obls with
    | bad e' => rw [polW_head h4 hh] at h; cases h; exact headW_bad hh
    | ok m1 =>
      cases hr : rulesW m1 rules with
      | bad e' =>
        rw [polW_rules h4 hh hr] at h; cases h
        clear hh hd
        induction rules generalizing m1 with
        | nil => cases hr
        | cons r l ih =>
          simp only [rulesW] at hr
          cases hx : ruleW m1 r with
          | bad x => rw [hx] at hr; cases hr; exact ruleW_bad hx
          | ok m2 => rw [hx] at hr; exact ih m2 hr
      | ok m2 =>
        rw [polW_kids h4 hh hr] at h
        have ih := fun m p e => polW_bad n (d + 1) m p e (by omega)
        clear hh hr
        induction kids generalizing m2 with
        | nil => cases h
        | cons k l ihk =>
          simp only [kidsW] at h
          cases hx : polW m2 (d + 1) k with
          | bad x => rw [hx] at h; cases h; exact ih _ _ _ hx
          | ok m3 => rw [hx] at h; exact ihk m3 h
theorem need_ok {e : Int} {w : Went} {m : MetD} (h : need e w = .ok m) : e = 0 ∧ w = .ok m := by
  unfold need at h
  split at h
  · exact ⟨by assumption, h⟩
  · cases h
theorem headW_ok {m m1 : MetD} {id : Txt} {set : Bool} {alg : Int} {tgt : TgtD} {nr nk : Nat} {obls : List OblD} (h : headW m id set alg tgt nr nk obls = .ok m1) :
    meetD m id = some m1 ∧ 1 ≤ alg ∧ alg ≤ 6 ∧ (set = true → nr = 0) ∧ (set = false → nk = 0 ∧ alg ≠ 4) ∧ tgtE tgt = 0 ∧ oblsE obls = 0 ∧ nr ≤ 16 ∧ nk ≤ 16 := by
  unfold headW at h
  split at h
  · cases h
  rename_i m2 hm
  split at h
  · cases h
  split at h
  · cases h
  rename_i h1 h2
  obtain ⟨h3, h⟩ := need_ok h
  obtain ⟨h4, h⟩ := need_ok h
  split at h
  · cases h
  cases h
  have h5 : (set = true → nr = 0) ∧ (set = false → nk = 0 ∧ alg ≠ 4) := by
    cases set <;> simp at h2 ⊢ <;> omega
  exact ⟨hm, by omega, by omega, h5.1, h5.2, h3, h4, by omega, by omega⟩
theorem wpol_ok : ∀ (n d : Nat), d + n = 5 → ∀ (idw mid : Nat) (m : MetD) (p : PolD) (h : Heap), WalkAt h idw mid m →
    FnOK Tryz.prog 79 [.ptr idw 0, polA p, .v (.int .i64 d)] h fun x h' => x = .v (.int .i64 (polW m d p).err) ∧ Keeps [idw, mid] h h' ∧ ∀ m', polW m d p = .ok m' → WalkAt h' idw mid m'
  | n, d, hd, idw, mid, m, .mk id set alg tgt rules kids obls, h, hw => by
    refine FnOK.body hU hm Tryz.func79 rfl (by kernel_rfl) 52 rfl [.tmp 6] rfl (Nat.le_of_ble_eq_true rfl) (fun hwf => ?_)
    simp -implicitDefEqProofs only [go_sem, polA, tgtA, oblsA]
    intro ip hip
    have n1 : idw ≠ ip := fun e => by have := hw.1; rw [e, hip] at this; cases this
    have n2 : mid ≠ ip := fun e => by have := hw.2.1; rw [e, hip] at this; cases this
    have hwb := hw.keep (Sub.upd_new (k := some (.obj [.s id, .v (.bool set), .v (.int .i64 alg), .sl (tgt.map anyA) .no, .sl (rules.map ruleA) .no, .sl (kidsA kids) .no, .sl (obls.map oblA) .no] 32)) hip)
    have hk0 : Keeps [idw, mid] h (upd h ip (some (.obj [.s id, .v (.bool set), .v (.int .i64 alg), .sl (tgt.map anyA) .no, .sl (rules.map ruleA) .no, .sl (kidsA kids) .no, .sl (obls.map oblA) .no] 32))) := .of (.upd_new hip)
    obtain ⟨hb, ehb⟩ : ∃ hb, upd h ip (some (.obj [.s id, .v (.bool set), .v (.int .i64 alg), .sl (tgt.map anyA) .no, .sl (rules.map ruleA) .no, .sl (kidsA kids) .no, .sl (obls.map oblA) .no] 32)) = hb := ⟨_, rfl⟩
    have hbip : hb ip = some (.obj [.s id, .v (.bool set), .v (.int .i64 alg), .sl (tgt.map anyA) .no, .sl (rules.map ruleA) .no, .sl (kidsA kids) .no, .sl (obls.map oblA) .no] 32) := by rw [← ehb]; exact upd_same ..
    rw [ehb] at hwb hk0 ⊢
    cases d0 : decide (4 < (d : Int))
    case true =>
      have e0 : 4 < d := by have := of_decide_eq_true d0; omega
      simp -implicitDefEqProofs only [go_sem, d0]
      exact .same (.refl _) ⟨by rw [polW_deep e0]; rfl, hk0, fun m' h' => by rw [polW_deep e0] at h'; cases h'⟩
    have e0 : ¬ 4 < d := by have := of_decide_eq_false d0; omega
    simp -implicitDefEqProofs only [go_sem, d0, hbip]
    have hhead := whead_ok idw mid m id set alg tgt rules kids obls hb hwb
    simp only [polA, tgtA, oblsA] at hhead
    refine hhead.mono fun x h2 ⟨ex, hk, hw2⟩ => ?_
    subst ex
    have hk2 := hk0.trans hk
    cases hh : headW m id set alg tgt rules.length kids.length obls with
    | bad e =>
      have hne := headW_bad hh
      have t1 : (e != 0) = true := by simpa using hne
      simp -implicitDefEqProofs only [go_sem, Went.err, t1]
      exact .same (.refl _) ⟨by rw [polW_head e0 hh]; rfl, hk2, fun m' h' => by rw [polW_head e0 hh] at h'; cases h'⟩
    | ok m1 =>
      have hw2 := hw2 _ hh
      have hle := (headW_ok hh).2.2.2.2.2.2.2
      have hip2 := hk ip _ (by simp [n1.symm, n2.symm]) hbip
      simp -implicitDefEqProofs only [go_sem, Went.err, hip2, List.length_map]
      refine .intro (fun k ρ h' => ∃ (i : Nat) (mi : MetD), i ≤ rules.length ∧ k = rules.length - i ∧ rulesW m1 (rules.take i) = .ok mi ∧ Keeps [idw, mid] h h' ∧ WalkAt h' idw mid mi ∧
        h' ip = some (.obj [.s id, .v (.bool set), .v (.int .i64 alg), .sl (tgt.map anyA) .no, .sl (rules.map ruleA) .no, .sl (kidsA kids) .no, .sl (obls.map oblA) .no] 32) ∧
        lk ρ 0 = some (.ptr idw 0) ∧ lk ρ 2 = some (.v (.int .i64 d)) ∧ lk ρ 4 = some (.ptr ip 0) ∧ lk ρ 23 = some (.sl (rules.map ruleA) .no) ∧ lk ρ 24 = some (.v (.int .i64 rules.length)) ∧ lk ρ 25 = some (.v (.int .i64 i))) rules.length ?_ ?_
      · refine ⟨0, m1, by omega, rfl, rfl, hk2, hw2, hip2, ?_, ?_, ?_, ?_, ?_, ?_⟩ <;> simp -implicitDefEqProofs only [go_sem]
      · rintro k ρ h' ⟨i, mi, hi, rfl, hri, hki, hwi, hipi, r0, r2, r4, r23, r24, r25⟩
        simp -implicitDefEqProofs only [go_sem, r0, r2, r4, r23, r24, r25]
        refine .intro (fun e => ?_) (fun e => ?_)
        · have hlt : i < rules.length := Int.ofNat_lt.1 (of_decide_eq_true e)
          have w1 : IntKind.i64.wrap ((i : Int) + 1) = ((i + 1 : Nat) : Int) := by rw [wr64 _ (by omega)]; omega
          simp -implicitDefEqProofs only [go_sem, r0, r2, r4, r23, r24, r25]
          refine .at i (by simpa using hlt) (by rw [List.getElem_map]; rfl) ?_
          simp -implicitDefEqProofs only [go_sem, r0, r2, r4, r23, r24, r25, List.getElem_map, ruleA]
          intro ir hir
          have hrl := wrule_ok idw mid mi rules[i] _ (hwi.keep (Sub.upd_new (k := some (.obj [.s rules[i].id, .v (.bool rules[i].deny), tgtA rules[i].tgt, condA rules[i].cond, oblsA rules[i].obls] 169)) hir))
          simp only [ruleA] at hrl
          simp -implicitDefEqProofs only [go_sem, r0, r2, r4, r23, r24, r25]
          refine hrl.mono fun x h3 ⟨ex, hk3, hw3⟩ => ?_
          subst ex
          have hk4 := (hki.trans (.of (Sub.upd_new hir))).trans hk3
          have hip3 := hk3 ip _ (by simp [n1.symm, n2.symm]) ((Sub.upd_new hir) _ _ hipi)
          cases hx : ruleW mi rules[i] with
          | bad x =>
            have t1 : (x != 0) = true := by simpa using ruleW_bad hx
            simp -implicitDefEqProofs only [go_sem, r0, r2, r4, r23, r24, r25, Went.err, t1]
            have hp := polW_rules (d := d) (kids := kids) e0 hh (rulesW_stop hlt hri hx)
            exact .same (.refl _) ⟨by rw [hp]; rfl, hk4, fun m' h' => by rw [hp] at h'; cases h'⟩
          | ok m3 =>
            simp -implicitDefEqProofs only [go_sem, r0, r2, r4, r23, r24, r25, Went.err, w1]
            refine ⟨_, ?_, i + 1, m3, by omega, rfl, by rw [rulesW_next hlt hri, hx], hk4, hw3 _ hx, hip3, ?_, ?_, ?_, ?_, ?_, ?_⟩
            · omega
            all_goals simp -implicitDefEqProofs only [go_sem, r0, r2, r4, r23, r24, r25, w1]
        · have hge : i = rules.length := by have := of_decide_eq_false e; omega
          subst hge
          rw [List.take_length] at hri
          have hpk := polW_kids (d := d) (kids := kids) e0 hh hri
          simp -implicitDefEqProofs only [go_sem, r0, r2, r4, r23, r24, r25, hipi, kidsA_eq, List.length_map]
          refine .intro (fun k ρ h' => ∃ (i : Nat) (mj : MetD), i ≤ kids.length ∧ k = kids.length - i ∧ kidsW mi (d + 1) (kids.take i) = .ok mj ∧ Keeps [idw, mid] h h' ∧ WalkAt h' idw mid mj ∧
            lk ρ 0 = some (.ptr idw 0) ∧ lk ρ 2 = some (.v (.int .i64 d)) ∧ lk ρ 37 = some (.sl (kids.map polA) .no) ∧ lk ρ 38 = some (.v (.int .i64 kids.length)) ∧ lk ρ 39 = some (.v (.int .i64 i))) kids.length ?_ ?_
          · refine ⟨0, mi, by omega, rfl, rfl, hki, hwi, ?_, ?_, ?_, ?_, ?_⟩ <;> simp -implicitDefEqProofs only [go_sem, r0, r2, r4]
          · rintro k ρ h' ⟨i, mj, hi, rfl, hkj, hki, hwi, r0, r2, r37, r38, r39⟩
            simp -implicitDefEqProofs only [go_sem, r0, r2, r37, r38, r39]
            refine .intro (fun e => ?_) (fun e => ?_)
            · have hlt : i < kids.length := Int.ofNat_lt.1 (of_decide_eq_true e)
              have w1 : IntKind.i64.wrap ((i : Int) + 1) = ((i + 1 : Nat) : Int) := by rw [wr64 _ (by omega)]; omega
              have w2 : IntKind.i64.wrap ((d : Int) + 1) = ((d + 1 : Nat) : Int) := by rw [wr64 _ (by omega)]; omega
              obtain ⟨n', rfl⟩ : ∃ n', n = n' + 1 := ⟨n - 1, by omega⟩
              have hrec := wpol_ok n' (d + 1) (by omega) idw mid mj kids[i]
              cases hki' : kids[i] with
              | mk kid kset kalg ktgt krules kkids kobls =>
              rw [hki'] at hrec
              simp only [polA, tgtA, oblsA] at hrec
              simp -implicitDefEqProofs only [go_sem, r0, r2, r37, r38, r39]
              refine .at i (by simpa using hlt) (by rw [List.getElem_map]; exact polA_len _) ?_
              simp -implicitDefEqProofs only [go_sem, r0, r2, r37, r38, r39, List.getElem_map, hki', polA, tgtA, oblsA]
              intro ir hir
              simp -implicitDefEqProofs only [go_sem, r0, r2, r37, r38, r39, w2]
              refine (hrec _ (hwi.keep (Sub.upd_new hir))).mono fun x h3 ⟨ex, hk3, hw3⟩ => ?_
              subst ex
              have hk4 := (hki.trans (.of (Sub.upd_new hir))).trans hk3
              cases hx : polW mj (d + 1) (.mk kid kset kalg ktgt krules kkids kobls) with
              | bad x =>
                have t1 : (x != 0) = true := by simpa using polW_bad n' (d + 1) _ _ _ (by omega) hx
                simp -implicitDefEqProofs only [go_sem, r0, r2, r37, r38, r39, Went.err, t1]
                have hp := kidsW_stop hlt hkj (by rw [hki']; exact hx)
                exact .same (.refl _) ⟨by rw [hpk, hp]; rfl, hk4, fun m' h' => by rw [hpk, hp] at h'; cases h'⟩
              | ok m3 =>
                simp -implicitDefEqProofs only [go_sem, r0, r2, r37, r38, r39, Went.err, w1]
                refine ⟨_, ?_, i + 1, m3, by omega, rfl, by rw [kidsW_next hlt hkj, hki', hx], hk4, hw3 _ hx, ?_, ?_, ?_, ?_, ?_⟩
                · omega
                all_goals simp -implicitDefEqProofs only [go_sem, r0, r2, r37, r38, r39, w1]
            · have hge : i = kids.length := by have := of_decide_eq_false e; omega
              subst hge
              rw [List.take_length] at hkj
              simp -implicitDefEqProofs only [go_sem, r0, r2, r37, r38, r39]
              exact .same (.refl _) ⟨by rw [hpk, hkj]; rfl, hki, fun m' h' => by rw [hpk, hkj] at h'; cases h'; exact hwi⟩
theorem ne_new {h : Heap} {i j : Nat} {b : Blk} (e : upd h i (some b) j = none) : j ≠ i := fun hh => by
  subst hh; rw [upd_same] at e; cases e
theorem right_ok (p : PolD) (h : Heap) : FnOK Tryz.prog 41 [polA p] h fun r h' => r = .v (.int .i64 (rightE p)) ∧ h' = h := by
  cases p with
  | mk id set alg tgt rules kids obls =>
  refine FnOK.body hU hm Tryz.func41 rfl (by kernel_rfl) 10 rfl [.tmp 2] rfl (Nat.le_of_ble_eq_true rfl) (fun hwf => ?_)
  simp -implicitDefEqProofs only [go_sem, polA, tgtA, oblsA]
  intro ip hip
  simp -implicitDefEqProofs only [go_sem]
  intro im him
  simp -implicitDefEqProofs only [go_sem]
  intro iw hiw
  have n1 := ne_new him
  have n2 := ne_new hiw
  have hiw1 := hiw
  rw [upd_other _ _ n2] at hiw1
  have n3 := ne_new hiw1
  have s1 : Ab.Sub h (upd (upd (upd h ip (some (.obj [.s id, .v (.bool set), .v (.int .i64 alg), .sl (tgt.map anyA) .no, .sl (rules.map ruleA) .no, .sl (kidsA kids) .no, .sl (obls.map oblA) .no] 32))) im (some (.mp []))) iw (some (.obj [.mp im, .v (.int .i64 0)] 133))) :=
    ((Sub.upd_new hip).trans (.upd_new him)).trans (.upd_new hiw)
  obtain ⟨h3, e3⟩ : ∃ h3, upd (upd (upd h ip (some (.obj [.s id, .v (.bool set), .v (.int .i64 alg), .sl (tgt.map anyA) .no, .sl (rules.map ruleA) .no, .sl (kidsA kids) .no, .sl (obls.map oblA) .no] 32))) im (some (.mp []))) iw (some (.obj [.mp im, .v (.int .i64 0)] 133)) = h3 := ⟨_, rfl⟩
  have g1 : h3 ip = some (.obj [.s id, .v (.bool set), .v (.int .i64 alg), .sl (tgt.map anyA) .no, .sl (rules.map ruleA) .no, .sl (kidsA kids) .no, .sl (obls.map oblA) .no] 32) := by
    rw [← e3, upd_other _ _ n3.symm, upd_other _ _ n1.symm, upd_same]
  have g2 : WalkAt h3 iw im ⟨[], 0⟩ := by
    refine ⟨by rw [← e3, upd_same]; rfl, by rw [← e3, upd_other _ _ n2.symm, upd_same]; rfl, fun l hl => (by cases hl), by decide⟩
  have hi0 : h im = none := by rw [upd_other _ _ n1] at him; exact him
  have hw0 : h iw = none := by rw [upd_other _ _ n3] at hiw1; exact hiw1
  simp -implicitDefEqProofs only [go_sem]
  rw [e3] at s1 ⊢
  simp -implicitDefEqProofs only [go_sem, g1]
  have hp := wpol_ok 4 1 rfl iw im ⟨[], 0⟩ (.mk id set alg tgt rules kids obls) h3 g2
  simp only [polA, tgtA, oblsA, Int.ofNat_one, Int.cast_ofNat_Int] at hp
  refine hp.mono fun x h4 ⟨ex, hk, _⟩ => ?_
  subst ex
  simp -implicitDefEqProofs only [go_sem]
  refine .mk _ (.refl _) (fun j k hj => ?_) ⟨rfl, rfl⟩
  refine hk j k ?_ (s1 _ _ hj)
  simp only [List.mem_cons, List.not_mem_nil, or_false, not_or]
  exact ⟨fun e => (by rw [e, hw0] at hj; cases hj), fun e => (by rw [e, hi0] at hj; cases hj)⟩
end Go.Proofs.YtnhelgnmadbpgaaGreatDoor

set_option linter.unusedSimpArgs false
set_option linter.unusedVariables false
namespace Go.Proofs.YtnhelgnmadbpgaaGreatDoor
open Go Go.Ab Go.Bf
def parsedA (x : PolD × Int × Int) : AV := .tup [polA x.1, .v (.int .i64 x.2.1), .v (.int .i64 x.2.2)]
theorem weak_flat3 (a b c : AV) (h : Weak a b) (d : AV) : Weak (.tup [a, c, d]) (.tup [b, c, d]) := .tup _ _ rfl fun i h1 h2 => by
  rcases i with _ | _ | _ | i
  · exact h
  · exact .refl _
  · exact .refl _
  · simp at h1; omega
set_option maxRecDepth 20000 in
theorem parse_ok (s : Txt) (h : Heap) (he : ErrT h) : FnOK Tryz.prog 44 [.s s] h fun r h' => r = parsedA (parseD s) ∧ h' = h := by
  refine FnOK.body hU hm Tryz.func44 rfl (by kernel_rfl) 61 rfl [.cell 2 32, .tmp 3, .tmp 4] rfl (Nat.le_of_ble_eq_true rfl) (fun hwf => ?_)
  simp -implicitDefEqProofs only [go_sem]
  intro i2 hi2
  simp -implicitDefEqProofs only [go_sem]
  refine (all_tok_ok s _ (he.sub (.upd_new hi2))).pthen ?_
  cases el : lexD s with
  | bad e a =>
    have e1 := lexD_bad el
    have d1 : (e != 0) = true := by
      have : e ≠ 0 := by rcases e1.1 with h | h <;> rw [h] <;> decide
      simpa using this
    have efin : parseD s = (zeroP, e, a) := by simp only [parseD, el]
    simp -implicitDefEqProofs only [go_sem, lexR, d1]
    rw [efin]
    exact .mk (h' := h) (parsedA (zeroP, e, a)) (weak_flat3 _ _ _ (weak_flat _) _) (.upd_new hi2) ⟨rfl, rfl⟩
  | ok ts =>
    have efin : parseD s = parseT s ts := by simp only [parseD, el]
    have hw := wfP_start el 0 0 0
    have hpol := policy_p 3 1 rfl ⟨ts, 0, 0, 0, 0⟩ hw (Nat.zero_le _)
    have hap := ah_pol 4 ⟨ts, 0, 0, 0, 0⟩ hw
    obtain ⟨⟨⟨pid, pset, palg, ptgt, prules, pkids, pobls⟩, st1⟩, ep⟩ : ∃ x, polF 4 ⟨ts, 0, 0, 0, 0⟩ = x := ⟨_, rfl⟩
    rw [show 3 + 1 = 4 from rfl, ep] at hpol
    rw [ep] at hap
    simp only [polA] at hpol hap
    simp only [parseT, ep] at efin
    simp -implicitDefEqProofs only [go_sem, lexR]
    intro i8 hi8
    have n8 := ne_upd hi8
    have m82 : ¬ i8 = i2 := n8
    have m28 : ¬ i2 = i8 := fun e => n8 e.symm
    have hh8 : h i8 = none := by rw [upd_other _ _ n8] at hi8; exact hi8
    simp -implicitDefEqProofs only [go_sem, upd_ne, m82, m28]
    refine hpol.go (upd_same ..) ?_
    rw [upd_upd]
    simp -implicitDefEqProofs only [go_sem, upd_ne, m82, m28]
    intro i9 hi9
    have n9 := ne_upd hi9
    have hi9' := hi9
    rw [upd_other _ _ n9] at hi9'
    have n92 := ne_upd hi9'
    have m92 : ¬ i9 = i2 := n92
    have m29 : ¬ i2 = i9 := fun e => n92 e.symm
    have m98 : ¬ i9 = i8 := n9
    have m89 : ¬ i8 = i9 := fun e => n9 e.symm
    have hh9 : h i9 = none := by rw [upd_other _ _ n92] at hi9'; exact hi9'
    have c9 : ∀ (f : Heap) (x y : Option Blk), upd (upd f i8 x) i9 y = upd (upd f i9 y) i8 x := fun f x y => upd_comm f x y n9.symm
    simp -implicitDefEqProofs only [go_sem, c9, upd_ne, m82, m28, m92, m29, m98, m89]
    refine (here_ok st1 hap.1).run ?_
    have subs : ∀ x y z, Sub h (upd (upd (upd h i2 x) i9 y) i8 z) := fun x y z => ((Sub.upd_new hi2).put hh9 _).put hh8 _
    cases d1 : ((hereD st1).kind != 7)
    · have k1 : (hereD st1).kind = 7 := by simpa using d1
      have e2 : (if (hereD st1).kind = 7 then st1 else stuckD st1) = st1 := if_pos k1
      simp -implicitDefEqProofs only [go_sem, c9, tokA, d1, upd_ne, m82, m28, m92, m29, m98, m89]
      cases db : ((st1).bad == 0)
      · have eb : (st1).bad ≠ 0 := by simpa using db
        simp -implicitDefEqProofs only [go_sem, c9, upd_ne, m82, m28, m92, m29, m98, m89, PO, db]
        have eend : endP s (.mk pid pset palg ptgt prules pkids pobls, st1) = st1 := by
          unfold endP; simp only [e2]; rw [if_neg (fun h => eb h.1)]
        have hbb : (st1).bad ≠ 0 := eb
        have dn : ((st1).bad != 0) = true := by simpa using hbb
        simp -implicitDefEqProofs only [go_sem, c9, upd_ne, m82, m28, m92, m29, m98, m89, PO, dn]
        refine .calls (hm1 i8 (PO (st1))) [0, 1, 2, 3, 4, 5, 6, 7, 8, 9, 10, 11] (.hm1 (upd_same ..)) (by kernel_rfl) rfl ?_
        simp -implicitDefEqProofs only [go_sem, c9, upd_ne, m82, m28, m92, m29, m98, m89, PO, hm1_same]
        refine ⟨.hm1 ((upd_other _ _ n8).trans (upd_same ..)), ?_⟩
        have efin2 : parseD s = (zeroP, (st1).bad, (st1).place) := by rw [efin, if_neg (by rw [eend]; exact hbb), eend]
        rw [efin2]
        exact .mk (h' := h) (parsedA (zeroP, (st1).bad, (st1).place)) (weak_flat3 _ _ _ (weak_flat _) _) (Sub.put (subs _ _ _) hi2 _) ⟨rfl, rfl⟩
      · have eb : (st1).bad = 0 := by simpa using db
        simp -implicitDefEqProofs only [go_sem, c9, upd_ne, m82, m28, m92, m29, m98, m89, PO, db]
        refine (right_ok (.mk pid pset palg ptgt prules pkids pobls) _).pthen ?_
        cases dr : (rightE (.mk pid pset palg ptgt prules pkids pobls) != 0)
        · have er : rightE (.mk pid pset palg ptgt prules pkids pobls) = 0 := by simpa using dr
          have dn : ((st1).bad != 0) = false := by simpa using eb
          simp -implicitDefEqProofs only [go_sem, c9, upd_ne, m82, m28, m92, m29, m98, m89, PO, dr, dn]
          have eend : endP s (.mk pid pset palg ptgt prules pkids pobls, st1) = st1 := by
            unfold endP; simp only [e2]; rw [if_neg (fun h => h.2 er)]
          have efin2 : parseD s = (.mk pid pset palg ptgt prules pkids pobls, 0, 0) := by rw [efin, if_pos (by rw [eend]; exact eb)]
          rw [efin2]
          exact .mk (h' := h) (parsedA (.mk pid pset palg ptgt prules pkids pobls, 0, 0)) (weak_flat3 _ _ _ (weak_flat _) _) (Sub.put (subs _ _ _) hi2 _) ⟨rfl, rfl⟩
        · have er : rightE (.mk pid pset palg ptgt prules pkids pobls) ≠ 0 := by simpa using dr
          simp -implicitDefEqProofs only [go_sem, c9, upd_ne, m82, m28, m92, m29, m98, m89, PO, dr]
          refine (wrong_ok (st1) 5 s.length).run ?_
          have eend : endP s (.mk pid pset palg ptgt prules pkids pobls, st1) = wrongD (st1) 5 s.length := by
            unfold endP; simp only [e2]; rw [if_pos ⟨eb, er⟩]
          have hwb : wrongD (st1) 5 s.length = { (st1) with bad := 5, place := s.length } := by rw [wrongD, if_pos eb]
          have hbb : (wrongD (st1) 5 s.length).bad ≠ 0 := by rw [hwb]; show (5 : Int) ≠ 0; decide
          have dn : ((wrongD (st1) 5 s.length).bad != 0) = true := by simpa using hbb
          simp -implicitDefEqProofs only [go_sem, c9, upd_ne, m82, m28, m92, m29, m98, m89, PO, dn]
          refine .calls (hm1 i8 (PO (wrongD (st1) 5 s.length))) [0, 1, 2, 3, 4, 5, 6, 7, 8, 9, 10, 11] (.hm1 (upd_same ..)) (by kernel_rfl) rfl ?_
          simp -implicitDefEqProofs only [go_sem, c9, upd_ne, m82, m28, m92, m29, m98, m89, PO, hm1_same]
          refine ⟨.hm1 ((upd_other _ _ n8).trans (upd_same ..)), ?_⟩
          have efin2 : parseD s = (zeroP, (wrongD (st1) 5 s.length).bad, (wrongD (st1) 5 s.length).place) := by rw [efin, if_neg (by rw [eend]; exact hbb), eend]
          rw [efin2]
          exact .mk (h' := h) (parsedA (zeroP, (wrongD (st1) 5 s.length).bad, (wrongD (st1) 5 s.length).place)) (weak_flat3 _ _ _ (weak_flat _) _) (Sub.put (subs _ _ _) hi2 _) ⟨rfl, rfl⟩
    · have k1 : (hereD st1).kind ≠ 7 := by simpa using d1
      have e2 : (if (hereD st1).kind = 7 then st1 else stuckD st1) = stuckD st1 := if_neg k1
      simp -implicitDefEqProofs only [go_sem, c9, tokA, d1, upd_ne, m82, m28, m92, m29, m98, m89]
      refine (stuck_ok st1 hap.1).run ?_
      simp -implicitDefEqProofs only [go_sem, c9, upd_ne, m82, m28, m92, m29, m98, m89]
      cases db : ((stuckD st1).bad == 0)
      · have eb : (stuckD st1).bad ≠ 0 := by simpa using db
        simp -implicitDefEqProofs only [go_sem, c9, upd_ne, m82, m28, m92, m29, m98, m89, PO, db]
        have eend : endP s (.mk pid pset palg ptgt prules pkids pobls, st1) = stuckD st1 := by
          unfold endP; simp only [e2]; rw [if_neg (fun h => eb h.1)]
        have hbb : (stuckD st1).bad ≠ 0 := eb
        have dn : ((stuckD st1).bad != 0) = true := by simpa using hbb
        simp -implicitDefEqProofs only [go_sem, c9, upd_ne, m82, m28, m92, m29, m98, m89, PO, dn]
        refine .calls (hm1 i8 (PO (stuckD st1))) [0, 1, 2, 3, 4, 5, 6, 7, 8, 9, 10, 11] (.hm1 (upd_same ..)) (by kernel_rfl) rfl ?_
        simp -implicitDefEqProofs only [go_sem, c9, upd_ne, m82, m28, m92, m29, m98, m89, PO, hm1_same]
        refine ⟨.hm1 ((upd_other _ _ n8).trans (upd_same ..)), ?_⟩
        have efin2 : parseD s = (zeroP, (stuckD st1).bad, (stuckD st1).place) := by rw [efin, if_neg (by rw [eend]; exact hbb), eend]
        rw [efin2]
        exact .mk (h' := h) (parsedA (zeroP, (stuckD st1).bad, (stuckD st1).place)) (weak_flat3 _ _ _ (weak_flat _) _) (Sub.put (subs _ _ _) hi2 _) ⟨rfl, rfl⟩
      · have eb : (stuckD st1).bad = 0 := by simpa using db
        simp -implicitDefEqProofs only [go_sem, c9, upd_ne, m82, m28, m92, m29, m98, m89, PO, db]
        refine (right_ok (.mk pid pset palg ptgt prules pkids pobls) _).pthen ?_
        cases dr : (rightE (.mk pid pset palg ptgt prules pkids pobls) != 0)
        · have er : rightE (.mk pid pset palg ptgt prules pkids pobls) = 0 := by simpa using dr
          have dn : ((stuckD st1).bad != 0) = false := by simpa using eb
          simp -implicitDefEqProofs only [go_sem, c9, upd_ne, m82, m28, m92, m29, m98, m89, PO, dr, dn]
          have eend : endP s (.mk pid pset palg ptgt prules pkids pobls, st1) = stuckD st1 := by
            unfold endP; simp only [e2]; rw [if_neg (fun h => h.2 er)]
          have efin2 : parseD s = (.mk pid pset palg ptgt prules pkids pobls, 0, 0) := by rw [efin, if_pos (by rw [eend]; exact eb)]
          rw [efin2]
          exact .mk (h' := h) (parsedA (.mk pid pset palg ptgt prules pkids pobls, 0, 0)) (weak_flat3 _ _ _ (weak_flat _) _) (Sub.put (subs _ _ _) hi2 _) ⟨rfl, rfl⟩
        · have er : rightE (.mk pid pset palg ptgt prules pkids pobls) ≠ 0 := by simpa using dr
          simp -implicitDefEqProofs only [go_sem, c9, upd_ne, m82, m28, m92, m29, m98, m89, PO, dr]
          refine (wrong_ok (stuckD st1) 5 s.length).run ?_
          have eend : endP s (.mk pid pset palg ptgt prules pkids pobls, st1) = wrongD (stuckD st1) 5 s.length := by
            unfold endP; simp only [e2]; rw [if_pos ⟨eb, er⟩]
          have hwb : wrongD (stuckD st1) 5 s.length = { (stuckD st1) with bad := 5, place := s.length } := by rw [wrongD, if_pos eb]
          have hbb : (wrongD (stuckD st1) 5 s.length).bad ≠ 0 := by rw [hwb]; show (5 : Int) ≠ 0; decide
          have dn : ((wrongD (stuckD st1) 5 s.length).bad != 0) = true := by simpa using hbb
          simp -implicitDefEqProofs only [go_sem, c9, upd_ne, m82, m28, m92, m29, m98, m89, PO, dn]
          refine .calls (hm1 i8 (PO (wrongD (stuckD st1) 5 s.length))) [0, 1, 2, 3, 4, 5, 6, 7, 8, 9, 10, 11] (.hm1 (upd_same ..)) (by kernel_rfl) rfl ?_
          simp -implicitDefEqProofs only [go_sem, c9, upd_ne, m82, m28, m92, m29, m98, m89, PO, hm1_same]
          refine ⟨.hm1 ((upd_other _ _ n8).trans (upd_same ..)), ?_⟩
          have efin2 : parseD s = (zeroP, (wrongD (stuckD st1) 5 s.length).bad, (wrongD (stuckD st1) 5 s.length).place) := by rw [efin, if_neg (by rw [eend]; exact hbb), eend]
          rw [efin2]
          exact .mk (h' := h) (parsedA (zeroP, (wrongD (stuckD st1) 5 s.length).bad, (wrongD (stuckD st1) 5 s.length).place)) (weak_flat3 _ _ _ (weak_flat _) _) (Sub.put (subs _ _ _) hi2 _) ⟨rfl, rfl⟩
end Go.Proofs.YtnhelgnmadbpgaaGreatDoor

set_option linter.unusedSimpArgs false
set_option linter.unusedVariables false
namespace Go.Ab
open Go
theorem OwE.keepb {tb : TypeId} {h0 h h' : Heap} {sz : Nat} {y : AV} {xs : List AV} (hw : OwE tb h0 h sz y xs) (hk : ∀ id, h0 id = Option.none → h id ≠ Option.none → h' id = h id) : OwE tb h0 h' sz y xs :=
  hw.keep fun id e => hk id (hw.nid e).1 (hw.nid e).2.1
end Go.Ab
namespace Go.Proofs.YtnhelgnmadbpgaaGreatDoor
open Go Go.Ab Go.Bf
theorem MyCase.keepb {h0 h h' : Heap} {ys : List AV} {x : AV} {c : CaseD} (hm : MyCase h0 h ys x c) (hk : ∀ id, h0 id = none → h id ≠ none → h' id = h id) : MyCase h0 h' ys x c := by
  obtain ⟨f, l, e, a, b, c, d⟩ := hm
  exact ⟨f, l, e, a.keepb hk, b.keepb hk, c, d⟩
theorem OwnC.keepb {h0 h h' : Heap} {ys : List AV} {y : AV} {cs : List CaseD} {i0 : Nat} (ho : OwnC h0 h ys y cs i0) (hk : ∀ id, h0 id = none → h id ≠ none → h' id = h id) : OwnC h0 h' ys y cs i0 := by
  obtain ⟨xs, a, b, c, d⟩ := ho
  exact ⟨xs, a.keepb hk, b, c, fun h1 h2 => (d h1 h2).keepb hk⟩
theorem OwnS.keepb {h0 h h' : Heap} {x : AV} {s : StoreD} {i0 : Nat} (ho : OwnS h0 h x s i0) (hk : ∀ id, h0 id = none → h id ≠ none → h' id = h id) : OwnS h0 h' x s i0 := by
  obtain ⟨y1, y2, y3, y4, e, a, b, c, d, r⟩ := ho
  exact ⟨y1, y2, y3, y4, e, a.keepb hk, b.keepb hk, c.keepb hk, d.keepb hk, r⟩
theorem OwnC.keepx {h0 h h' : Heap} {ys : List AV} {y z : AV} {cs : List CaseD} {i0 : Nat} (ho : OwnC h0 h ys y cs i0) (hz : z ∈ ys) (hy : apart y z) (hk : ∀ id, h0 id = none → h id ≠ none → nid z ≠ some id → h' id = h id) : OwnC h0 h' ys y cs i0 := by
  obtain ⟨xs, a, b, c, d⟩ := ho
  refine ⟨xs, a.keep fun id e => hk id (a.nid e).1 (a.nid e).2.1 (hy id e), b, c, fun h1 h2 => ?_⟩
  obtain ⟨f, l, e, of, ol, hap, hys⟩ := d h1 h2
  exact ⟨f, l, e, of.keep fun id e => hk id (of.nid e).1 (of.nid e).2.1 ((hys z hz).1 id e), ol.keep fun id e => hk id (ol.nid e).1 (ol.nid e).2.1 ((hys z hz).2 id e), hap, hys⟩
theorem MyCase.frz {g h0 h : Heap} {ys : List AV} {x : AV} {c : CaseD} (hm : MyCase h0 h ys x c) (hg : Ab.Sub g h0) : Frz g h x (caseA c) := by
  obtain ⟨f, l, rfl, a, b, _⟩ := hm
  refine .agg _ _ rfl fun j h1 h2 => ?_
  rcases j with _ | _ | _ | _ | _ | j
  · exact .pure rfl
  · exact .pure rfl
  · exact .pure rfl
  · exact (a.less hg).frz (pureL_map (fun _ => rfl) _)
  · exact (b.less hg).frz (pureL_map (fun _ => rfl) _)
  · simp at h1; omega
theorem frz_cases {g h0 h : Heap} {y : AV} {xs : List AV} {cs : List CaseD} (hw : OwE 63 h0 h 5 y xs) (hg : Ab.Sub g h0) (hn : xs.length = cs.length) (hx : ∀ j (h1 : j < xs.length) (h2 : j < cs.length), Frz g h xs[j] (caseA cs[j])) : Frz g h y (casesA cs) := by
  rcases hw with ⟨rfl, rfl⟩ | ⟨id, h1, hw⟩
  · have : cs = [] := List.length_eq_zero_iff.1 hn.symm
    subst this
    exact .sl [] [] .full rfl (fun i h1 => by cases h1) (fun i h1 => by cases h1)
  · have hsz : ∀ i (h1 : i < xs.length), xs[i].cells.length = 5 := fun i h1 => hw.rd.1 _ (List.getElem_mem h1)
    refine hw.frz (hg.none h1) (by simpa using hn) (fun i h1 h2 => by rw [hsz i h1, List.getElem_map]; rfl) fun i h1 h2 j h3 h4 => ?_
    have h2' : i < cs.length := by simpa using h2
    have hf := hx i h1 h2'
    have key : ∀ x y : AV, Frz g h x y → isAggA y = true → pureB y = true → ∀ j (h3 : j < x.cells.length) (h4 : j < y.cells.length), Frz g h x.cells[j] y.cells[j] := by
      intro x y hf ha hp j h3 h4
      cases hf with
      | keep x hx => exact .pure (pureB_cells hp _ (List.getElem_mem h4))
      | agg xs ys hn hr => exact hr j h3 h4
      | _ => cases ha
    have e : (cs.map caseA)[i]'h2 = caseA cs[i] := List.getElem_map ..
    simp only [e] at h4 ⊢
    exact key _ _ hf rfl (by simp only [caseA, caseC, pureB, pureL, fieldsA, logA, Bool.and_true, Bool.true_and, Bool.and_eq_true]; exact ⟨pureL_map (fun _ => rfl) _, pureL_map (fun _ => rfl) _⟩) j h3 h4
theorem OwnC.frz {g h0 h : Heap} {ys : List AV} {y : AV} {cs : List CaseD} {i0 : Nat} (ho : OwnC h0 h ys y cs i0) (hg : Ab.Sub g h0) : Frz g h y (casesA cs) := by
  obtain ⟨xs, a, b, c, d⟩ := ho
  refine frz_cases a hg b fun j h1 h2 => ?_
  by_cases e : j = i0
  · subst e; exact (d h1 h2).frz hg
  · rw [c j h1 h2 e]; exact frz_case _
theorem polC_frz {g h : Heap} (p : PolD) : ∀ x ∈ polC p, Frz g h x x := fun x hx => by
  refine .pure (pureB_cells (x := polA p) (pure_pol p) x ?_)
  rw [polA_eq]
  exact hx
theorem frz_list {g h : Heap} {xs : List AV} (hx : ∀ x ∈ xs, Frz g h x x) : ∀ i (h1 : i < xs.length) (h2 : i < xs.length), Frz g h xs[i] xs[i] := fun i h1 _ => hx _ (List.getElem_mem h1)
theorem frz_app {g h : Heap} {ps bs cs ds : List AV} (n1 : ps.length = bs.length) (n2 : cs.length = ds.length) (h1 : ∀ i (a : i < ps.length) (b : i < bs.length), Frz g h ps[i] bs[i]) (h2 : ∀ i (a : i < cs.length) (b : i < ds.length), Frz g h cs[i] ds[i]) :
    ∀ i (a : i < (ps ++ cs).length) (b : i < (bs ++ ds).length), Frz g h (ps ++ cs)[i] (bs ++ ds)[i] := fun i a b => by
  by_cases e : i < ps.length
  · rw [List.getElem_append_left e, List.getElem_append_left (by omega)]; exact h1 i e (by omega)
  · rw [List.getElem_append_right (by omega), List.getElem_append_right (by omega)]
    simp only [List.length_append] at a b
    have := h2 (i - ps.length) (by omega) (by omega)
    simp only [n1] at this ⊢
    exact this
theorem frz_store {g h : Heap} {s : StoreD} {y1 y2 y3 y4 : AV} (a : Frz g h y1 (casesA s.cases)) (b : Frz g h y2 (revsA s.reviews)) (c : Frz g h y3 (notsA s.notices)) (d : Frz g h y4 (rolesA s.roles)) :
    Frz g h (.agg ([.v (.int .i64 s.tick), y1, y2, y3, y4] ++ polC s.policy ++ [.v (.int .i64 s.version)])) (storeA s) := by
  refine .agg _ _ (by simp) (frz_app (by simp) rfl (frz_app rfl rfl (fun i h1 h2 => ?_) (frz_list (polC_frz _))) (frz_list fun x hx => by rw [List.mem_singleton.1 hx]; exact .pure rfl))
  rcases i with _ | _ | _ | _ | _ | i
  · exact .pure rfl
  · exact a
  · exact b
  · exact c
  · exact d
  · simp at h1; omega
theorem OwnS.frz {g h0 h : Heap} {x : AV} {s : StoreD} {i0 : Nat} (ho : OwnS h0 h x s i0) (hg : Ab.Sub g h0) : Frz g h x (storeA s) := by
  obtain ⟨y1, y2, y3, y4, rfl, a, b, c, d, r⟩ := ho
  exact frz_store (a.frz hg) ((b.less hg).frz (pureL_map (fun _ => rfl) _)) ((c.less hg).frz (pureL_map (fun _ => rfl) _)) ((d.less hg).frz (pureL_map (fun _ => rfl) _))
theorem OwnC.rd {h0 h : Heap} {ys : List AV} {y : AV} {cs : List CaseD} {i0 : Nat} (ho : OwnC h0 h ys y cs i0) : RdCs h y cs := by
  obtain ⟨xs, a, b, c, d⟩ := ho
  refine ⟨xs, a.rd, b, fun j h1 h2 => ?_⟩
  by_cases e : j = i0
  · subst e
    obtain ⟨f, l, e, a, b, _⟩ := d h1 h2
    exact ⟨f, l, e, a.rd, b.rd⟩
  · rw [c j h1 h2 e]; exact rdC _ _
theorem OwnS.rd {h0 h : Heap} {x : AV} {s : StoreD} {i0 : Nat} (ho : OwnS h0 h x s i0) : RdS h x s := by
  obtain ⟨y1, y2, y3, y4, rfl, a, b, c, d, r⟩ := ho
  exact ⟨y1, y2, y3, y4, rfl, a.rd, b.rd, c.rd, d.rd⟩
end Go.Proofs.YtnhelgnmadbpgaaGreatDoor
