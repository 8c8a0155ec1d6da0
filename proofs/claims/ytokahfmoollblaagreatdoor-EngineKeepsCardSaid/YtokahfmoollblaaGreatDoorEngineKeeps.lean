/- The law EngineKeeps: the statement. -/
import Derived.Test.YtokahfmoollblaaGreatDoorRows
import Derived.WalkKit
import Derived.ProofKit
import Derived.OpenShut
import Derived.ShutString
import Derived.ChangeOld
import Derived.Below
import Derived.LaidMore
import Derived.Lib.LaidTab
import Derived.Stop.LaidErr
import Derived.Test.YtokahfmoollblaaGreatDoorCards
import Derived.Test.YtokahfmoollblaaGreatDoorTie
import Derived.SevenTiedAt
import Derived.Stop.Joined
import Derived.Test.YtokahfmoollblaaGreatDoorPk1
import Derived.Test.YtokahfmoollblaaGreatDoorPk2
import Derived.Test.YtokahfmoollblaaGreatDoorPk3
import Derived.Test.YtokahfmoollblaaGreatDoorPk4
import Derived.Test.YtokahfmoollblaaGreatDoorPk5
import Derived.Test.YtokahfmoollblaaGreatDoorPk6
import Derived.Test.YtokahfmoollblaaGreatDoorPk7
namespace Go.Proofs.YtokahfmoollblaaGreatDoor.engineKeeps
open Go.ChangeShapes Go.WideShapes Go.ChangeAt Go.RowKit
set_option linter.unusedVariables false

theorem own : ownKnob Tryz.prog.godebug = none := by kernel_rfl
theorem laidOut : laidOutB Tryz.prog = true := by kernel_rfl
theorem door_met (os : Os) (args : Array Value) : laidMetH Tryz.prog Rows.engineKeepsRow.laid ((World.doorLaid Tryz.prog 400 os).forCall (fun _ _ => 0) ⟨#[], args, []⟩).memory :=
  laidMetH_of_parts3 (fuel := 8) (laidMet_of_run' 8 (by kernel_rfl) (by kernel_rfl)) (by kernel_rfl) (by kernel_rfl)
theorem tab_of {W : World} (h : laidMetH Tryz.prog Rows.engineKeepsRow.laid W) : ∃ (t : TypeId) (fr : Nat × Nat), W.heap[3]? = some (.cells CI.toArray t fr) := by
  rw [MakeChecks.laidMetH_plain _ _ _ (by kernel_rfl)] at h
  have h2 := h.tail.tail
  have hT : Lib.TabIs Tryz.prog W "internal/strconv.uint64pow10" .u64 Lib.pow10Tab :=
    Lib.tabIs_of_head (g := 3) (by kernel_rfl) (by kernel_rfl) Tryz.underlying346 Tryz.underlying76 (by kernel_rfl) (by kernel_rfl) h2
  unfold Lib.TabIs World.var? at hT
  rw [show Tryz.prog.globalNamed "internal/strconv.uint64pow10" = some 3 by kernel_rfl] at hT
  simp only [Option.bind_some] at hT
  split at hT
  · rename_i cs t fr hc
    cases hT
    exact ⟨_, _, hc⟩
  · cases hT

theorem err_of {W : World} (h : laidMetH Tryz.prog Rows.engineKeepsRow.laid W) : ∃ ev : Value, (ev = .nilIface ∨ ∃ te pe, ev = .iface te pe) ∧ ∃ (t : TypeId) (fr : Nat × Nat), W.heap[2]? = some (.cells [ev].toArray t fr) := by
  rw [MakeChecks.laidMetH_plain _ _ _ (by kernel_rfl)] at h
  obtain ⟨ps, ⟨g0, t0, cs0, f0, p0, q0, hg0, ht0, hv0, hd0, _, e0⟩, _, _⟩ := h.tail.tail.tail
  obtain rfl := Option.some.inj ((show Tryz.prog.globalNamed "strconv.ErrRange" = some 2 by kernel_rfl).symm.trans hg0)
  obtain rfl := Option.some.inj ((show (Tryz.prog.globals[2]?).map (·.type) = some 169 by kernel_rfl).symm.trans ht0)
  obtain ⟨f1, u, v, e1, _, _⟩ := iface_of_trod Tryz.underlying169 hd0
  refine ⟨_, .inr ⟨u, v, rfl⟩, ?_⟩
  unfold World.var? at hv0
  rw [hg0] at hv0
  simp only [Option.bind_some] at hv0
  split at hv0
  · rename_i cs t fr hc
    have e2 : cs = #[.iface u v] := (Option.some.inj hv0).trans (Array.ext' e1)
    rw [e2] at hc
    exact ⟨_, _, hc⟩
  · cases hv0

theorem plain : Go.Ab.GM U [3, 4, 9, 44, 46, 67] = true := by decide

set_option maxRecDepth 100000 in
theorem lifted (os : Os) (started : os.Started) (H : Type) (enc : TypeId × Value → H) :
    ReturnsInHanded {} Tryz.checked os 4 .any (fun w args => (Rows.engineKeepsSpec.pre enc Tryz.prog Tryz.f4 [] false w args ∧ laidMetH Tryz.prog Rows.engineKeepsRow.laid w) ∧ sizedMet enc Tryz.prog Tryz.f4 (OpenSpec.ofChange Rows.engineKeepsSpec) false w args) (Rows.engineKeepsSpec.post enc Tryz.prog Tryz.f4 false true false false) := by
  refine returnsInHanded_of_change_and (C := Tryz.checked) (X := fun w _ => laidMetH Tryz.prog Rows.engineKeepsRow.laid w) (fun _ _ _ hh h => h.of_heap hh) own started (by kernel_rfl) Tryz.func4
    (ChangeSpec.witness_shaped (enc := enc) (C := Tryz.checked) (os := os) (X := fun w _ => laidMetH Tryz.prog Rows.engineKeepsRow.laid w) false (World.doorLaid Tryz.prog 400 os) #[.slice none 0 0, .agg #[.int .i64 0, .string ⟨#[]⟩, .string ⟨#[]⟩, .string ⟨#[]⟩, .string ⟨#[]⟩, .int .i64 0, .int .i64 0, .string ⟨#[]⟩, .int .i64 0, .string ⟨#[]⟩, .string ⟨#[]⟩, .bool false], .int .i64 0, .int .i64 0, .int .i64 0] 20 rfl (World.shaped_of_RefB (by kernel_rfl) (by kernel_rfl)) (by kernel_rfl) (by kernel_rfl) (by kernel_rfl) (door_met os _)) ?_
  intro W base args ds gs before hval0 hW hcnd _ hL _
  have hval : ∀ (j : Nat) t v, Tryz.f4.params[j]? = some t → args[j]? = some v → Value.okWide Tryz.prog W .any base t v := hval0
  have hW' := hW
  obtain ⟨p, q, hA0, hV, rfl, hfz, hnd⟩ := hW
  have hA : DataW.TrodAll enc Tryz.prog W 0 (fun _ => true) true Tryz.f4.params.toList args.toList ds p := hA0
  rw [Tryz.params4] at hA hval
  obtain ⟨v0, vs0, d0, ds0, p0, q0, hargs, rfl, rfl, h0, r0⟩ := trodAll_cons hA
  obtain ⟨v1, vs1, d1, ds1, p1, q1, rfl, rfl, rfl, h1, r1⟩ := trodAll_cons r0
  obtain ⟨v2, vs2, d2, ds2, p2, q2, rfl, rfl, rfl, h2, r2⟩ := trodAll_cons r1
  obtain ⟨v3, vs3, d3, ds3, p3, q3, rfl, rfl, rfl, h3, r3⟩ := trodAll_cons r2
  obtain ⟨v4, vs4, d4, ds4, p4, q4, rfl, rfl, rfl, h4, r4⟩ := trodAll_cons r3
  obtain ⟨rfl, rfl, rfl⟩ := trodAll_nil r4
  obtain rfl : args = #[v0, v1, v2, v3, v4] := by cases args; simp_all
  obtain ⟨rfl, rfl⟩ := trodVars_none hV
  obtain ⟨x0, e0, m0⟩ := Go.Ab.mY hU _ plain (fun _ => rfl) (t := 67) (by decide) (hval 0 67 v0 rfl rfl) h0
  have lt0 : ∀ x ∈ p0, x.block < W.heap.size := by obtain ⟨m, hm⟩ := h0; exact DataW.trod_lt m _ _ _ hm
  obtain ⟨x1, e1, m1⟩ := Go.Ab.mY hU _ plain (fun _ => rfl) (t := 46) (by decide) (hval 1 46 v1 rfl rfl) h1
  have lt1 : ∀ x ∈ p1, x.block < W.heap.size := by obtain ⟨m, hm⟩ := h1; exact DataW.trod_lt m _ _ _ hm
  obtain ⟨x2, e2, m2⟩ := Go.Ab.mY hU _ plain (fun _ => rfl) (t := 3) (by decide) (hval 2 3 v2 rfl rfl) h2
  have lt2 : ∀ x ∈ p2, x.block < W.heap.size := by obtain ⟨m, hm⟩ := h2; exact DataW.trod_lt m _ _ _ hm
  obtain ⟨x3, e3, m3⟩ := Go.Ab.mY hU _ plain (fun _ => rfl) (t := 3) (by decide) (hval 3 3 v3 rfl rfl) h3
  have lt3 : ∀ x ∈ p3, x.block < W.heap.size := by obtain ⟨m, hm⟩ := h3; exact DataW.trod_lt m _ _ _ hm
  obtain ⟨x4, e4, m4⟩ := Go.Ab.mY hU _ plain (fun _ => rfl) (t := 3) (by decide) (hval 4 3 v4 rfl rfl) h4
  have lt4 : ∀ x ∈ p4, x.block < W.heap.size := by obtain ⟨m, hm⟩ := h4; exact DataW.trod_lt m _ _ _ hm
  clear hA0 hval0
  have walk : Calls Tryz.prog 4 #[v0, v1, v2, v3, v4] W fun e w' => e = .returned (.bool true) ∧ Below W.heap.size W w' := by
    obtain ⟨ev, hev, hcell⟩ := err_of hL
    refine Go.Ab.ai.RH (ts := [(3, CI), (2, [ev])]) ⟨Tryz.f4, Tryz.func4, by kernel_rfl, by kernel_rfl⟩ (xp ev hev x0 x1 x2 x3 x4 e0 e1 e2 e3 e4) (by simp) (fun p hp => by simp only [List.mem_cons, List.not_mem_nil, or_false] at hp; rcases hp with rfl | rfl; exact tab_of hL; exact hcell) rfl (fun i hi => ?_)
    rcases i with _ | _ | _ | _ | _ | i
    · exact m0
    · exact m1
    · exact m2
    · exact m3
    · exact m4
    · simp at hi <;> omega
  refine walk.mono fun e W' ⟨he, bel⟩ => ?_
  subst he
  exact ⟨_, rfl, _, _, _, [], _, [], hW', trodAll_mk1 (shut_bool Tryz.underlying4 _), (trodAll_cons_mk (Below.trod laidOut (by kernel_rfl) (of_decide_eq_true (by kernel_rfl)) h0 bel lt0) (trodAll_cons_mk (Below.trod laidOut (by kernel_rfl) (of_decide_eq_true (by kernel_rfl)) h1 bel lt1) (trodAll_cons_mk (Below.trod laidOut (by kernel_rfl) (of_decide_eq_true (by kernel_rfl)) h2 bel lt2) (trodAll_cons_mk (Below.trod laidOut (by kernel_rfl) (of_decide_eq_true (by kernel_rfl)) h3 bel lt3) (trodAll_cons_mk (Below.trod laidOut (by kernel_rfl) (of_decide_eq_true (by kernel_rfl)) h4 bel lt4) trodAll_mk0))))), rfl, bel.frame _, fun h => by cases h⟩
theorem jf1 : (Rows.engineKeepsRow.wf (OpenSpec.ofChange Rows.engineKeepsSpec)) = true := by kernel_rfl
theorem jf2 : (laidOutB Tryz.prog) = true := by kernel_rfl
theorem jf3 : (mapsRowed Tryz.prog) = true := by kernel_rfl
theorem jf4 : (Tryz.f4.params.all (Tryz.prog.readableRec ·)) = true := by kernel_rfl
theorem jf5 : (namedTie Tryz.prog Rows.engineKeepsRow.named Rows.engineKeepsSpec.vars) = true := by kernel_rfl
theorem jf6 : (Rows.engineKeepsRow.stops == []) = true := by kernel_rfl
theorem jf7 : (Tryz.prog.stops == []) = true := by kernel_rfl
theorem jf8 : (Rows.engineKeepsRow.knobs == []) = true := by kernel_rfl
theorem jf9 : (Tryz.prog.stopKnobs == []) = true := by kernel_rfl
theorem jf10 : (Rows.engineKeepsRow.inPlace == Tryz.prog.inPlace 4) = true := by kernel_rfl
theorem jf11 : (Rows.engineKeepsRow.unfollowed == Tryz.prog.unfollowed 4) = true := by kernel_rfl
theorem jf12 : (Rows.engineKeepsRow.recurses == Tryz.prog.recurses 4) = true := by kernel_rfl
theorem jf13 : (Rows.engineKeepsRow.named == Tryz.prog.varsNamed 4) = true := by kernel_rfl
theorem jf14 : (Rows.engineKeepsRow.maps == (Tryz.f4.params.toList ++ Rows.engineKeepsSpec.plain.varTypes Tryz.prog).any (Tryz.prog.mapsRec ·)) = true := by kernel_rfl
theorem jf15 : (Rows.engineKeepsRow.ifaces == (Tryz.f4.params.toList ++ Rows.engineKeepsSpec.plain.varTypes Tryz.prog).any (Tryz.prog.ifacesRec ·)) = true := by kernel_rfl
theorem jf16 : (Rows.engineKeepsRow.mapsOut == Tryz.prog.mapsAmong Tryz.f4.resultTypes.toList) = true := by kernel_rfl
theorem jf17 : (Rows.engineKeepsRow.loops == (Tryz.f4.params.toList ++ Rows.engineKeepsSpec.plain.varTypes Tryz.prog).any (Tryz.prog.loopsFrom ·)) = true := by kernel_rfl
theorem jf18 : (Rows.engineKeepsRow.wideKeys == (Tryz.f4.params.toList ++ Rows.engineKeepsSpec.plain.varTypes Tryz.prog ++ Tryz.f4.resultTypes.toList).any (Tryz.prog.wideKeysFrom ·)) = true := by kernel_rfl
theorem jf19 : (Rows.engineKeepsSpec.vars.all (Tryz.prog.varReadable ·)) = true := by kernel_rfl
theorem jf20 : (Tryz.f4.resultTypes.all (fun t => Tryz.prog.readableRec t && decide (t < Tryz.prog.types.size))) = true := by kernel_rfl
theorem jf21 : (Rows.engineKeepsRow.ifacesOut == Tryz.f4.resultTypes.toList.any (Tryz.prog.ifacesRec ·)) = true := by kernel_rfl
theorem jf22 : (Rows.engineKeepsRow.loopsOut == Tryz.f4.resultTypes.toList.any (Tryz.prog.loopsFrom ·)) = true := by kernel_rfl
theorem jf23 : (Rows.engineKeepsRow.plainKeys == Tryz.prog.plainKeys) = true := by kernel_rfl
theorem jf24 : (Rows.engineKeepsRow.shortTexts.isNone) = true := by kernel_rfl
theorem jf25 : (Tryz.prog.stopsHeard) = true := by kernel_rfl
theorem jf26 : (Tryz.prog.mayEnter) = true := by kernel_rfl
theorem jf27 : (Rows.engineKeepsRow.lifted == Tryz.prog.liftsFinal) = true := by kernel_rfl
theorem jf28 : (Tryz.prog.make == some Rows.engineKeepsRow.make) = true := by kernel_rfl
theorem jf29 : (Rows.engineKeepsRow.kinds == (if Rows.engineKeepsRow.domain.isEmpty then [] else Tryz.f4.params.toList.map fun t => match Tryz.prog.underlying t with | some (.int k) => some k | _ => none)) = true := by kernel_rfl
theorem jf30 : (Rows.engineKeepsRow.pinned == Rows.engineKeepsRow.pinnedBy) = true := by kernel_rfl
theorem jf31 : (Rows.engineKeepsRow.veiled == (Tryz.f4.params.toList ++ Rows.engineKeepsSpec.plain.varTypes Tryz.prog ++ Tryz.f4.resultTypes.toList).any (Tryz.prog.veiledRec ·)) = true := by kernel_rfl
theorem jf32 : (Rows.engineKeepsRow.veiledFits Tryz.prog Tryz.f4.params.toList (Tryz.f4.params.toList ++ Rows.engineKeepsSpec.plain.varTypes Tryz.prog ++ Tryz.f4.resultTypes.toList)) = true := by kernel_rfl
set_option maxRecDepth 100000 in
theorem joined : joinedFacts Tryz.prog 4 Tryz.f4 Rows.engineKeepsSpec Rows.engineKeepsRow = true := by
  simp only [joinedFacts, Bool.and_eq_true]
  exact ⟨⟨⟨⟨⟨⟨⟨⟨⟨⟨⟨⟨⟨⟨⟨⟨⟨⟨⟨⟨⟨⟨⟨⟨⟨⟨⟨⟨⟨⟨⟨jf1, jf2⟩, jf3⟩, jf4⟩, jf5⟩, jf6⟩, jf7⟩, jf8⟩, jf9⟩, jf10⟩, jf11⟩, jf12⟩, jf13⟩, jf14⟩, jf15⟩, jf16⟩, jf17⟩, jf18⟩, jf19⟩, jf20⟩, jf21⟩, jf22⟩, jf23⟩, jf24⟩, jf25⟩, jf26⟩, jf27⟩, jf28⟩, jf29⟩, jf30⟩, jf31⟩, jf32⟩

theorem over : Rows.engineKeepsRow.holds Tryz.pinned (OpenSpec.ofChange Rows.engineKeepsSpec) :=
  OpenClaim.holds_of_wide 4 Tryz.f4 rfl rfl rfl rfl rfl rfl rfl ⟨rfl, rfl, rfl, rfl, rfl⟩ rfl rfl rfl rfl rfl (by kernel_rfl) Tryz.func4 joined
    (of_decide_eq_true (by kernel_rfl)) (by unfold Func.isWrapper; first | (rw [if_pos (by decide +kernel)]; kernel_rfl) | (rw [if_neg (by decide +kernel)]; exact ⟨rfl, rfl⟩))
    (fun os started H enc _ => lifted os started H enc)

theorem pMain : Tryz.prog.mainIs = some (true, "d9843cf4e557d10872a774864f955d78067549da36daba88e7e93f5ca79c7647".toList) := by kernel_rfl
theorem pLooks : true = Tryz.prog.looks [] := by kernel_rfl
theorem pGoes : false = Rows.engineKeepsRow.goesBy Tryz.prog := by kernel_rfl
theorem pWf : Rows.engineKeepsRow.wfByText (OpenSpec.ofChange Rows.engineKeepsSpec) = true := by kernel_rfl
theorem pName : Tryz.prog.funcNamed "bailiff/bailifflaw24.EngineKeeps" = some 4 := by kernel_rfl
theorem pStand : ∀ t ∈ ([67, 46, 3, 3, 3] : List TypeId), Tryz.prog.wantsStandIn t = false := by decide +kernel
theorem proved : Rows.EngineKeepsCardSaid :=
  Claim7.holds_tied_plain_at .later [] [.data, .data, .data, .sentinel, .sentinel] true (true, "d9843cf4e557d10872a774864f955d78067549da36daba88e7e93f5ca79c7647") true
    over (fun _ h => by cases h) pWf (fun _ h => by cases h) engineKeeps_row_tie rfl ⟨rfl, rfl⟩ pMain rfl
    (fun f fn hf hfn => by
      obtain rfl : f = 4 := Option.some.inj (pName.symm.trans hf) |>.symm
      obtain rfl : fn = Tryz.f4 := (Option.some.inj (Tryz.func4.symm.trans hfn)).symm
      exact ⟨pLooks, fun j t ht => by
        rw [Tryz.params4] at ht
        have hm := Array.mem_def.1 (Array.mem_of_getElem? ht)
        exact pStand t hm⟩)
    pGoes
#print axioms proved
end Go.Proofs.YtokahfmoollblaaGreatDoor.engineKeeps
