/- The law EngineBytes: the statement. -/
import Derived.Test.YteaaeelhjnhaaaaGreatDoorRows
import Derived.WalkKit
import Derived.ProofKit
import Derived.OpenShut
import Derived.ShutString
import Derived.ChangeOld
import Derived.Below
import Derived.LaidMore
import Derived.Lib.LaidTab
import Derived.Stop.LaidErr
import Derived.Test.YteaaeelhjnhaaaaGreatDoorCards
import Derived.Test.YteaaeelhjnhaaaaGreatDoorTie
import Derived.SevenTiedAt
import Derived.Stop.Joined
import Derived.Test.YteaaeelhjnhaaaaGreatDoorPk1
import Derived.Test.YteaaeelhjnhaaaaGreatDoorPk2
import Derived.Test.YteaaeelhjnhaaaaGreatDoorPk3
import Derived.Test.YteaaeelhjnhaaaaGreatDoorPk4
import Derived.Test.YteaaeelhjnhaaaaGreatDoorPk5
import Derived.Test.YteaaeelhjnhaaaaGreatDoorPk6
import Derived.Test.YteaaeelhjnhaaaaGreatDoorPk7
namespace Go.Proofs.YteaaeelhjnhaaaaGreatDoor.engineBytes
open Go.ChangeShapes Go.WideShapes Go.ChangeAt Go.RowKit
set_option linter.unusedVariables false

theorem own : ownKnob Tryz.prog.godebug = none := by kernel_rfl
theorem laidOut : laidOutB Tryz.prog = true := by kernel_rfl
theorem door_met (os : Os) (args : Array Value) : laidMetH Tryz.prog Rows.engineBytesRow.laid ((World.doorLaid Tryz.prog 400 os).forCall (fun _ _ => 0) ⟨#[], args, []⟩).memory :=
  laidMetH_of_parts3 (fuel := 8) (laidMet_of_run' 8 (by kernel_rfl) (by kernel_rfl)) (by kernel_rfl) (by kernel_rfl)
theorem tab_of {W : World} (h : laidMetH Tryz.prog Rows.engineBytesRow.laid W) : ∃ (t : TypeId) (fr : Nat × Nat), W.heap[3]? = some (.cells B4.toArray t fr) := by
  rw [MakeChecks.laidMetH_plain _ _ _ (by kernel_rfl)] at h
  have h2 := h.tail.tail
  have hT : Lib.TabIs Tryz.prog W "internal/strconv.uint64pow10" .u64 Lib.pow10Tab :=
    Lib.tabIs_of_head (g := 3) (by kernel_rfl) (by kernel_rfl) Tryz.underlying369 Tryz.underlying27 (by kernel_rfl) (by kernel_rfl) h2
  unfold Lib.TabIs World.var? at hT
  rw [show Tryz.prog.globalNamed "internal/strconv.uint64pow10" = some 3 by kernel_rfl] at hT
  simp only [Option.bind_some] at hT
  split at hT
  · rename_i cs t fr hc
    cases hT
    exact ⟨_, _, hc⟩
  · cases hT

theorem err_of {W : World} (h : laidMetH Tryz.prog Rows.engineBytesRow.laid W) : ∃ ev : Value, (ev = .nilIface ∨ ∃ te pe, ev = .iface te pe) ∧ ∃ (t : TypeId) (fr : Nat × Nat), W.heap[2]? = some (.cells [ev].toArray t fr) := by
  rw [MakeChecks.laidMetH_plain _ _ _ (by kernel_rfl)] at h
  obtain ⟨ps, ⟨g0, t0, cs0, f0, p0, q0, hg0, ht0, hv0, hd0, _, e0⟩, _, _⟩ := h.tail.tail.tail
  obtain rfl := Option.some.inj ((show Tryz.prog.globalNamed "strconv.ErrRange" = some 2 by kernel_rfl).symm.trans hg0)
  obtain rfl := Option.some.inj ((show (Tryz.prog.globals[2]?).map (·.type) = some 266 by kernel_rfl).symm.trans ht0)
  obtain ⟨f1, u, v, e1, _, _⟩ := iface_of_trod Tryz.underlying266 hd0
  refine ⟨_, .inr ⟨u, v, rfl⟩, ?_⟩
  unfold World.var? at hv0
  rw [hg0] at hv0
  simp only [Option.bind_some] at hv0
  split at hv0
  · rename_i cs t fr hc
    have e2 : cs = #[.iface u v] := (Option.some.inj hv0).trans (Array.ext' e1)
    rw [e2] at hc
    exact ⟨_, _, hc⟩
  · cases hv0

theorem plain : Go.Ab.FL U [3, 4, 5, 9, 23, 25, 26, 27] = true := by decide

set_option maxRecDepth 100000 in
theorem lifted (os : Os) (started : os.Started) (H : Type) (enc : TypeId × Value → H) :
    ReturnsInHanded {} Tryz.checked os 3 .any (fun w args => (Rows.engineBytesSpec.pre enc Tryz.prog Tryz.f3 [] false w args ∧ laidMetH Tryz.prog Rows.engineBytesRow.laid w) ∧ sizedMet enc Tryz.prog Tryz.f3 (OpenSpec.ofChange Rows.engineBytesSpec) false w args) (Rows.engineBytesSpec.post enc Tryz.prog Tryz.f3 false true false false) := by
  refine returnsInHanded_of_change_and (C := Tryz.checked) (X := fun w _ => laidMetH Tryz.prog Rows.engineBytesRow.laid w) (fun _ _ _ hh h => h.of_heap hh) own started (by kernel_rfl) Tryz.func3
    (ChangeSpec.witness_shaped (enc := enc) (C := Tryz.checked) (os := os) (X := fun w _ => laidMetH Tryz.prog Rows.engineBytesRow.laid w) false (World.doorLaid Tryz.prog 400 os) #[.agg #[.int .i64 0, .string ⟨#[]⟩, .string ⟨#[]⟩, .string ⟨#[]⟩, .string ⟨#[]⟩, .int .i64 0, .int .i64 0, .string ⟨#[]⟩, .int .i64 0, .string ⟨#[]⟩, .string ⟨#[]⟩, .bool false], .slice none 0 0, .int .u64 0] 20 rfl (World.shaped_of_RefB (by kernel_rfl) (by kernel_rfl)) (by kernel_rfl) (by kernel_rfl) (by kernel_rfl) (door_met os _)) ?_
  intro W base args ds gs before hval0 hW hcnd _ hL _
  have hval : ∀ (j : Nat) t v, Tryz.f3.params[j]? = some t → args[j]? = some v → Value.okWide Tryz.prog W .any base t v := hval0
  have hW' := hW
  obtain ⟨p, q, hA0, hV, rfl, hfz, hnd⟩ := hW
  have hA : DataW.TrodAll enc Tryz.prog W 0 (fun _ => true) true Tryz.f3.params.toList args.toList ds p := hA0
  rw [Tryz.params3] at hA hval
  obtain ⟨v0, vs0, d0, ds0, p0, q0, hargs, rfl, rfl, h0, r0⟩ := trodAll_cons hA
  obtain ⟨v1, vs1, d1, ds1, p1, q1, rfl, rfl, rfl, h1, r1⟩ := trodAll_cons r0
  obtain ⟨v2, vs2, d2, ds2, p2, q2, rfl, rfl, rfl, h2, r2⟩ := trodAll_cons r1
  obtain ⟨rfl, rfl, rfl⟩ := trodAll_nil r2
  obtain rfl : args = #[v0, v1, v2] := by cases args; simp_all
  obtain ⟨rfl, rfl⟩ := trodVars_none hV
  obtain ⟨x0, e0, m0⟩ := Go.Ab.rZ hU _ plain (fun _ => rfl) (t := 25) (by decide) (hval 0 25 v0 rfl rfl) h0
  have lt0 : ∀ x ∈ p0, x.block < W.heap.size := by obtain ⟨m, hm⟩ := h0; exact DataW.trod_lt m _ _ _ hm
  obtain ⟨x1, e1, m1⟩ := Go.Ab.rZ hU _ plain (fun _ => rfl) (t := 26) (by decide) (hval 1 26 v1 rfl rfl) h1
  have lt1 : ∀ x ∈ p1, x.block < W.heap.size := by obtain ⟨m, hm⟩ := h1; exact DataW.trod_lt m _ _ _ hm
  obtain ⟨x2, e2, m2⟩ := Go.Ab.rZ hU _ plain (fun _ => rfl) (t := 27) (by decide) (hval 2 27 v2 rfl rfl) h2
  have lt2 : ∀ x ∈ p2, x.block < W.heap.size := by obtain ⟨m, hm⟩ := h2; exact DataW.trod_lt m _ _ _ hm
  clear hA0 hval0
  have walk : Calls Tryz.prog 3 #[v0, v1, v2] W fun e w' => e = .returned (.bool true) ∧ Below W.heap.size W w' := by
    obtain ⟨ev, hev, hcell⟩ := err_of hL
    refine Go.Ab.ai.Qt (ts := [(3, B4), (2, [ev])]) ⟨Tryz.f3, Tryz.func3, by kernel_rfl, by kernel_rfl⟩ (wu ev hev x0 x1 x2 e0 e1 e2) (by simp) (fun p hp => by simp only [List.mem_cons, List.not_mem_nil, or_false] at hp; rcases hp with rfl | rfl; exact tab_of hL; exact hcell) rfl (fun i hi => ?_)
    rcases i with _ | _ | _ | i
    · exact m0
    · exact m1
    · exact m2
    · simp at hi <;> omega
  refine walk.mono fun e W' ⟨he, bel⟩ => ?_
  subst he
  exact ⟨_, rfl, _, _, _, [], _, [], hW', trodAll_mk1 (shut_bool Tryz.underlying4 _), (trodAll_cons_mk (Below.trod laidOut (by kernel_rfl) (of_decide_eq_true (by kernel_rfl)) h0 bel lt0) (trodAll_cons_mk (Below.trod laidOut (by kernel_rfl) (of_decide_eq_true (by kernel_rfl)) h1 bel lt1) (trodAll_cons_mk (Below.trod laidOut (by kernel_rfl) (of_decide_eq_true (by kernel_rfl)) h2 bel lt2) trodAll_mk0))), rfl, bel.frame _, fun h => by cases h⟩
theorem jf1 : (Rows.engineBytesRow.wf (OpenSpec.ofChange Rows.engineBytesSpec)) = true := by kernel_rfl
theorem jf2 : (laidOutB Tryz.prog) = true := by kernel_rfl
theorem jf3 : (mapsRowed Tryz.prog) = true := by kernel_rfl
theorem jf4 : (Tryz.f3.params.all (Tryz.prog.readableRec ·)) = true := by kernel_rfl
theorem jf5 : (namedTie Tryz.prog Rows.engineBytesRow.named Rows.engineBytesSpec.vars) = true := by kernel_rfl
theorem jf6 : (Rows.engineBytesRow.stops == []) = true := by kernel_rfl
theorem jf7 : (Tryz.prog.stops == []) = true := by kernel_rfl
theorem jf8 : (Rows.engineBytesRow.knobs == []) = true := by kernel_rfl
theorem jf9 : (Tryz.prog.stopKnobs == []) = true := by kernel_rfl
theorem jf10 : (Rows.engineBytesRow.inPlace == Tryz.prog.inPlace 3) = true := by kernel_rfl
theorem jf11 : (Rows.engineBytesRow.unfollowed == Tryz.prog.unfollowed 3) = true := by kernel_rfl
theorem jf12 : (Rows.engineBytesRow.recurses == Tryz.prog.recurses 3) = true := by kernel_rfl
theorem jf13 : (Rows.engineBytesRow.named == Tryz.prog.varsNamed 3) = true := by kernel_rfl
theorem jf14 : (Rows.engineBytesRow.maps == (Tryz.f3.params.toList ++ Rows.engineBytesSpec.plain.varTypes Tryz.prog).any (Tryz.prog.mapsRec ·)) = true := by kernel_rfl
theorem jf15 : (Rows.engineBytesRow.ifaces == (Tryz.f3.params.toList ++ Rows.engineBytesSpec.plain.varTypes Tryz.prog).any (Tryz.prog.ifacesRec ·)) = true := by kernel_rfl
theorem jf16 : (Rows.engineBytesRow.mapsOut == Tryz.prog.mapsAmong Tryz.f3.resultTypes.toList) = true := by kernel_rfl
theorem jf17 : (Rows.engineBytesRow.loops == (Tryz.f3.params.toList ++ Rows.engineBytesSpec.plain.varTypes Tryz.prog).any (Tryz.prog.loopsFrom ·)) = true := by kernel_rfl
theorem jf18 : (Rows.engineBytesRow.wideKeys == (Tryz.f3.params.toList ++ Rows.engineBytesSpec.plain.varTypes Tryz.prog ++ Tryz.f3.resultTypes.toList).any (Tryz.prog.wideKeysFrom ·)) = true := by kernel_rfl
theorem jf19 : (Rows.engineBytesSpec.vars.all (Tryz.prog.varReadable ·)) = true := by kernel_rfl
theorem jf20 : (Tryz.f3.resultTypes.all (fun t => Tryz.prog.readableRec t && decide (t < Tryz.prog.types.size))) = true := by kernel_rfl
theorem jf21 : (Rows.engineBytesRow.ifacesOut == Tryz.f3.resultTypes.toList.any (Tryz.prog.ifacesRec ·)) = true := by kernel_rfl
theorem jf22 : (Rows.engineBytesRow.loopsOut == Tryz.f3.resultTypes.toList.any (Tryz.prog.loopsFrom ·)) = true := by kernel_rfl
theorem jf23 : (Rows.engineBytesRow.plainKeys == Tryz.prog.plainKeys) = true := by kernel_rfl
theorem jf24 : (Rows.engineBytesRow.shortTexts.isNone) = true := by kernel_rfl
theorem jf25 : (Tryz.prog.stopsHeard) = true := by kernel_rfl
theorem jf26 : (Tryz.prog.mayEnter) = true := by kernel_rfl
theorem jf27 : (Rows.engineBytesRow.lifted == Tryz.prog.liftsFinal) = true := by kernel_rfl
theorem jf28 : (Tryz.prog.make == some Rows.engineBytesRow.make) = true := by kernel_rfl
theorem jf29 : (Rows.engineBytesRow.kinds == (if Rows.engineBytesRow.domain.isEmpty then [] else Tryz.f3.params.toList.map fun t => match Tryz.prog.underlying t with | some (.int k) => some k | _ => none)) = true := by kernel_rfl
theorem jf30 : (Rows.engineBytesRow.pinned == Rows.engineBytesRow.pinnedBy) = true := by kernel_rfl
theorem jf31 : (Rows.engineBytesRow.veiled == (Tryz.f3.params.toList ++ Rows.engineBytesSpec.plain.varTypes Tryz.prog ++ Tryz.f3.resultTypes.toList).any (Tryz.prog.veiledRec ·)) = true := by kernel_rfl
theorem jf32 : (Rows.engineBytesRow.veiledFits Tryz.prog Tryz.f3.params.toList (Tryz.f3.params.toList ++ Rows.engineBytesSpec.plain.varTypes Tryz.prog ++ Tryz.f3.resultTypes.toList)) = true := by kernel_rfl
set_option maxRecDepth 100000 in
theorem joined : joinedFacts Tryz.prog 3 Tryz.f3 Rows.engineBytesSpec Rows.engineBytesRow = true := by
  simp only [joinedFacts, Bool.and_eq_true]
  exact ⟨⟨⟨⟨⟨⟨⟨⟨⟨⟨⟨⟨⟨⟨⟨⟨⟨⟨⟨⟨⟨⟨⟨⟨⟨⟨⟨⟨⟨⟨⟨jf1, jf2⟩, jf3⟩, jf4⟩, jf5⟩, jf6⟩, jf7⟩, jf8⟩, jf9⟩, jf10⟩, jf11⟩, jf12⟩, jf13⟩, jf14⟩, jf15⟩, jf16⟩, jf17⟩, jf18⟩, jf19⟩, jf20⟩, jf21⟩, jf22⟩, jf23⟩, jf24⟩, jf25⟩, jf26⟩, jf27⟩, jf28⟩, jf29⟩, jf30⟩, jf31⟩, jf32⟩

theorem over : Rows.engineBytesRow.holds Tryz.pinned (OpenSpec.ofChange Rows.engineBytesSpec) :=
  OpenClaim.holds_of_wide 3 Tryz.f3 rfl rfl rfl rfl rfl rfl rfl ⟨rfl, rfl, rfl, rfl, rfl⟩ rfl rfl rfl rfl rfl (by kernel_rfl) Tryz.func3 joined
    (of_decide_eq_true (by kernel_rfl)) (by unfold Func.isWrapper; first | (rw [if_pos (by decide +kernel)]; kernel_rfl) | (rw [if_neg (by decide +kernel)]; exact ⟨rfl, rfl⟩))
    (fun os started H enc _ => lifted os started H enc)

theorem pMain : Tryz.prog.mainIs = some (true, "dbb347ad8ec0e6528f643a24316a5b3da309c66abfc8722d6265e12cf77f0924".toList) := by kernel_rfl
theorem pLooks : true = Tryz.prog.looks [] := by kernel_rfl
theorem pGoes : false = Rows.engineBytesRow.goesBy Tryz.prog := by kernel_rfl
theorem pWf : Rows.engineBytesRow.wfByText (OpenSpec.ofChange Rows.engineBytesSpec) = true := by kernel_rfl
theorem pName : Tryz.prog.funcNamed "bailiff/bailifflaw24.EngineBytes" = some 3 := by kernel_rfl
theorem pStand : ∀ t ∈ ([25, 26, 27] : List TypeId), Tryz.prog.wantsStandIn t = false := by decide +kernel
theorem proved : Rows.EngineBytesCardSaid :=
  Claim7.holds_tied_plain_at .later [] [.data, .data, .data, .sentinel, .sentinel] true (true, "dbb347ad8ec0e6528f643a24316a5b3da309c66abfc8722d6265e12cf77f0924") true
    over (fun _ h => by cases h) pWf (fun _ h => by cases h) engineBytes_row_tie rfl ⟨rfl, rfl⟩ pMain rfl
    (fun f fn hf hfn => by
      obtain rfl : f = 3 := Option.some.inj (pName.symm.trans hf) |>.symm
      obtain rfl : fn = Tryz.f3 := (Option.some.inj (Tryz.func3.symm.trans hfn)).symm
      exact ⟨pLooks, fun j t ht => by
        rw [Tryz.params3] at ht
        have hm := Array.mem_def.1 (Array.mem_of_getElem? ht)
        exact pStand t hm⟩)
    pGoes
#print axioms proved
end Go.Proofs.YteaaeelhjnhaaaaGreatDoor.engineBytes
