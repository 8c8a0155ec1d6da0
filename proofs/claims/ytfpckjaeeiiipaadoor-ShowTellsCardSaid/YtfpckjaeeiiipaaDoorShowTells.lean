/- The law ShowTells: the statement. -/
import Derived.Test.YtfpckjaeeiiipaaDoorRows
import Derived.WalkKit
import Derived.ProofKit
import Derived.OpenShut
import Derived.ShutString
import Derived.ChangeOld
import Derived.Below
import Derived.LaidMore
import Derived.Lib.LaidTab
import Derived.Stop.LaidErr
import Derived.Test.YtfpckjaeeiiipaaDoorCards
import Derived.Test.YtfpckjaeeiiipaaDoorTie
import Derived.SevenTiedAt
import Derived.Stop.Joined
import Derived.Test.YtfpckjaeeiiipaaDoorPk1
import Derived.Test.YtfpckjaeeiiipaaDoorPk2
import Derived.Test.YtfpckjaeeiiipaaDoorPk3
import Derived.Test.YtfpckjaeeiiipaaDoorPk4
namespace Go.Proofs.YtfpckjaeeiiipaaDoor.showTells
open Go.ChangeShapes Go.WideShapes Go.ChangeAt Go.RowKit
set_option linter.unusedVariables false

theorem own : ownKnob Tryd.prog.godebug = none := by kernel_rfl
theorem laidOut : laidOutB Tryd.prog = true := by kernel_rfl
theorem door_met (os : Os) (args : Array Value) : laidMetH Tryd.prog Rows.showTellsRow.laid ((World.doorLaid Tryd.prog 400 os).forCall (fun _ _ => 0) ⟨#[], args, []⟩).memory :=
  laidMetH_of_parts3 (fuel := 8) (laidMet_of_run' 8 (by kernel_rfl) (by kernel_rfl)) (by kernel_rfl) (by kernel_rfl)
theorem tab_of {W : World} (h : laidMetH Tryd.prog Rows.showTellsRow.laid W) : ∃ (t : TypeId) (fr : Nat × Nat), W.heap[1]? = some (.cells nh.toArray t fr) := by
  rw [MakeChecks.laidMetH_plain _ _ _ (by kernel_rfl)] at h
  have h2 := h.tail.tail
  have hT : Lib.TabIs Tryd.prog W "internal/strconv.uint64pow10" .u64 Lib.pow10Tab :=
    Lib.tabIs_of_head (g := 1) (by kernel_rfl) (by kernel_rfl) Tryd.underlying134 Tryd.underlying105 (by kernel_rfl) (by kernel_rfl) h2
  unfold Lib.TabIs World.var? at hT
  rw [show Tryd.prog.globalNamed "internal/strconv.uint64pow10" = some 1 by kernel_rfl] at hT
  simp only [Option.bind_some] at hT
  split at hT
  · rename_i cs t fr hc
    cases hT
    exact ⟨_, _, hc⟩
  · cases hT

theorem plain : Go.Ab.sH U [3, 4, 9, 23, 24, 25, 26, 28, 29, 31, 46, 48, 49, 50, 52, 54, 56] = true := by decide

set_option maxRecDepth 100000 in
theorem lifted (os : Os) (started : os.Started) (H : Type) (enc : TypeId × Value → H) :
    ReturnsInHanded {} Tryd.checked os 3 .any (fun w args => (Rows.showTellsSpec.pre enc Tryd.prog Tryd.f3 [] false w args ∧ laidMetH Tryd.prog Rows.showTellsRow.laid w) ∧ sizedMet enc Tryd.prog Tryd.f3 (OpenSpec.ofChange Rows.showTellsSpec) false w args) (Rows.showTellsSpec.post enc Tryd.prog Tryd.f3 false true false false) := by
  refine returnsInHanded_of_change_and (C := Tryd.checked) (X := fun w _ => laidMetH Tryd.prog Rows.showTellsRow.laid w) (fun _ _ _ hh h => h.of_heap hh) own started (by kernel_rfl) Tryd.func3
    (ChangeSpec.witness_shaped (enc := enc) (C := Tryd.checked) (os := os) (X := fun w _ => laidMetH Tryd.prog Rows.showTellsRow.laid w) false (World.doorLaid Tryd.prog 400 os) #[.agg #[.string ⟨#[]⟩, .bool false, .int .i64 0, .slice none 0 0, .slice none 0 0, .slice none 0 0, .slice none 0 0], .slice none 0 0, .agg #[.int .i64 0, .string ⟨#[]⟩, .bool false]] 20 rfl (World.shaped_of_RefB (by kernel_rfl) (by kernel_rfl)) (by kernel_rfl) (by kernel_rfl) (by kernel_rfl) (door_met os _)) ?_
  intro W base args ds gs before hval0 hW hcnd _ hL _
  have hval : ∀ (j : Nat) t v, Tryd.f3.params[j]? = some t → args[j]? = some v → Value.okWide Tryd.prog W .any base t v := hval0
  have hW' := hW
  obtain ⟨p, q, hA0, hV, rfl, hfz, hnd⟩ := hW
  have hA : DataW.TrodAll enc Tryd.prog W 0 (fun _ => true) true Tryd.f3.params.toList args.toList ds p := hA0
  rw [Tryd.params3] at hA hval
  obtain ⟨v0, vs0, d0, ds0, p0, q0, hargs, rfl, rfl, h0, r0⟩ := trodAll_cons hA
  obtain ⟨v1, vs1, d1, ds1, p1, q1, rfl, rfl, rfl, h1, r1⟩ := trodAll_cons r0
  obtain ⟨v2, vs2, d2, ds2, p2, q2, rfl, rfl, rfl, h2, r2⟩ := trodAll_cons r1
  obtain ⟨rfl, rfl, rfl⟩ := trodAll_nil r2
  obtain rfl : args = #[v0, v1, v2] := by cases args; simp_all
  obtain ⟨rfl, rfl⟩ := trodVars_none hV
  obtain ⟨x0, e0, m0⟩ := Go.Ab.iY hU _ plain (fun _ => rfl) (t := 28) (by decide) (hval 0 28 v0 rfl rfl) h0
  have lt0 : ∀ x ∈ p0, x.block < W.heap.size := by obtain ⟨m, hm⟩ := h0; exact DataW.trod_lt m _ _ _ hm
  obtain ⟨x1, e1, m1⟩ := Go.Ab.iY hU _ plain (fun _ => rfl) (t := 29) (by decide) (hval 1 29 v1 rfl rfl) h1
  have lt1 : ∀ x ∈ p1, x.block < W.heap.size := by obtain ⟨m, hm⟩ := h1; exact DataW.trod_lt m _ _ _ hm
  obtain ⟨x2, e2, m2⟩ := Go.Ab.iY hU _ plain (fun _ => rfl) (t := 31) (by decide) (hval 2 31 v2 rfl rfl) h2
  have lt2 : ∀ x ∈ p2, x.block < W.heap.size := by obtain ⟨m, hm⟩ := h2; exact DataW.trod_lt m _ _ _ hm
  clear hA0 hval0
  have walk : Calls Tryd.prog 3 #[v0, v1, v2] W fun e w' => e = .returned (.bool true) ∧ Below W.heap.size W w' := by
    refine Go.Ab.aj.zu (ts := [(1, nh)]) ⟨Tryd.f3, Tryd.func3, by kernel_rfl, by kernel_rfl⟩ (nS x0 x1 x2 e0 e1 e2) (by simp) (fun p hp => by simp only [List.mem_singleton] at hp; subst hp; exact tab_of hL) rfl (fun i hi => ?_)
    rcases i with _ | _ | _ | i
    · exact m0
    · exact m1
    · exact m2
    · simp at hi <;> omega
  refine walk.mono fun e W' ⟨he, bel⟩ => ?_
  subst he
  exact ⟨_, rfl, _, _, _, [], _, [], hW', trodAll_mk1 (shut_bool Tryd.underlying4 _), (trodAll_cons_mk (Below.trod laidOut (by kernel_rfl) (of_decide_eq_true (by kernel_rfl)) h0 bel lt0) (trodAll_cons_mk (Below.trod laidOut (by kernel_rfl) (of_decide_eq_true (by kernel_rfl)) h1 bel lt1) (trodAll_cons_mk (Below.trod laidOut (by kernel_rfl) (of_decide_eq_true (by kernel_rfl)) h2 bel lt2) trodAll_mk0))), rfl, bel.frame _, fun h => by cases h⟩
theorem jf1 : (Rows.showTellsRow.wf (OpenSpec.ofChange Rows.showTellsSpec)) = true := by kernel_rfl
theorem jf2 : (laidOutB Tryd.prog) = true := by kernel_rfl
theorem jf3 : (mapsRowed Tryd.prog) = true := by kernel_rfl
theorem jf4 : (Tryd.f3.params.all (Tryd.prog.readableRec ·)) = true := by kernel_rfl
theorem jf5 : (namedTie Tryd.prog Rows.showTellsRow.named Rows.showTellsSpec.vars) = true := by kernel_rfl
theorem jf6 : (Rows.showTellsRow.stops == []) = true := by kernel_rfl
theorem jf7 : (Tryd.prog.stops == []) = true := by kernel_rfl
theorem jf8 : (Rows.showTellsRow.knobs == []) = true := by kernel_rfl
theorem jf9 : (Tryd.prog.stopKnobs == []) = true := by kernel_rfl
theorem jf10 : (Rows.showTellsRow.inPlace == Tryd.prog.inPlace 3) = true := by kernel_rfl
theorem jf11 : (Rows.showTellsRow.unfollowed == Tryd.prog.unfollowed 3) = true := by kernel_rfl
theorem jf12 : (Rows.showTellsRow.recurses == Tryd.prog.recurses 3) = true := by kernel_rfl
theorem jf13 : (Rows.showTellsRow.named == Tryd.prog.varsNamed 3) = true := by kernel_rfl
theorem jf14 : (Rows.showTellsRow.maps == (Tryd.f3.params.toList ++ Rows.showTellsSpec.plain.varTypes Tryd.prog).any (Tryd.prog.mapsRec ·)) = true := by kernel_rfl
theorem jf15 : (Rows.showTellsRow.ifaces == (Tryd.f3.params.toList ++ Rows.showTellsSpec.plain.varTypes Tryd.prog).any (Tryd.prog.ifacesRec ·)) = true := by kernel_rfl
theorem jf16 : (Rows.showTellsRow.mapsOut == Tryd.prog.mapsAmong Tryd.f3.resultTypes.toList) = true := by kernel_rfl
theorem jf17 : (Rows.showTellsRow.loops == (Tryd.f3.params.toList ++ Rows.showTellsSpec.plain.varTypes Tryd.prog).any (Tryd.prog.loopsFrom ·)) = true := by kernel_rfl
theorem jf18 : (Rows.showTellsRow.wideKeys == (Tryd.f3.params.toList ++ Rows.showTellsSpec.plain.varTypes Tryd.prog ++ Tryd.f3.resultTypes.toList).any (Tryd.prog.wideKeysFrom ·)) = true := by kernel_rfl
theorem jf19 : (Rows.showTellsSpec.vars.all (Tryd.prog.varReadable ·)) = true := by kernel_rfl
theorem jf20 : (Tryd.f3.resultTypes.all (fun t => Tryd.prog.readableRec t && decide (t < Tryd.prog.types.size))) = true := by kernel_rfl
theorem jf21 : (Rows.showTellsRow.ifacesOut == Tryd.f3.resultTypes.toList.any (Tryd.prog.ifacesRec ·)) = true := by kernel_rfl
theorem jf22 : (Rows.showTellsRow.loopsOut == Tryd.f3.resultTypes.toList.any (Tryd.prog.loopsFrom ·)) = true := by kernel_rfl
theorem jf23 : (Rows.showTellsRow.plainKeys == Tryd.prog.plainKeys) = true := by kernel_rfl
theorem jf24 : (Rows.showTellsRow.shortTexts.isNone) = true := by kernel_rfl
theorem jf25 : (Tryd.prog.stopsHeard) = true := by kernel_rfl
theorem jf26 : (Tryd.prog.mayEnter) = true := by kernel_rfl
theorem jf27 : (Rows.showTellsRow.lifted == Tryd.prog.liftsFinal) = true := by kernel_rfl
theorem jf28 : (Tryd.prog.make == some Rows.showTellsRow.make) = true := by kernel_rfl
theorem jf29 : (Rows.showTellsRow.kinds == (if Rows.showTellsRow.domain.isEmpty then [] else Tryd.f3.params.toList.map fun t => match Tryd.prog.underlying t with | some (.int k) => some k | _ => none)) = true := by kernel_rfl
theorem jf30 : (Rows.showTellsRow.pinned == Rows.showTellsRow.pinnedBy) = true := by kernel_rfl
theorem jf31 : (Rows.showTellsRow.veiled == (Tryd.f3.params.toList ++ Rows.showTellsSpec.plain.varTypes Tryd.prog ++ Tryd.f3.resultTypes.toList).any (Tryd.prog.veiledRec ·)) = true := by kernel_rfl
theorem jf32 : (Rows.showTellsRow.veiledFits Tryd.prog Tryd.f3.params.toList (Tryd.f3.params.toList ++ Rows.showTellsSpec.plain.varTypes Tryd.prog ++ Tryd.f3.resultTypes.toList)) = true := by kernel_rfl
set_option maxRecDepth 100000 in
theorem joined : joinedFacts Tryd.prog 3 Tryd.f3 Rows.showTellsSpec Rows.showTellsRow = true := by
  simp only [joinedFacts, Bool.and_eq_true]
  exact ⟨⟨⟨⟨⟨⟨⟨⟨⟨⟨⟨⟨⟨⟨⟨⟨⟨⟨⟨⟨⟨⟨⟨⟨⟨⟨⟨⟨⟨⟨⟨jf1, jf2⟩, jf3⟩, jf4⟩, jf5⟩, jf6⟩, jf7⟩, jf8⟩, jf9⟩, jf10⟩, jf11⟩, jf12⟩, jf13⟩, jf14⟩, jf15⟩, jf16⟩, jf17⟩, jf18⟩, jf19⟩, jf20⟩, jf21⟩, jf22⟩, jf23⟩, jf24⟩, jf25⟩, jf26⟩, jf27⟩, jf28⟩, jf29⟩, jf30⟩, jf31⟩, jf32⟩

theorem over : Rows.showTellsRow.holds Tryd.pinned (OpenSpec.ofChange Rows.showTellsSpec) :=
  OpenClaim.holds_of_wide 3 Tryd.f3 rfl rfl rfl rfl rfl rfl rfl ⟨rfl, rfl, rfl, rfl, rfl⟩ rfl rfl rfl rfl rfl (by kernel_rfl) Tryd.func3 joined
    (of_decide_eq_true (by kernel_rfl)) (by unfold Func.isWrapper; first | (rw [if_pos (by decide +kernel)]; kernel_rfl) | (rw [if_neg (by decide +kernel)]; exact ⟨rfl, rfl⟩))
    (fun os started H enc _ => lifted os started H enc)

theorem pMain : Tryd.prog.mainIs = some (true, "b8ee488602fd40b2cd0e01eb8a9dbc56693b30faf03fe9de8c887627f6d981c7".toList) := by kernel_rfl
theorem pLooks : false = Tryd.prog.looks [] := by kernel_rfl
theorem pGoes : false = Rows.showTellsRow.goesBy Tryd.prog := by kernel_rfl
theorem pWf : Rows.showTellsRow.wfByText (OpenSpec.ofChange Rows.showTellsSpec) = true := by kernel_rfl
theorem pName : Tryd.prog.funcNamed "bailiff/bailifflaw10.ShowTells" = some 3 := by kernel_rfl
theorem pStand : ∀ t ∈ ([28, 29, 31] : List TypeId), Tryd.prog.wantsStandIn t = false := by decide +kernel
theorem proved : Rows.ShowTellsCardSaid :=
  Claim7.holds_tied_plain_at .later [] [.data, .data, .data] true (true, "b8ee488602fd40b2cd0e01eb8a9dbc56693b30faf03fe9de8c887627f6d981c7") false
    over (fun _ h => by cases h) pWf (fun _ h => by cases h) showTells_row_tie rfl ⟨rfl, rfl⟩ pMain rfl
    (fun f fn hf hfn => by
      obtain rfl : f = 3 := Option.some.inj (pName.symm.trans hf) |>.symm
      obtain rfl : fn = Tryd.f3 := (Option.some.inj (Tryd.func3.symm.trans hfn)).symm
      exact ⟨pLooks, fun j t ht => by
        rw [Tryd.params3] at ht
        have hm := Array.mem_def.1 (Array.mem_of_getElem? ht)
        exact pStand t hm⟩)
    pGoes
#print axioms proved
end Go.Proofs.YtfpckjaeeiiipaaDoor.showTells
