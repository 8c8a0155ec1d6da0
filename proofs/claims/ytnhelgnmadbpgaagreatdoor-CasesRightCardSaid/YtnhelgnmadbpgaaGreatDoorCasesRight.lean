/- The law CasesRight: the statement. -/
import Derived.Test.YtnhelgnmadbpgaaGreatDoorRows
import Derived.WalkKit
import Derived.ProofKit
import Derived.OpenShut
import Derived.ShutString
import Derived.ChangeOld
import Derived.Below
import Derived.LaidMore
import Derived.Lib.LaidTab
import Derived.Stop.LaidErr
import Derived.Test.YtnhelgnmadbpgaaGreatDoorCards
import Derived.Test.YtnhelgnmadbpgaaGreatDoorTie
import Derived.SevenTiedAt
import Derived.Stop.Joined
import Derived.Test.YtnhelgnmadbpgaaGreatDoorPk1
import Derived.Test.YtnhelgnmadbpgaaGreatDoorPk2
import Derived.Test.YtnhelgnmadbpgaaGreatDoorPk3
import Derived.Test.YtnhelgnmadbpgaaGreatDoorPk4
import Derived.Test.YtnhelgnmadbpgaaGreatDoorPk5
import Derived.Test.YtnhelgnmadbpgaaGreatDoorPk6
namespace Go.Proofs.YtnhelgnmadbpgaaGreatDoor.casesRight
open Go.ChangeShapes Go.WideShapes Go.ChangeAt Go.RowKit
set_option linter.unusedVariables false

theorem own : ownKnob Tryz.prog.godebug = none := by kernel_rfl
theorem laidOut : laidOutB Tryz.prog = true := by kernel_rfl
theorem door_met (os : Os) (args : Array Value) : laidMetH Tryz.prog Rows.casesRightRow.laid ((World.doorLaid Tryz.prog 400 os).forCall (fun _ _ => 0) ⟨#[], args, []⟩).memory :=
  laidMetH_of_parts3 (fuel := 8) (laidMet_of_run' 8 (by kernel_rfl) (by kernel_rfl)) (by kernel_rfl) (by kernel_rfl)
theorem tab_of {W : World} (h : laidMetH Tryz.prog Rows.casesRightRow.laid W) : ∃ (t : TypeId) (fr : Nat × Nat), W.heap[3]? = some (.cells pow10V.toArray t fr) := by
  rw [MakeChecks.laidMetH_plain _ _ _ (by kernel_rfl)] at h
  have h2 := h.tail.tail
  have hT : Lib.TabIs Tryz.prog W "internal/strconv.uint64pow10" .u64 Lib.pow10Tab :=
    Lib.tabIs_of_head (g := 3) (by kernel_rfl) (by kernel_rfl) Tryz.underlying292 Tryz.underlying200 (by kernel_rfl) (by kernel_rfl) h2
  unfold Lib.TabIs World.var? at hT
  rw [show Tryz.prog.globalNamed "internal/strconv.uint64pow10" = some 3 by kernel_rfl] at hT
  simp only [Option.bind_some] at hT
  split at hT
  · rename_i cs t fr hc
    cases hT
    exact ⟨_, _, hc⟩
  · cases hT

theorem err_of {W : World} (h : laidMetH Tryz.prog Rows.casesRightRow.laid W) : ∃ ev : Value, (ev = .nilIface ∨ ∃ te pe, ev = .iface te pe) ∧ ∃ (t : TypeId) (fr : Nat × Nat), W.heap[2]? = some (.cells [ev].toArray t fr) := by
  rw [MakeChecks.laidMetH_plain _ _ _ (by kernel_rfl)] at h
  obtain ⟨ps, ⟨g0, t0, cs0, f0, p0, q0, hg0, ht0, hv0, hd0, _, e0⟩, _, _⟩ := h.tail.tail.tail
  obtain rfl := Option.some.inj ((show Tryz.prog.globalNamed "strconv.ErrRange" = some 2 by kernel_rfl).symm.trans hg0)
  obtain rfl := Option.some.inj ((show (Tryz.prog.globals[2]?).map (·.type) = some 249 by kernel_rfl).symm.trans ht0)
  obtain ⟨f1, u, v, e1, _, _⟩ := iface_of_trod Tryz.underlying249 hd0
  refine ⟨_, .inr ⟨u, v, rfl⟩, ?_⟩
  unfold World.var? at hv0
  rw [hg0] at hv0
  simp only [Option.bind_some] at hv0
  split at hv0
  · rename_i cs t fr hc
    have e2 : cs = #[.iface u v] := (Option.some.inj hv0).trans (Array.ext' e1)
    rw [e2] at hc
    exact ⟨_, _, hc⟩
  · cases hv0

theorem plain : Go.Ab.plainB U [3, 4, 9, 38, 40, 49] = true := by decide

set_option maxRecDepth 100000 in
theorem lifted (os : Os) (started : os.Started) (H : Type) (enc : TypeId × Value → H) :
    ReturnsInHanded {} Tryz.checked os 12 .any (fun w args => (Rows.casesRightSpec.pre enc Tryz.prog Tryz.f12 [] false w args ∧ laidMetH Tryz.prog Rows.casesRightRow.laid w) ∧ sizedMet enc Tryz.prog Tryz.f12 (OpenSpec.ofChange Rows.casesRightSpec) false w args) (Rows.casesRightSpec.post enc Tryz.prog Tryz.f12 false true false false) := by
  refine returnsInHanded_of_change_and (C := Tryz.checked) (X := fun w _ => laidMetH Tryz.prog Rows.casesRightRow.laid w) (fun _ _ _ hh h => h.of_heap hh) own started (by kernel_rfl) Tryz.func12
    (ChangeSpec.witness_shaped (enc := enc) (C := Tryz.checked) (os := os) (X := fun w _ => laidMetH Tryz.prog Rows.casesRightRow.laid w) false (World.doorLaid Tryz.prog 400 os) #[.slice none 0 0, .agg #[.int .i64 0, .string ⟨#[]⟩, .string ⟨#[]⟩, .string ⟨#[]⟩, .string ⟨#[]⟩, .int .i64 0, .int .i64 0, .string ⟨#[]⟩, .int .i64 0, .string ⟨#[]⟩, .string ⟨#[]⟩, .bool false]] 20 rfl (World.shaped_of_RefB (by kernel_rfl) (by kernel_rfl)) (by kernel_rfl) (by kernel_rfl) (by kernel_rfl) (door_met os _)) ?_
  intro W base args ds gs before hval0 hW hcnd _ hL _
  have hval : ∀ (j : Nat) t v, Tryz.f12.params[j]? = some t → args[j]? = some v → Value.okWide Tryz.prog W .any base t v := hval0
  have hW' := hW
  obtain ⟨p, q, hA0, hV, rfl, hfz, hnd⟩ := hW
  have hA : DataW.TrodAll enc Tryz.prog W 0 (fun _ => true) true Tryz.f12.params.toList args.toList ds p := hA0
  rw [Tryz.params12] at hA hval
  obtain ⟨v0, vs0, d0, ds0, p0, q0, hargs, rfl, rfl, h0, r0⟩ := trodAll_cons hA
  obtain ⟨v1, vs1, d1, ds1, p1, q1, rfl, rfl, rfl, h1, r1⟩ := trodAll_cons r0
  obtain ⟨rfl, rfl, rfl⟩ := trodAll_nil r1
  obtain rfl : args = #[v0, v1] := by cases args; simp_all
  obtain ⟨rfl, rfl⟩ := trodVars_none hV
  obtain ⟨x0, e0, m0⟩ := Go.Ab.dat_of_arg hU _ plain (fun _ => rfl) (t := 49) (by decide) (hval 0 49 v0 rfl rfl) h0
  have lt0 : ∀ x ∈ p0, x.block < W.heap.size := by obtain ⟨m, hm⟩ := h0; exact DataW.trod_lt m _ _ _ hm
  obtain ⟨x1, e1, m1⟩ := Go.Ab.dat_of_arg hU _ plain (fun _ => rfl) (t := 40) (by decide) (hval 1 40 v1 rfl rfl) h1
  have lt1 : ∀ x ∈ p1, x.block < W.heap.size := by obtain ⟨m, hm⟩ := h1; exact DataW.trod_lt m _ _ _ hm
  clear hA0 hval0
  have walk : Calls Tryz.prog 12 #[v0, v1] W fun e w' => e = .returned (.bool true) ∧ Below W.heap.size W w' := by
    obtain ⟨ev, hev, hcell⟩ := err_of hL
    refine Go.Ab.FnOK.callsT (ts := [(3, pow10V), (2, [ev])]) ⟨Tryz.f12, Tryz.func12, by kernel_rfl, by kernel_rfl⟩ (casesRight_law ev hev x0 x1 e0 e1) (by simp) (fun p hp => by simp only [List.mem_cons, List.not_mem_nil, or_false] at hp; rcases hp with rfl | rfl; exact tab_of hL; exact hcell) rfl (fun i hi => ?_)
    rcases i with _ | _ | i
    · exact m0
    · exact m1
    · simp at hi <;> omega
  refine walk.mono fun e W' ⟨he, bel⟩ => ?_
  subst he
  exact ⟨_, rfl, _, _, _, [], _, [], hW', trodAll_mk1 (shut_bool Tryz.underlying4 _), (trodAll_cons_mk (Below.trod laidOut (by kernel_rfl) (of_decide_eq_true (by kernel_rfl)) h0 bel lt0) (trodAll_cons_mk (Below.trod laidOut (by kernel_rfl) (of_decide_eq_true (by kernel_rfl)) h1 bel lt1) trodAll_mk0)), rfl, bel.frame _, fun h => by cases h⟩

theorem over : Rows.casesRightRow.holds Tryz.pinned (OpenSpec.ofChange Rows.casesRightSpec) :=
  OpenClaim.holds_of_wide 12 Tryz.f12 rfl rfl rfl rfl rfl rfl rfl ⟨rfl, rfl, rfl, rfl, rfl⟩ rfl rfl rfl rfl rfl (by kernel_rfl) Tryz.func12 (by kernel_rfl)
    (of_decide_eq_true (by kernel_rfl)) (by unfold Func.isWrapper; first | (rw [if_pos (by decide +kernel)]; kernel_rfl) | (rw [if_neg (by decide +kernel)]; exact ⟨rfl, rfl⟩))
    (fun os started H enc _ => lifted os started H enc)

theorem proved : Rows.CasesRightCardSaid :=
  Claim7.holds_tied_plain_at .later [] [.data, .data, .data, .sentinel, .sentinel] true (true, "e40b0f7a634bf2a860532af48732191470d9a4fbbd208ee57453e9301d02172f") true
    over (fun _ h => by cases h) (by kernel_rfl) (fun _ h => by cases h) casesRight_row_tie rfl ⟨rfl, rfl⟩ (by kernel_rfl) rfl
    (fun f fn hf hfn => by
      obtain rfl : f = 12 := Option.some.inj ((show Tryz.prog.funcNamed "bailiff/bailifflaw22.CasesRight" = some 12 by kernel_rfl).symm.trans hf) |>.symm
      obtain rfl : fn = Tryz.f12 := (Option.some.inj (Tryz.func12.symm.trans hfn)).symm
      exact ⟨by kernel_rfl, fun j t ht => by
        rw [Tryz.params12] at ht
        have hm := Array.mem_def.1 (Array.mem_of_getElem? ht)
        exact (show ∀ t ∈ ([49, 40] : List TypeId), Tryz.prog.wantsStandIn t = false from by decide +kernel) t hm⟩)
    (by kernel_rfl)
#print axioms proved
end Go.Proofs.YtnhelgnmadbpgaaGreatDoor.casesRight
