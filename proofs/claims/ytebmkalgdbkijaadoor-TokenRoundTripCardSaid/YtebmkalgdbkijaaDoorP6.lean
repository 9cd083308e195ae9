/- TokenRoundTrip: for every input the statement's function returns true, without a panic, and each argument reads afterwards as before; the listed package variables read as the card's tie lays them. -/
import Derived.Test.YtebmkalgdbkijaaDoorTlr
import Derived.Test.YtebmkalgdbkijaaDoorOpu
import Derived.Test.YtebmkalgdbkijaaDoorCards
import Derived.Test.YtebmkalgdbkijaaDoorTie
import Derived.WalkKit
import Derived.ProofKit
import Derived.OpenShut
import Derived.ShutString
import Derived.SizedLaws
import Derived.ChangeOld
import Derived.Below
import Derived.LaidMore
import Derived.Lay
import Derived.SevenTiedAt
import Derived.Stop.Joined
import Derived.Deep.DeepHandedRow
import Derived.Deep.DeepWitnessRowRef
namespace Go.Proofs.YtebmkalgdbkijaaDoor
open Go.ChangeShapes Go.WideShapes Go.ChangeAt Go.RowKit
open Go.ChangeMaps (open_string shut_string)
set_option linter.unusedVariables false

theorem tokenRoundTrip_own : ownKnob Tryd.prog.godebug = none := by kernel_rfl
theorem tokenRoundTrip_laidOut : laidOutB Tryd.prog = true := by kernel_rfl

set_option maxRecDepth 100000 in
theorem tokenRoundTrip_contract (H : Type) (enc : TypeId × Value → H) (W : World) (base : Nat) (args : Array Value) (ds gs : List (DataW H)) (before : List MemPlace)
    (hval : ∀ (j : Nat) t v, Tryd.f3.params[j]? = some t → args[j]? = some v → Value.okWide Tryd.prog W .any base t v)
    (hW : DataW.Whole enc Tryd.prog Tryd.f3.params.toList Rows.tokenRoundTripSpec.vars false W args.toList ds gs before) (hL : laidMetH Tryd.prog Rows.tokenRoundTripRow.laid W) (hSh : W.ShapedOpen Tryd.prog)
    (hsz : (DataW.weightsEach Tryd.prog (Tryd.f3.params.toList ++ Rows.tokenRoundTripSpec.plain.varTypes Tryd.prog) (ds ++ gs)).all (· ≤ reachBytes) = true) :
    Calls Tryd.prog 3 args W fun e W' => ∃ v, e = .returned v ∧ Rows.tokenRoundTripSpec.post enc Tryd.prog Tryd.f3 false true false false W args v W' := by
  have hW' := hW
  obtain ⟨p, q, hA0, hV, rfl, hfz, hnd⟩ := hW
  have hA : DataW.TrodAll enc Tryd.prog W 0 (fun _ => true) true Tryd.f3.params.toList args.toList ds p := hA0
  rw [Tryd.params3] at hA hval hsz
  obtain ⟨v0, vs0, d0, ds0, p0, q0, hargs, rfl, rfl, h0, r0⟩ := trodAll_cons hA
  obtain ⟨rfl, rfl, rfl⟩ := trodAll_nil r0
  obtain rfl : args = #[v0] := by cases args; simp_all
  obtain ⟨rfl, rfl⟩ := trodVars_none hV
  have k0 := h0
  have lt0 : ∀ x ∈ p0, x.block < W.heap.size := by obtain ⟨m, hm⟩ := k0; exact DataW.trod_lt m _ _ _ hm
  have sz0 := sized_each hsz (j := 0) (t := 22) rfl rfl
  obtain ⟨a0, s0, n0, x0, y0⟩ := open_toks (hval 0 22 v0 rfl rfl) h0 sz0
  clear hA0
  obtain ⟨mx, hmx⟩ := max_cell hSh
  refine (law_round v0 a0 mx W s0 n0 (fun t ht => Nat.le_trans (x0 t ht) (by decide)) y0 hmx (laid_tz hL)).mono fun e W' ⟨he, bel⟩ => ?_
  subst he
  exact ⟨_, rfl, _, _, _, [], _, [], hW', trodAll_mk1 (shut_bool Tryd.underlying4 _), (trodAll_cons_mk (Below.trod tokenRoundTrip_laidOut (by kernel_rfl) (of_decide_eq_true (by kernel_rfl)) k0 bel lt0) trodAll_mk0), rfl, bel.frame _, fun h => by cases h⟩

theorem tokenRoundTrip_laid_met (os : Os) : laidMetH Tryd.prog Rows.tokenRoundTripRow.laid ((World.laidAll Tryd.prog os Rows.tokenRoundTripRow.laid).forCall (fun _ _ => 0) ⟨#[], #[.slice none 0 0], []⟩).memory := by
  rw [MakeChecks.laidMetH_plain _ _ _ (by kernel_rfl)]
  exact laidMet_laidAll _ (by kernel_rfl) (by kernel_rfl)
theorem tokenRoundTrip_reads (os : Os) {H : Type} (enc : TypeId × Value → H) : ∃ places, DataW.whole enc Tryd.prog ((World.laidAll Tryd.prog os Rows.tokenRoundTripRow.laid).forCall (fun _ _ => 0) ⟨#[], #[.slice none 0 0], []⟩).memory Tryd.f3.params.toList Rows.tokenRoundTripSpec.vars false (#[.slice none 0 0] : Array Value).toList 8 = some ([.nil], [], places) :=
  ⟨[], by kernel_rfl⟩

set_option maxRecDepth 100000 in
theorem tokenRoundTrip_lifted (os : Os) (started : os.Started) (H : Type) (enc : TypeId × Value → H) (F : Stop.Interp) :
    ReturnsInHanded {} Tryd.checked os 3 .any ((OpenSpec.ofChange Rows.tokenRoundTripSpec).preRow enc Tryd.prog Tryd.f3 Rows.tokenRoundTripRow.domain false Rows.tokenRoundTripRow.laid) (((OpenSpec.ofChange Rows.tokenRoundTripSpec).at F).post enc Tryd.prog Tryd.f3 false true false false) := by
  obtain ⟨places, hx⟩ := tokenRoundTrip_reads os enc
  refine returnsInHanded_of_row (C := Tryd.checked) (s := OpenSpec.ofChange Rows.tokenRoundTripSpec) tokenRoundTrip_own started (by kernel_rfl) Tryd.func3
    (witness_row_atRef (enc := enc) (C := Tryd.checked) false (World.laidAll Tryd.prog os Rows.tokenRoundTripRow.laid) #[.slice none 0 0] (World.laidAll_os _ _ _) (by kernel_rfl) (by kernel_rfl) (by kernel_rfl)
      (OpenSpec.preRow_of_cond 8 hx (by kernel_rfl) (fun k hk => by cases hk) (by kernel_rfl) (tokenRoundTrip_laid_met os))) ?_
  intro W base args ds gs before hval hW _ _ hsz hL hSh _
  exact tokenRoundTrip_contract H enc W base args ds gs before hval hW hL hSh hsz

theorem tokenRoundTrip_said : Rows.TokenRoundTripSaid :=
  OpenClaim.holds_of_cond 3 Tryd.f3 rfl rfl rfl rfl rfl rfl rfl ⟨rfl, rfl, rfl, rfl, rfl⟩ rfl rfl rfl rfl rfl (by kernel_rfl) Tryd.func3 (by kernel_rfl)
    (of_decide_eq_true (by kernel_rfl)) (by unfold Func.isWrapper; first | (rw [if_pos (by decide +kernel)]; kernel_rfl) | (rw [if_neg (by decide +kernel)]; exact ⟨rfl, rfl⟩))
    (fun os started H enc _ F => by rw [OpenClaim.pre_eq_preRow]; exact tokenRoundTrip_lifted os started H enc F)

theorem tokenRoundTrip_plain (f : FuncId) (fn : Func) (hf : Tryd.pinned.checked.prog.funcNamed "platformfw/platformfwlaw01.TokenRoundTrip" = some f) (hfn : Tryd.pinned.checked.prog.funcs[f]? = some fn) :
    false = Tryd.pinned.checked.prog.looks [] ∧ ∀ (j : Nat) t, fn.params[j]? = some t → Tryd.pinned.checked.prog.wantsStandIn t = false := by
  obtain rfl : f = 3 := Option.some.inj ((show Tryd.prog.funcNamed "platformfw/platformfwlaw01.TokenRoundTrip" = some 3 by kernel_rfl).symm.trans hf) |>.symm
  obtain rfl : fn = Tryd.f3 := (Option.some.inj (Tryd.func3.symm.trans hfn)).symm
  refine ⟨by kernel_rfl, fun j t ht => ?_⟩
  rw [Tryd.params3] at ht
  have hm : t ∈ [22] := by simpa using Array.mem_of_getElem? ht
  have hall : ([22].all fun u => !Tryd.prog.wantsStandIn u) = true := by kernel_rfl
  exact (show Tryd.prog.wantsStandIn t = false by simpa using List.all_eq_true.1 hall t hm)

theorem tokenRoundTrip_card : Rows.TokenRoundTripCardSaid :=
  Claim7.holds_tied_plain_at .later [] _ _ _ _ tokenRoundTrip_said (fun _ h => by cases h) (by kernel_rfl) (fun _ h => by cases h) tokenRoundTrip_row_tie rfl ⟨rfl, rfl⟩ (by kernel_rfl) rfl tokenRoundTrip_plain (by kernel_rfl)
#print axioms tokenRoundTrip_card
end Go.Proofs.YtebmkalgdbkijaaDoor
