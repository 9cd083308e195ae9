/- SyntaxRoundTrip: for every input the statement's function returns true, without a panic, and each argument reads afterwards as before; the listed package variables read as the card's tie lays them. -/
import Derived.Test.YtnicnfchkdmieaaGreatDoorYby
import Derived.Test.YtnicnfchkdmieaaGreatDoorYbz
import Derived.Test.YtnicnfchkdmieaaGreatDoorCards
import Derived.Test.YtnicnfchkdmieaaGreatDoorTie
import Derived.WalkKit
import Derived.ProofKit
import Derived.OpenShut
import Derived.ShutString
import Derived.SizedLaws
import Derived.ChangeOld
import Derived.Below
import Derived.LaidMore
import Derived.Lay
import Derived.SevenTiedAt
import Derived.Stop.Joined
import Derived.Deep.DeepHandedRow
import Derived.Deep.DeepWitnessRowRef
set_option linter.unusedVariables false
set_option linter.unusedSimpArgs false
namespace Go.Proofs.YtnicnfchkdmieaaGreatDoor
open Go.ChangeShapes Go.WideShapes Go.ChangeAt Go.RowKit
open Go.ChangeMaps (open_string shut_string)
theorem syntaxRoundTrip_own : ownKnob Tryz.prog.godebug = none := by kernel_rfl
theorem syntaxRoundTrip_laidOut : laidOutB Tryz.prog = true := by kernel_rfl
set_option maxRecDepth 100000 in
theorem syntaxRoundTrip_contract (H : Type) (enc : TypeId × Value → H) (W : World) (base : Nat) (args : Array Value) (ds gs : List (DataW H)) (before : List MemPlace)
  (hval : ∀ (j : Nat) t v, Tryz.f7.params[j]? = some t → args[j]? = some v → Value.okWide Tryz.prog W .any base t v)
  (hW : DataW.Whole enc Tryz.prog Tryz.f7.params.toList Rows.syntaxRoundTripSpec.vars false W args.toList ds gs before) (hL : laidMetH Tryz.prog Rows.syntaxRoundTripRow.laid W) (hSh : W.ShapedOpen Tryz.prog)
  (hsz : (DataW.weightsEach Tryz.prog (Tryz.f7.params.toList ++ Rows.syntaxRoundTripSpec.plain.varTypes Tryz.prog) (ds ++ gs)).all (· ≤ reachBytes) = true) :
  Calls Tryz.prog 7 args W fun e W' => ∃ v, e = .returned v ∧ Rows.syntaxRoundTripSpec.post enc Tryz.prog Tryz.f7 false true false false W args v W' := by
 have hW' := hW
 obtain ⟨p, q, hA0, hV, rfl, hfz, hnd⟩ := hW
 have hA : DataW.TrodAll enc Tryz.prog W 0 (fun _ => true) true Tryz.f7.params.toList args.toList ds p := hA0
 rw [Tryz.params7] at hA hval hsz
 obtain ⟨v0, vs0, d0, ds0, p0, q0, hargs, rfl, rfl, h0, r0⟩ := trodAll_cons hA
 obtain ⟨rfl, rfl, rfl⟩ := trodAll_nil r0
 obtain rfl : args = #[v0] := by cases args; simp_all
 obtain ⟨rfl, rfl⟩ := trodVars_none hV
 have k0 := h0
 have lt0 : ∀ x ∈ p0, x.block < W.heap.size := by obtain ⟨m, hm⟩ := k0; exact DataW.trod_lt m _ _ _ hm
 have sz0 := sized_each hsz (j := 0) (t := 27) rfl rfl
 obtain ⟨a0, s0⟩ := open_intsA (hval 0 27 v0 rfl rfl) h0 sz0
 clear hA0
 obtain ⟨mx, hmx⟩ := max_cell hSh
 refine (law_roundtrip a0 v0 mx W s0 (laid_syn hL hmx) (laid_tz hL)).mono fun e W' ⟨he, bel⟩ => ?_
 subst he
 exact ⟨_, rfl, _, _, _, [], _, [], hW', trodAll_mk1 (shut_bool Tryz.underlying4 _), (trodAll_cons_mk (Below.trod syntaxRoundTrip_laidOut (by kernel_rfl) (of_decide_eq_true (by kernel_rfl)) k0 bel lt0) trodAll_mk0), rfl, bel.frame _, fun h => by cases h⟩
theorem syntaxRoundTrip_laid_met (os : Os) : laidMetH Tryz.prog Rows.syntaxRoundTripRow.laid ((World.laidAll Tryz.prog os Rows.syntaxRoundTripRow.laid).forCall (fun _ _ => 0) ⟨#[], #[.slice none 0 0], []⟩).memory := by
 rw [MakeChecks.laidMetH_plain _ _ _ (by kernel_rfl)]
 exact laidMet_laidAll _ (by kernel_rfl) (by kernel_rfl)
theorem syntaxRoundTrip_reads (os : Os) {H : Type} (enc : TypeId × Value → H) : ∃ places, DataW.whole enc Tryz.prog ((World.laidAll Tryz.prog os Rows.syntaxRoundTripRow.laid).forCall (fun _ _ => 0) ⟨#[], #[.slice none 0 0], []⟩).memory Tryz.f7.params.toList Rows.syntaxRoundTripSpec.vars false (#[.slice none 0 0] : Array Value).toList 8 = some ([.nil], [], places) :=
 ⟨[], by kernel_rfl⟩
set_option maxRecDepth 100000 in
theorem syntaxRoundTrip_lifted (os : Os) (started : os.Started) (H : Type) (enc : TypeId × Value → H) (F : Stop.Interp) :
  ReturnsInHanded {} Tryz.checked os 7 .any ((OpenSpec.ofChange Rows.syntaxRoundTripSpec).preRow enc Tryz.prog Tryz.f7 Rows.syntaxRoundTripRow.domain false Rows.syntaxRoundTripRow.laid) (((OpenSpec.ofChange Rows.syntaxRoundTripSpec).at F).post enc Tryz.prog Tryz.f7 false true false false) := by
 obtain ⟨places, hx⟩ := syntaxRoundTrip_reads os enc
 refine returnsInHanded_of_row (C := Tryz.checked) (s := OpenSpec.ofChange Rows.syntaxRoundTripSpec) syntaxRoundTrip_own started (by kernel_rfl) Tryz.func7
  (witness_row_atRef (enc := enc) (C := Tryz.checked) false (World.laidAll Tryz.prog os Rows.syntaxRoundTripRow.laid) #[.slice none 0 0] (World.laidAll_os _ _ _) (by kernel_rfl) (by kernel_rfl) (by kernel_rfl)
   (OpenSpec.preRow_of_cond 8 hx (by kernel_rfl) (fun k hk => by cases hk) (by kernel_rfl) (syntaxRoundTrip_laid_met os))) ?_
 intro W base args ds gs before hval hW _ _ hsz hL hSh _
 exact syntaxRoundTrip_contract H enc W base args ds gs before hval hW hL hSh hsz
theorem syntaxRoundTrip_said : Rows.SyntaxRoundTripSaid :=
 OpenClaim.holds_of_cond 7 Tryz.f7 rfl rfl rfl rfl rfl rfl rfl ⟨rfl, rfl, rfl, rfl, rfl⟩ rfl rfl rfl rfl rfl (by kernel_rfl) Tryz.func7 (by kernel_rfl)
  (of_decide_eq_true (by kernel_rfl)) (by unfold Func.isWrapper; first | (rw [if_pos (by decide +kernel)]; kernel_rfl) | (rw [if_neg (by decide +kernel)]; exact ⟨rfl, rfl⟩))
  (fun os started H enc _ F => by rw [OpenClaim.pre_eq_preRow]; exact syntaxRoundTrip_lifted os started H enc F)
theorem syntaxRoundTrip_plain (f : FuncId) (fn : Func) (hf : Tryz.pinned.checked.prog.funcNamed "platformfw/platformfwlaw03.SyntaxRoundTrip" = some f) (hfn : Tryz.pinned.checked.prog.funcs[f]? = some fn) :
  false = Tryz.pinned.checked.prog.looks [] ∧ ∀ (j : Nat) t, fn.params[j]? = some t → Tryz.pinned.checked.prog.wantsStandIn t = false := by
 obtain rfl : f = 7 := Option.some.inj ((show Tryz.prog.funcNamed "platformfw/platformfwlaw03.SyntaxRoundTrip" = some 7 by kernel_rfl).symm.trans hf) |>.symm
 obtain rfl : fn = Tryz.f7 := (Option.some.inj (Tryz.func7.symm.trans hfn)).symm
 refine ⟨by kernel_rfl, fun j t ht => ?_⟩
 rw [Tryz.params7] at ht
 have hm : t ∈ [27] := by simpa using Array.mem_of_getElem? ht
 have hall : ([27].all fun u => !Tryz.prog.wantsStandIn u) = true := by kernel_rfl
 exact (show Tryz.prog.wantsStandIn t = false by simpa using List.all_eq_true.1 hall t hm)
theorem syntaxRoundTrip_card : Rows.SyntaxRoundTripCardSaid :=
 Claim7.holds_tied_plain_at .later [] _ _ _ _ syntaxRoundTrip_said (fun _ h => by cases h) (by kernel_rfl) (fun _ h => by cases h) syntaxRoundTrip_row_tie rfl ⟨rfl, rfl⟩ (by kernel_rfl) rfl syntaxRoundTrip_plain (by kernel_rfl)
#print axioms syntaxRoundTrip_card
end Go.Proofs.YtnicnfchkdmieaaGreatDoor
