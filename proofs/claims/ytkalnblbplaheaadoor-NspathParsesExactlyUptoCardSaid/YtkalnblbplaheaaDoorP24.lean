/- NspathParsesExactly: for every input the statement's function returns true, without a panic, and each argument reads afterwards as before; the listed package variables read as the card's tie lays them. CONDITION: the arguments hold together at most 1048576 values and letters (the second form). -/
import Derived.Test.YtkalnblbplaheaaDoorNtf
import Derived.Test.YtkalnblbplaheaaDoorNop
import Derived.Test.YtkalnblbplaheaaDoorCards
import Derived.Test.YtkalnblbplaheaaDoorTie
import Derived.WalkKit
import Derived.ProofKit
import Derived.OpenShut
import Derived.ShutString
import Derived.SizedLaws
import Derived.ChangeOld
import Derived.Below
import Derived.LaidMore
import Derived.Lay
import Derived.SevenTiedAt
import Derived.Stop.Joined
import Derived.Deep.DeepHandedRow
import Derived.Deep.DeepWitnessRowRef
namespace Go.Proofs.YtkalnblbplaheaaDoor
open Go.ChangeShapes Go.WideShapes Go.ChangeAt Go.RowKit
open Go.ChangeMaps (open_string shut_string)
set_option linter.unusedVariables false
set_option linter.unusedSimpArgs false

theorem nspathParsesExactly_own : ownKnob Tryd.prog.godebug = none := by kernel_rfl
theorem nspathParsesExactly_laidOut : laidOutB Tryd.prog = true := by kernel_rfl

set_option maxRecDepth 100000 in
theorem nspathParsesExactly_contract (H : Type) (enc : TypeId × Value → H) (W : World) (base : Nat) (args : Array Value) (ds gs : List (DataW H)) (before : List MemPlace)
    (hval : ∀ (j : Nat) t v, Tryd.f4.params[j]? = some t → args[j]? = some v → Value.okWide Tryd.prog W .any base t v)
    (hW : DataW.Whole enc Tryd.prog Tryd.f4.params.toList Rows.nspathParsesExactlySpec.vars false W args.toList ds gs before) (hL : laidMetH Tryd.prog Rows.nspathParsesExactlyUptoRow.laid W) (hSh : W.ShapedOpen Tryd.prog)
    (hk : Rows.uptoSmall H (ds ++ gs) = true)
    (hsz : (DataW.weightsEach Tryd.prog (Tryd.f4.params.toList ++ Rows.nspathParsesExactlySpec.plain.varTypes Tryd.prog) (ds ++ gs)).all (· ≤ reachBytes) = true) :
    Calls Tryd.prog 4 args W fun e W' => ∃ v, e = .returned v ∧ Rows.nspathParsesExactlySpec.post enc Tryd.prog Tryd.f4 false true false false W args v W' := by
  have hW' := hW
  obtain ⟨p, q, hA0, hV, rfl, hfz, hnd⟩ := hW
  have hA : DataW.TrodAll enc Tryd.prog W 0 (fun _ => true) true Tryd.f4.params.toList args.toList ds p := hA0
  rw [Tryd.params4] at hA hval hsz
  obtain ⟨v0, vs0, d0, ds0, p0, q0, hargs, rfl, rfl, h0, r0⟩ := trodAll_cons hA
  obtain ⟨v1, vs1, d1, ds1, p1, q1, rfl, rfl, rfl, h1, r1⟩ := trodAll_cons r0
  obtain ⟨rfl, rfl, rfl⟩ := trodAll_nil r1
  obtain rfl : args = #[v0, v1] := by cases args; simp_all
  obtain ⟨rfl, rfl⟩ := trodVars_none hV
  have k0 := h0
  have lt0 : ∀ x ∈ p0, x.block < W.heap.size := by obtain ⟨m, hm⟩ := k0; exact DataW.trod_lt m _ _ _ hm
  have k1 := h1
  have lt1 : ∀ x ∈ p1, x.block < W.heap.size := by obtain ⟨m, hm⟩ := k1; exact DataW.trod_lt m _ _ _ hm
  obtain ⟨a0, rfl, rfl, rfl, w0⟩ := open_string Tryd.underlying9 (hval 0 9 v0 rfl rfl) h0
  have sz1 := sized_each hsz (j := 1) (t := 28) rfl rfl
  obtain ⟨a1, s1⟩ := open_bytesA (hval 1 28 v1 rfl rfl) h1 sz1
  have s0 : a0.data.toList.length ≤ 140737488351232 := sized_string hsz (j := 0) (t := 9) rfl rfl
  have hbulk : Rows.uptoBulkAll _ ≤ 1048576 := of_decide_eq_true hk
  simp only [List.append_nil, List.cons_append, List.nil_append, Rows.uptoBulkAll] at hbulk
  have t0 : a0.data.toList.length ≤ 1048576 := by have h : Rows.uptoBulk (DataW.lit (H := H) (.string a0.data.toList)) = a0.data.toList.length + 1 := (by simp [Rows.uptoBulk]); omega
  clear hA0
  obtain ⟨mx, hmx⟩ := max_cell hSh
  refine (exactly_walk a0.data.toList v1 _ W mx hmx s1 t0).mono fun e W' ⟨he, bel⟩ => ?_
  subst he
  exact ⟨_, rfl, _, _, _, [], _, [], hW', trodAll_mk1 (shut_bool Tryd.underlying4 _), (trodAll_cons_mk (Below.trod nspathParsesExactly_laidOut (by kernel_rfl) (of_decide_eq_true (by kernel_rfl)) k0 bel lt0) (trodAll_cons_mk (Below.trod nspathParsesExactly_laidOut (by kernel_rfl) (of_decide_eq_true (by kernel_rfl)) k1 bel lt1) trodAll_mk0)), rfl, bel.frame _, fun h => by cases h⟩

theorem nspathParsesExactly_laid_met (os : Os) : laidMetH Tryd.prog Rows.nspathParsesExactlyUptoRow.laid ((World.laidAll Tryd.prog os Rows.nspathParsesExactlyUptoRow.laid).forCall (fun _ _ => 0) ⟨#[], #[.string ByteArray.empty, .slice none 0 0], []⟩).memory := by
  rw [MakeChecks.laidMetH_plain _ _ _ (by kernel_rfl)]
  exact laidMet_laidAll _ (by kernel_rfl) (by kernel_rfl)
theorem nspathParsesExactly_reads (os : Os) {H : Type} (enc : TypeId × Value → H) : ∃ places, DataW.whole enc Tryd.prog ((World.laidAll Tryd.prog os Rows.nspathParsesExactlyUptoRow.laid).forCall (fun _ _ => 0) ⟨#[], #[.string ByteArray.empty, .slice none 0 0], []⟩).memory Tryd.f4.params.toList Rows.nspathParsesExactlySpec.vars false (#[.string ByteArray.empty, .slice none 0 0] : Array Value).toList 8 = some ([.lit (.string []), .nil], [], places) :=
  ⟨[], by kernel_rfl⟩

set_option maxRecDepth 100000 in
theorem nspathParsesExactly_lifted (os : Os) (started : os.Started) (H : Type) (enc : TypeId × Value → H) (F : Stop.Interp) :
    ReturnsInHanded {} Tryd.checked os 4 .any ((Rows.OpenSpec.upto Rows.nspathParsesExactlySpec).preRow enc Tryd.prog Tryd.f4 Rows.nspathParsesExactlyUptoRow.domain false Rows.nspathParsesExactlyUptoRow.laid) (((Rows.OpenSpec.upto Rows.nspathParsesExactlySpec).at F).post enc Tryd.prog Tryd.f4 false true false false) := by
  obtain ⟨places, hx⟩ := nspathParsesExactly_reads os enc
  refine returnsInHanded_of_row (C := Tryd.checked) (s := Rows.OpenSpec.upto Rows.nspathParsesExactlySpec) nspathParsesExactly_own started (by kernel_rfl) Tryd.func4
    (witness_row_atRef (enc := enc) (C := Tryd.checked) false (World.laidAll Tryd.prog os Rows.nspathParsesExactlyUptoRow.laid) #[.string ByteArray.empty, .slice none 0 0] (World.laidAll_os _ _ _) (by kernel_rfl) (by kernel_rfl) (by kernel_rfl)
      (OpenSpec.preRow_of_cond 8 hx (by kernel_rfl) (fun k hk => by cases hk; kernel_rfl) (by kernel_rfl) (nspathParsesExactly_laid_met os))) ?_
  intro W base args ds gs before hval hW _ hcond hsz hL hSh _
  exact nspathParsesExactly_contract H enc W base args ds gs before hval hW hL hSh (hcond _ rfl) hsz

theorem nspathParsesExactly_said : Rows.NspathParsesExactlyUptoSaid :=
  OpenClaim.holds_of_cond 4 Tryd.f4 rfl rfl rfl rfl rfl rfl rfl ⟨rfl, rfl, rfl, rfl, rfl⟩ rfl rfl rfl rfl rfl (by kernel_rfl) Tryd.func4 (by kernel_rfl)
    (of_decide_eq_true (by kernel_rfl)) (by unfold Func.isWrapper; first | (rw [if_pos (by decide +kernel)]; kernel_rfl) | (rw [if_neg (by decide +kernel)]; exact ⟨rfl, rfl⟩))
    (fun os started H enc _ F => by rw [OpenClaim.pre_eq_preRow]; exact nspathParsesExactly_lifted os started H enc F)

theorem nspathParsesExactly_plain (f : FuncId) (fn : Func) (hf : Tryd.pinned.checked.prog.funcNamed "platformfw/platformfwlaw02.NspathParsesExactly" = some f) (hfn : Tryd.pinned.checked.prog.funcs[f]? = some fn) :
    false = Tryd.pinned.checked.prog.looks [] ∧ ∀ (j : Nat) t, fn.params[j]? = some t → Tryd.pinned.checked.prog.wantsStandIn t = false := by
  obtain rfl : f = 4 := Option.some.inj ((show Tryd.prog.funcNamed "platformfw/platformfwlaw02.NspathParsesExactly" = some 4 by kernel_rfl).symm.trans hf) |>.symm
  obtain rfl : fn = Tryd.f4 := (Option.some.inj (Tryd.func4.symm.trans hfn)).symm
  refine ⟨by kernel_rfl, fun j t ht => ?_⟩
  rw [Tryd.params4] at ht
  have hm : t ∈ [9, 28] := by simpa using Array.mem_of_getElem? ht
  have hall : ([9, 28].all fun u => !Tryd.prog.wantsStandIn u) = true := by kernel_rfl
  exact (show Tryd.prog.wantsStandIn t = false by simpa using List.all_eq_true.1 hall t hm)

theorem nspathParsesExactly_card : Rows.NspathParsesExactlyUptoCardSaid :=
  Claim7.holds_tied_plain_at .later [] _ _ _ _ nspathParsesExactly_said (fun _ h => by cases h) (by kernel_rfl) (fun _ h => by cases h) nspathParsesExactlyUpto_row_tie rfl ⟨rfl, rfl⟩ (by kernel_rfl) rfl nspathParsesExactly_plain (by kernel_rfl)
#print axioms nspathParsesExactly_card
end Go.Proofs.YtkalnblbplaheaaDoor
