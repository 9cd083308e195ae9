/- TablecodeRoundTrip: for every input the statement's function returns true, without a panic, and each argument reads afterwards as before; the listed package variables read as the card's tie lays them. -/
import Derived.Test.YtoohondkpddmcaaGreatDoorUzz
import Derived.Test.YtoohondkpddmcaaGreatDoorUby
import Derived.Test.YtoohondkpddmcaaGreatDoorUbt
import Derived.Test.YtoohondkpddmcaaGreatDoorCards
import Derived.Test.YtoohondkpddmcaaGreatDoorTie
import Derived.WalkKit
import Derived.ProofKit
import Derived.OpenShut
import Derived.ShutString
import Derived.SizedLaws
import Derived.ChangeOld
import Derived.Below
import Derived.LaidMore
import Derived.Lay
import Derived.SevenTiedAt
import Derived.Stop.Joined
import Derived.Deep.DeepHandedRow
import Derived.Deep.DeepWitnessRowRef
namespace Go.Proofs.YtoohondkpddmcaaGreatDoor
set_option linter.unusedVariables false
set_option linter.unusedSimpArgs false
open Go.ChangeShapes Go.WideShapes Go.ChangeAt Go.RowKit
open Go.ChangeMaps (open_string shut_string)
theorem Qgm:ownKnob Tryz.prog.godebug=none:=by kernel_rfl
theorem Qeq:laidOutB Tryz.prog=true:=by kernel_rfl
set_option maxRecDepth 100000 in
theorem QdV (H:Type) (enc:TypeId×Value->H) (W:World) (base:Nat) (args:Array Value) (ds gs:List (DataW H)) (before:List MemPlace)
  (hval:∀ (j:Nat) t v,Tryz.f5.params[j]?=some t->args[j]?=some v->Value.okWide Tryz.prog W .any base t v)
  (hW:DataW.Whole enc Tryz.prog Tryz.f5.params.toList Rows.tablecodeRoundTripSpec.vars false W args.toList ds gs before) (hL:laidMetH Tryz.prog Rows.tablecodeRoundTripRow.laid W) (hSh:W.ShapedOpen Tryz.prog)
  (hsz:(DataW.weightsEach Tryz.prog (Tryz.f5.params.toList++Rows.tablecodeRoundTripSpec.plain.varTypes Tryz.prog) (ds++gs)).all (·<=reachBytes)=true) :
  Calls Tryz.prog 5 args W fun e W'=>∃ v,e = .returned v/\Rows.tablecodeRoundTripSpec.post enc Tryz.prog Tryz.f5 false true false false W args v W':=by
 have hW':=hW;obtain ⟨p,q,hA0,hV,rfl,hfz,hnd⟩:=hW;have hA:DataW.TrodAll enc Tryz.prog W 0 (fun _=>true) true Tryz.f5.params.toList args.toList ds p:=hA0;rw [Tryz.params5] at hA hval hsz;obtain ⟨v0,vs0,d0,ds0,p0,q0,hargs,rfl,rfl,h0,r0⟩:=trodAll_cons hA;obtain ⟨rfl,rfl,rfl⟩:=trodAll_nil r0;obtain rfl:args=#[v0]:=by cases args;simp_all
 obtain ⟨rfl,rfl⟩:=trodVars_none hV;have k0:=h0;have lt0:∀ x∈p0,x.block<W.heap.size:=by obtain ⟨m,hm⟩:=k0;exact DataW.trod_lt m _ _ _ hm
 have sz0:=Qdp hsz (j:=0) (t:=22) rfl rfl;obtain ⟨a0,s0⟩:=Qdq (hval 0 22 v0 rfl rfl) h0 sz0;clear hA0;obtain ⟨mx,hmx⟩:=Qc9 hSh;refine (QlC a0 v0 mx W s0 (Qc8 hL hmx)).mono fun e W' ⟨he,bel⟩=>?_;subst he;exact ⟨_,rfl,_,_,_,[],_,[],hW',trodAll_mk1 (shut_bool Tryz.underlying4 _),(trodAll_cons_mk (Below.trod Qeq (by kernel_rfl) (of_decide_eq_true (by kernel_rfl)) k0 bel lt0) trodAll_mk0),rfl,bel.frame _,fun h=>by cases h⟩
theorem QdW (os:Os):laidMetH Tryz.prog Rows.tablecodeRoundTripRow.laid ((World.laidAll Tryz.prog os Rows.tablecodeRoundTripRow.laid).forCall (fun _ _=>0) ⟨#[],#[.slice none 0 0],[]⟩).memory:=by
 rw [MakeChecks.laidMetH_plain _ _ _ (by kernel_rfl)];exact laidMet_laidAll _ (by kernel_rfl) (by kernel_rfl)
theorem Qe2 (os:Os) {H:Type} (enc:TypeId×Value->H):∃ places,DataW.whole enc Tryz.prog ((World.laidAll Tryz.prog os Rows.tablecodeRoundTripRow.laid).forCall (fun _ _=>0) ⟨#[],#[.slice none 0 0],[]⟩).memory Tryz.f5.params.toList Rows.tablecodeRoundTripSpec.vars false (#[.slice none 0 0]:Array Value).toList 8=some ([.nil],[],places) :=
 ⟨[],by kernel_rfl⟩
set_option maxRecDepth 100000 in
theorem Qez (os:Os) (started:os.Started) (H:Type) (enc:TypeId×Value->H) (F:Stop.Interp) :
  ReturnsInHanded {} Tryz.checked os 5 .any ((OpenSpec.ofChange Rows.tablecodeRoundTripSpec).preRow enc Tryz.prog Tryz.f5 Rows.tablecodeRoundTripRow.domain false Rows.tablecodeRoundTripRow.laid) (((OpenSpec.ofChange Rows.tablecodeRoundTripSpec).at F).post enc Tryz.prog Tryz.f5 false true false false):=by
 obtain ⟨places,hx⟩:=Qe2 os enc;refine returnsInHanded_of_row (C:=Tryz.checked) (s:=OpenSpec.ofChange Rows.tablecodeRoundTripSpec) Qgm started (by kernel_rfl) Tryz.func5
  (witness_row_atRef (enc:=enc) (C:=Tryz.checked) false (World.laidAll Tryz.prog os Rows.tablecodeRoundTripRow.laid) #[.slice none 0 0] (World.laidAll_os _ _ _) (by kernel_rfl) (by kernel_rfl) (by kernel_rfl)
   (OpenSpec.preRow_of_cond 8 hx (by kernel_rfl) (fun k hk=>by cases hk) (by kernel_rfl) (QdW os))) ?_
 intro W base args ds gs before hval hW _ _ hsz hL hSh _;exact QdV H enc W base args ds gs before hval hW hL hSh hsz
theorem Qgw:(Tryz.prog.closure 5).contains 42=true:=by kernel_rfl
theorem Qe3:(((Tryz.prog.funcs[42]?).elim [] Tryz.prog.leadsTo).contains 85)=true:=by kernel_rfl
theorem Qe4:(Tryz.prog.closure 85).contains 42=true:=by kernel_rfl
theorem Qgn:Tryz.pinned.checked.prog.recurses 5=true:=by
 show Tryz.prog.recurses 5=true;unfold Program.recurses;rw [Bool.or_eq_true];exact .inr (List.any_eq_true.2 ⟨42,List.contains_iff_mem.1 Qgw,List.any_eq_true.2 ⟨85,List.contains_iff_mem.1 Qe3,Qe4⟩⟩)
theorem QeA:joinedFacts Tryz.pinned.checked.prog 5 Tryz.f5 (OpenSpec.ofChange Rows.tablecodeRoundTripSpec).bare Rows.tablecodeRoundTripRow=true:=by
 unfold joinedFacts;rw [Qgn]
 kernel_rfl
theorem QfE:Rows.TablecodeRoundTripSaid :=
 OpenClaim.holds_of_cond 5 Tryz.f5 rfl rfl rfl rfl rfl rfl rfl ⟨rfl,rfl,rfl,rfl,rfl⟩ rfl rfl rfl rfl rfl (by kernel_rfl) Tryz.func5 QeA
  (of_decide_eq_true (by kernel_rfl)) (by unfold Func.isWrapper;first|(rw [if_pos (by decide +kernel)];kernel_rfl)|(rw [if_neg (by decide +kernel)];exact ⟨rfl,rfl⟩))
  (fun os started H enc _ F=>by rw [OpenClaim.pre_eq_preRow];exact Qez os started H enc F)
theorem Qe5 (f : FuncId) (fn : Func) (hf : Tryz.pinned.checked.prog.funcNamed "platformfw/platformfwlaw06.TablecodeRoundTrip" = some f) (hfn : Tryz.pinned.checked.prog.funcs[f]? = some fn) :
  false=Tryz.pinned.checked.prog.looks []/\∀ (j:Nat) t,fn.params[j]?=some t->Tryz.pinned.checked.prog.wantsStandIn t=false:=by
 obtain rfl : f = 5 := Option.some.inj ((show Tryz.prog.funcNamed "platformfw/platformfwlaw06.TablecodeRoundTrip" = some 5 by kernel_rfl).symm.trans hf) |>.symm
 obtain rfl:fn=Tryz.f5:=(Option.some.inj (Tryz.func5.symm.trans hfn)).symm;refine ⟨by kernel_rfl,fun j t ht=>?_⟩;rw [Tryz.params5] at ht;have hm:t∈[22]:=by simpa using Array.mem_of_getElem? ht
 have hall:([22].all fun u=>!Tryz.prog.wantsStandIn u)=true:=by kernel_rfl
 exact (show Tryz.prog.wantsStandIn t=false by simpa using List.all_eq_true.1 hall t hm)
theorem tablecodeRoundTrip_card:Rows.TablecodeRoundTripCardSaid :=
 Claim7.holds_tied_plain_at .later [] _ _ _ _ QfE (fun _ h=>by cases h) (by kernel_rfl) (fun _ h=>by cases h) tablecodeRoundTrip_row_tie rfl ⟨rfl,rfl⟩ (by kernel_rfl) rfl Qe5 (by kernel_rfl)
#print axioms tablecodeRoundTrip_card
end Go.Proofs.YtoohondkpddmcaaGreatDoor
