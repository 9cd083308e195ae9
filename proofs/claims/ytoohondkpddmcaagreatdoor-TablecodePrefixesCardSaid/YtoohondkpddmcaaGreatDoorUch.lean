/- TablecodePrefixes: for every input the statement's function returns true, without a panic, and each argument reads afterwards as before; the listed package variables read as the card's tie lays them. -/
import Derived.Test.YtoohondkpddmcaaGreatDoorUzz
import Derived.Test.YtoohondkpddmcaaGreatDoorUcg
import Derived.Test.YtoohondkpddmcaaGreatDoorUbt
import Derived.Test.YtoohondkpddmcaaGreatDoorCards
import Derived.Test.YtoohondkpddmcaaGreatDoorTie
import Derived.WalkKit
import Derived.ProofKit
import Derived.OpenShut
import Derived.ShutString
import Derived.SizedLaws
import Derived.ChangeOld
import Derived.Below
import Derived.LaidMore
import Derived.Lay
import Derived.SevenTiedAt
import Derived.Stop.Joined
import Derived.Deep.DeepHandedRow
import Derived.Deep.DeepWitnessRowRef
namespace Go.Proofs.YtoohondkpddmcaaGreatDoor
set_option linter.unusedVariables false
set_option linter.unusedSimpArgs false
open Go.ChangeShapes Go.WideShapes Go.ChangeAt Go.RowKit
open Go.ChangeMaps (open_string shut_string)
theorem Qgx:ownKnob Tryz.prog.godebug=none:=by kernel_rfl
theorem QcA:laidOutB Tryz.prog=true:=by kernel_rfl
set_option maxRecDepth 100000 in
theorem Qev (H:Type) (enc:TypeId×Value->H) (W:World) (base:Nat) (args:Array Value) (ds gs:List (DataW H)) (before:List MemPlace)
  (hval:∀ (j:Nat) t v,Tryz.f8.params[j]?=some t->args[j]?=some v->Value.okWide Tryz.prog W .any base t v)
  (hW:DataW.Whole enc Tryz.prog Tryz.f8.params.toList Rows.tablecodePrefixesSpec.vars false W args.toList ds gs before) (hL:laidMetH Tryz.prog Rows.tablecodePrefixesRow.laid W) (hSh:W.ShapedOpen Tryz.prog)
  (hsz:(DataW.weightsEach Tryz.prog (Tryz.f8.params.toList++Rows.tablecodePrefixesSpec.plain.varTypes Tryz.prog) (ds++gs)).all (·<=reachBytes)=true) :
  Calls Tryz.prog 8 args W fun e W'=>∃ v,e = .returned v/\Rows.tablecodePrefixesSpec.post enc Tryz.prog Tryz.f8 false true false false W args v W':=by
 have hW':=hW;obtain ⟨p,q,hA0,hV,rfl,hfz,hnd⟩:=hW;have hA:DataW.TrodAll enc Tryz.prog W 0 (fun _=>true) true Tryz.f8.params.toList args.toList ds p:=hA0;rw [Tryz.params8] at hA hval hsz;obtain ⟨v0,vs0,d0,ds0,p0,q0,hargs,rfl,rfl,h0,r0⟩:=trodAll_cons hA;obtain ⟨v1,vs1,d1,ds1,p1,q1,rfl,rfl,rfl,h1,r1⟩:=trodAll_cons r0;obtain ⟨rfl,rfl,rfl⟩:=trodAll_nil r1;obtain rfl:args=#[v0,v1]:=by cases args;simp_all
 obtain ⟨rfl,rfl⟩:=trodVars_none hV;have k0:=h0;have lt0:∀ x∈p0,x.block<W.heap.size:=by obtain ⟨m,hm⟩:=k0;exact DataW.trod_lt m _ _ _ hm
 have k1:=h1;have lt1:∀ x∈p1,x.block<W.heap.size:=by obtain ⟨m,hm⟩:=k1;exact DataW.trod_lt m _ _ _ hm
 have sz0:=Qdp hsz (j:=0) (t:=22) rfl rfl;obtain ⟨a0,s0⟩:=Qdq (hval 0 22 v0 rfl rfl) h0 sz0;obtain ⟨a1,rfl,rfl,rfl,w1⟩:=open_int Tryz.underlying3 (hval 1 3 v1 rfl rfl) h1;obtain ⟨lo1,hi1⟩ : -9223372036854775808<=a1/\a1<=9223372036854775807:=bounds_i64 w1;clear hA0;obtain ⟨mx,hmx⟩:=Qc9 hSh;refine (Qnu a0 v0 a1 mx W s0 (Qc8 hL hmx)).mono fun e W' ⟨he,bel⟩=>?_;subst he;exact ⟨_,rfl,_,_,_,[],_,[],hW',trodAll_mk1 (shut_bool Tryz.underlying4 _),(trodAll_cons_mk (Below.trod QcA (by kernel_rfl) (of_decide_eq_true (by kernel_rfl)) k0 bel lt0) (trodAll_cons_mk (Below.trod QcA (by kernel_rfl) (of_decide_eq_true (by kernel_rfl)) k1 bel lt1) trodAll_mk0)),rfl,bel.frame _,fun h=>by cases h⟩
theorem Qew (os:Os):laidMetH Tryz.prog Rows.tablecodePrefixesRow.laid ((World.laidAll Tryz.prog os Rows.tablecodePrefixesRow.laid).forCall (fun _ _=>0) ⟨#[],#[.slice none 0 0,.int .i64 0],[]⟩).memory:=by
 rw [MakeChecks.laidMetH_plain _ _ _ (by kernel_rfl)];exact laidMet_laidAll _ (by kernel_rfl) (by kernel_rfl)
theorem QfI (os:Os) {H:Type} (enc:TypeId×Value->H):∃ places,DataW.whole enc Tryz.prog ((World.laidAll Tryz.prog os Rows.tablecodePrefixesRow.laid).forCall (fun _ _=>0) ⟨#[],#[.slice none 0 0,.int .i64 0],[]⟩).memory Tryz.f8.params.toList Rows.tablecodePrefixesSpec.vars false (#[.slice none 0 0,.int .i64 0]:Array Value).toList 8=some ([.nil,.lit (.int .i64 0)],[],places) :=
 ⟨[],by kernel_rfl⟩
set_option maxRecDepth 100000 in
theorem Qe8 (os:Os) (started:os.Started) (H:Type) (enc:TypeId×Value->H) (F:Stop.Interp) :
  ReturnsInHanded {} Tryz.checked os 8 .any ((OpenSpec.ofChange Rows.tablecodePrefixesSpec).preRow enc Tryz.prog Tryz.f8 Rows.tablecodePrefixesRow.domain false Rows.tablecodePrefixesRow.laid) (((OpenSpec.ofChange Rows.tablecodePrefixesSpec).at F).post enc Tryz.prog Tryz.f8 false true false false):=by
 obtain ⟨places,hx⟩:=QfI os enc;refine returnsInHanded_of_row (C:=Tryz.checked) (s:=OpenSpec.ofChange Rows.tablecodePrefixesSpec) Qgx started (by kernel_rfl) Tryz.func8
  (witness_row_atRef (enc:=enc) (C:=Tryz.checked) false (World.laidAll Tryz.prog os Rows.tablecodePrefixesRow.laid) #[.slice none 0 0,.int .i64 0] (World.laidAll_os _ _ _) (by kernel_rfl) (by kernel_rfl) (by kernel_rfl)
   (OpenSpec.preRow_of_cond 8 hx (by kernel_rfl) (fun k hk=>by cases hk) (by kernel_rfl) (Qew os))) ?_
 intro W base args ds gs before hval hW _ _ hsz hL hSh _;exact Qev H enc W base args ds gs before hval hW hL hSh hsz
theorem QgY:(Tryz.prog.closure 8).contains 43=true:=by kernel_rfl
theorem QfJ:(((Tryz.prog.funcs[43]?).elim [] Tryz.prog.leadsTo).contains 43)=true:=by kernel_rfl
theorem QfK:(Tryz.prog.closure 43).contains 43=true:=by kernel_rfl
theorem Qgy:Tryz.pinned.checked.prog.recurses 8=true:=by
 show Tryz.prog.recurses 8=true;unfold Program.recurses;rw [Bool.or_eq_true];exact .inr (List.any_eq_true.2 ⟨43,List.contains_iff_mem.1 QgY,List.any_eq_true.2 ⟨43,List.contains_iff_mem.1 QfJ,QfK⟩⟩)
theorem Qe9:joinedFacts Tryz.pinned.checked.prog 8 Tryz.f8 (OpenSpec.ofChange Rows.tablecodePrefixesSpec).bare Rows.tablecodePrefixesRow=true:=by
 unfold joinedFacts;rw [Qgy]
 kernel_rfl
theorem Qgo:Rows.TablecodePrefixesSaid :=
 OpenClaim.holds_of_cond 8 Tryz.f8 rfl rfl rfl rfl rfl rfl rfl ⟨rfl,rfl,rfl,rfl,rfl⟩ rfl rfl rfl rfl rfl (by kernel_rfl) Tryz.func8 Qe9
  (of_decide_eq_true (by kernel_rfl)) (by unfold Func.isWrapper;first|(rw [if_pos (by decide +kernel)];kernel_rfl)|(rw [if_neg (by decide +kernel)];exact ⟨rfl,rfl⟩))
  (fun os started H enc _ F=>by rw [OpenClaim.pre_eq_preRow];exact Qe8 os started H enc F)
theorem QfL (f : FuncId) (fn : Func) (hf : Tryz.pinned.checked.prog.funcNamed "platformfw/platformfwlaw06.TablecodePrefixes" = some f) (hfn : Tryz.pinned.checked.prog.funcs[f]? = some fn) :
  false=Tryz.pinned.checked.prog.looks []/\∀ (j:Nat) t,fn.params[j]?=some t->Tryz.pinned.checked.prog.wantsStandIn t=false:=by
 obtain rfl : f = 8 := Option.some.inj ((show Tryz.prog.funcNamed "platformfw/platformfwlaw06.TablecodePrefixes" = some 8 by kernel_rfl).symm.trans hf) |>.symm
 obtain rfl:fn=Tryz.f8:=(Option.some.inj (Tryz.func8.symm.trans hfn)).symm;refine ⟨by kernel_rfl,fun j t ht=>?_⟩;rw [Tryz.params8] at ht;have hm:t∈[22,3]:=by simpa using Array.mem_of_getElem? ht
 have hall:([22,3].all fun u=>!Tryz.prog.wantsStandIn u)=true:=by kernel_rfl
 exact (show Tryz.prog.wantsStandIn t=false by simpa using List.all_eq_true.1 hall t hm)
theorem tablecodePrefixes_card:Rows.TablecodePrefixesCardSaid :=
 Claim7.holds_tied_plain_at .later [] _ _ _ _ Qgo (fun _ h=>by cases h) (by kernel_rfl) (fun _ h=>by cases h) tablecodePrefixes_row_tie rfl ⟨rfl,rfl⟩ (by kernel_rfl) rfl QfL (by kernel_rfl)
#print axioms tablecodePrefixes_card
end Go.Proofs.YtoohondkpddmcaaGreatDoor
