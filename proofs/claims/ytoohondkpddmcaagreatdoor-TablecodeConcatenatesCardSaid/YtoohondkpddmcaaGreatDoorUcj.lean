/- TablecodeConcatenates: for every input the statement's function returns true, without a panic, and each argument reads afterwards as before; the listed package variables read as the card's tie lays them. -/
import Derived.Test.YtoohondkpddmcaaGreatDoorUzz
import Derived.Test.YtoohondkpddmcaaGreatDoorUci
import Derived.Test.YtoohondkpddmcaaGreatDoorUbt
import Derived.Test.YtoohondkpddmcaaGreatDoorCards
import Derived.Test.YtoohondkpddmcaaGreatDoorTie
import Derived.WalkKit
import Derived.ProofKit
import Derived.OpenShut
import Derived.ShutString
import Derived.SizedLaws
import Derived.ChangeOld
import Derived.Below
import Derived.LaidMore
import Derived.Lay
import Derived.SevenTiedAt
import Derived.Stop.Joined
import Derived.Deep.DeepHandedRow
import Derived.Deep.DeepWitnessRowRef
namespace Go.Proofs.YtoohondkpddmcaaGreatDoor
set_option linter.unusedVariables false
set_option linter.unusedSimpArgs false
open Go.ChangeShapes Go.WideShapes Go.ChangeAt Go.RowKit
open Go.ChangeMaps (open_string shut_string)
theorem QeC:ownKnob Tryz.prog.godebug=none:=by kernel_rfl
theorem Qb2:laidOutB Tryz.prog=true:=by kernel_rfl
set_option maxRecDepth 100000 in
theorem Qds (H:Type) (enc:TypeId×Value->H) (W:World) (base:Nat) (args:Array Value) (ds gs:List (DataW H)) (before:List MemPlace)
  (hval:∀ (j:Nat) t v,Tryz.f9.params[j]?=some t->args[j]?=some v->Value.okWide Tryz.prog W .any base t v)
  (hW:DataW.Whole enc Tryz.prog Tryz.f9.params.toList Rows.tablecodeConcatenatesSpec.vars false W args.toList ds gs before) (hL:laidMetH Tryz.prog Rows.tablecodeConcatenatesRow.laid W) (hSh:W.ShapedOpen Tryz.prog)
  (hsz:(DataW.weightsEach Tryz.prog (Tryz.f9.params.toList++Rows.tablecodeConcatenatesSpec.plain.varTypes Tryz.prog) (ds++gs)).all (·<=reachBytes)=true) :
  Calls Tryz.prog 9 args W fun e W'=>∃ v,e = .returned v/\Rows.tablecodeConcatenatesSpec.post enc Tryz.prog Tryz.f9 false true false false W args v W':=by
 have hW':=hW;obtain ⟨p,q,hA0,hV,rfl,hfz,hnd⟩:=hW;have hA:DataW.TrodAll enc Tryz.prog W 0 (fun _=>true) true Tryz.f9.params.toList args.toList ds p:=hA0;rw [Tryz.params9] at hA hval hsz;obtain ⟨v0,vs0,d0,ds0,p0,q0,hargs,rfl,rfl,h0,r0⟩:=trodAll_cons hA;obtain ⟨v1,vs1,d1,ds1,p1,q1,rfl,rfl,rfl,h1,r1⟩:=trodAll_cons r0;obtain ⟨rfl,rfl,rfl⟩:=trodAll_nil r1;obtain rfl:args=#[v0,v1]:=by cases args;simp_all
 obtain ⟨rfl,rfl⟩:=trodVars_none hV;have k0:=h0;have lt0:∀ x∈p0,x.block<W.heap.size:=by obtain ⟨m,hm⟩:=k0;exact DataW.trod_lt m _ _ _ hm
 have k1:=h1;have lt1:∀ x∈p1,x.block<W.heap.size:=by obtain ⟨m,hm⟩:=k1;exact DataW.trod_lt m _ _ _ hm
 have sz0:=Qdp hsz (j:=0) (t:=22) rfl rfl;obtain ⟨a0,s0⟩:=Qdq (hval 0 22 v0 rfl rfl) h0 sz0;have sz1:=Qdp hsz (j:=1) (t:=22) rfl rfl;obtain ⟨a1,s1⟩:=Qdq (hval 1 22 v1 rfl rfl) h1 sz1;clear hA0;obtain ⟨mx,hmx⟩:=Qc9 hSh;refine (Qp4 a0 a1 v0 v1 mx W s0 s1 (Qc8 hL hmx)).mono fun e W' ⟨he,bel⟩=>?_;subst he;exact ⟨_,rfl,_,_,_,[],_,[],hW',trodAll_mk1 (shut_bool Tryz.underlying4 _),(trodAll_cons_mk (Below.trod Qb2 (by kernel_rfl) (of_decide_eq_true (by kernel_rfl)) k0 bel lt0) (trodAll_cons_mk (Below.trod Qb2 (by kernel_rfl) (of_decide_eq_true (by kernel_rfl)) k1 bel lt1) trodAll_mk0)),rfl,bel.frame _,fun h=>by cases h⟩
theorem Qdt (os:Os):laidMetH Tryz.prog Rows.tablecodeConcatenatesRow.laid ((World.laidAll Tryz.prog os Rows.tablecodeConcatenatesRow.laid).forCall (fun _ _=>0) ⟨#[],#[.slice none 0 0,.slice none 0 0],[]⟩).memory:=by
 rw [MakeChecks.laidMetH_plain _ _ _ (by kernel_rfl)];exact laidMet_laidAll _ (by kernel_rfl) (by kernel_rfl)
theorem QdZ (os:Os) {H:Type} (enc:TypeId×Value->H):∃ places,DataW.whole enc Tryz.prog ((World.laidAll Tryz.prog os Rows.tablecodeConcatenatesRow.laid).forCall (fun _ _=>0) ⟨#[],#[.slice none 0 0,.slice none 0 0],[]⟩).memory Tryz.f9.params.toList Rows.tablecodeConcatenatesSpec.vars false (#[.slice none 0 0,.slice none 0 0]:Array Value).toList 8=some ([.nil,.nil],[],places) :=
 ⟨[],by kernel_rfl⟩
set_option maxRecDepth 100000 in
theorem QdL (os:Os) (started:os.Started) (H:Type) (enc:TypeId×Value->H) (F:Stop.Interp) :
  ReturnsInHanded {} Tryz.checked os 9 .any ((OpenSpec.ofChange Rows.tablecodeConcatenatesSpec).preRow enc Tryz.prog Tryz.f9 Rows.tablecodeConcatenatesRow.domain false Rows.tablecodeConcatenatesRow.laid) (((OpenSpec.ofChange Rows.tablecodeConcatenatesSpec).at F).post enc Tryz.prog Tryz.f9 false true false false):=by
 obtain ⟨places,hx⟩:=QdZ os enc;refine returnsInHanded_of_row (C:=Tryz.checked) (s:=OpenSpec.ofChange Rows.tablecodeConcatenatesSpec) QeC started (by kernel_rfl) Tryz.func9
  (witness_row_atRef (enc:=enc) (C:=Tryz.checked) false (World.laidAll Tryz.prog os Rows.tablecodeConcatenatesRow.laid) #[.slice none 0 0,.slice none 0 0] (World.laidAll_os _ _ _) (by kernel_rfl) (by kernel_rfl) (by kernel_rfl)
   (OpenSpec.preRow_of_cond 8 hx (by kernel_rfl) (fun k hk=>by cases hk) (by kernel_rfl) (Qdt os))) ?_
 intro W base args ds gs before hval hW _ _ hsz hL hSh _;exact Qds H enc W base args ds gs before hval hW hL hSh hsz
theorem Qfa:(Tryz.prog.closure 9).contains 42=true:=by kernel_rfl
theorem Qd0:(((Tryz.prog.funcs[42]?).elim [] Tryz.prog.leadsTo).contains 85)=true:=by kernel_rfl
theorem Qd1:(Tryz.prog.closure 85).contains 42=true:=by kernel_rfl
theorem QeD:Tryz.pinned.checked.prog.recurses 9=true:=by
 show Tryz.prog.recurses 9=true;unfold Program.recurses;rw [Bool.or_eq_true];exact .inr (List.any_eq_true.2 ⟨42,List.contains_iff_mem.1 Qfa,List.any_eq_true.2 ⟨85,List.contains_iff_mem.1 Qd0,Qd1⟩⟩)
theorem QdM:joinedFacts Tryz.pinned.checked.prog 9 Tryz.f9 (OpenSpec.ofChange Rows.tablecodeConcatenatesSpec).bare Rows.tablecodeConcatenatesRow=true:=by
 unfold joinedFacts;rw [QeD]
 kernel_rfl
theorem Qex:Rows.TablecodeConcatenatesSaid :=
 OpenClaim.holds_of_cond 9 Tryz.f9 rfl rfl rfl rfl rfl rfl rfl ⟨rfl,rfl,rfl,rfl,rfl⟩ rfl rfl rfl rfl rfl (by kernel_rfl) Tryz.func9 QdM
  (of_decide_eq_true (by kernel_rfl)) (by unfold Func.isWrapper;first|(rw [if_pos (by decide +kernel)];kernel_rfl)|(rw [if_neg (by decide +kernel)];exact ⟨rfl,rfl⟩))
  (fun os started H enc _ F=>by rw [OpenClaim.pre_eq_preRow];exact QdL os started H enc F)
theorem Qd2 (f : FuncId) (fn : Func) (hf : Tryz.pinned.checked.prog.funcNamed "platformfw/platformfwlaw06.TablecodeConcatenates" = some f) (hfn : Tryz.pinned.checked.prog.funcs[f]? = some fn) :
  false=Tryz.pinned.checked.prog.looks []/\∀ (j:Nat) t,fn.params[j]?=some t->Tryz.pinned.checked.prog.wantsStandIn t=false:=by
 obtain rfl : f = 9 := Option.some.inj ((show Tryz.prog.funcNamed "platformfw/platformfwlaw06.TablecodeConcatenates" = some 9 by kernel_rfl).symm.trans hf) |>.symm
 obtain rfl:fn=Tryz.f9:=(Option.some.inj (Tryz.func9.symm.trans hfn)).symm;refine ⟨by kernel_rfl,fun j t ht=>?_⟩;rw [Tryz.params9] at ht;have hm:t∈[22,22]:=by simpa using Array.mem_of_getElem? ht
 have hall:([22,22].all fun u=>!Tryz.prog.wantsStandIn u)=true:=by kernel_rfl
 exact (show Tryz.prog.wantsStandIn t=false by simpa using List.all_eq_true.1 hall t hm)
theorem tablecodeConcatenates_card:Rows.TablecodeConcatenatesCardSaid :=
 Claim7.holds_tied_plain_at .later [] _ _ _ _ Qex (fun _ h=>by cases h) (by kernel_rfl) (fun _ h=>by cases h) tablecodeConcatenates_row_tie rfl ⟨rfl,rfl⟩ (by kernel_rfl) rfl Qd2 (by kernel_rfl)
#print axioms tablecodeConcatenates_card
end Go.Proofs.YtoohondkpddmcaaGreatDoor
