/- TablecodeCompiles: for every input the statement's function returns true, without a panic, and each argument reads afterwards as before; the listed package variables read as the card's tie lays them. CONDITION: the arguments hold together at most 1048576 values and letters (the second form). -/
import Derived.Test.YtoohondkpddmcaaGreatDoorUzz
import Derived.Test.YtoohondkpddmcaaGreatDoorUbs
import Derived.Test.YtoohondkpddmcaaGreatDoorUbt
import Derived.Test.YtoohondkpddmcaaGreatDoorCards
import Derived.Test.YtoohondkpddmcaaGreatDoorTie
import Derived.WalkKit
import Derived.ProofKit
import Derived.OpenShut
import Derived.ShutString
import Derived.SizedLaws
import Derived.ChangeOld
import Derived.Below
import Derived.LaidMore
import Derived.Lay
import Derived.SevenTiedAt
import Derived.Stop.Joined
import Derived.Deep.DeepHandedRow
import Derived.Deep.DeepWitnessRowRef
namespace Go.Proofs.YtoohondkpddmcaaGreatDoor
set_option linter.unusedVariables false
set_option linter.unusedSimpArgs false
open Go.ChangeShapes Go.WideShapes Go.ChangeAt Go.RowKit
open Go.ChangeMaps (open_string shut_string)
theorem Qgu:ownKnob Tryz.prog.godebug=none:=by kernel_rfl
theorem Qcz:laidOutB Tryz.prog=true:=by kernel_rfl
set_option maxRecDepth 100000 in
theorem Qen (H:Type) (enc:TypeId×Value->H) (W:World) (base:Nat) (args:Array Value) (ds gs:List (DataW H)) (before:List MemPlace)
  (hval:∀ (j:Nat) t v,Tryz.f4.params[j]?=some t->args[j]?=some v->Value.okWide Tryz.prog W .any base t v)
  (hW:DataW.Whole enc Tryz.prog Tryz.f4.params.toList Rows.tablecodeCompilesSpec.vars false W args.toList ds gs before) (hL:laidMetH Tryz.prog Rows.tablecodeCompilesUptoRow.laid W) (hSh:W.ShapedOpen Tryz.prog)
  (hk:Rows.uptoSmall H (ds++gs)=true)
  (hsz:(DataW.weightsEach Tryz.prog (Tryz.f4.params.toList++Rows.tablecodeCompilesSpec.plain.varTypes Tryz.prog) (ds++gs)).all (·<=reachBytes)=true) :
  Calls Tryz.prog 4 args W fun e W'=>∃ v,e = .returned v/\Rows.tablecodeCompilesSpec.post enc Tryz.prog Tryz.f4 false true false false W args v W':=by
 have hW':=hW;obtain ⟨p,q,hA0,hV,rfl,hfz,hnd⟩:=hW;have hA:DataW.TrodAll enc Tryz.prog W 0 (fun _=>true) true Tryz.f4.params.toList args.toList ds p:=hA0;rw [Tryz.params4] at hA hval hsz;obtain ⟨v0,vs0,d0,ds0,p0,q0,hargs,rfl,rfl,h0,r0⟩:=trodAll_cons hA;obtain ⟨v1,vs1,d1,ds1,p1,q1,rfl,rfl,rfl,h1,r1⟩:=trodAll_cons r0;obtain ⟨rfl,rfl,rfl⟩:=trodAll_nil r1;obtain rfl:args=#[v0,v1]:=by cases args;simp_all
 obtain ⟨rfl,rfl⟩:=trodVars_none hV;have hbulk:Rows.uptoBulkAll _<=1048576:=of_decide_eq_true hk;simp only [List.append_nil,List.cons_append,List.nil_append,Rows.uptoBulkAll] at hbulk;have k0:=h0;have lt0:∀ x∈p0,x.block<W.heap.size:=by obtain ⟨m,hm⟩:=k0;exact DataW.trod_lt m _ _ _ hm
 have k1:=h1;have lt1:∀ x∈p1,x.block<W.heap.size:=by obtain ⟨m,hm⟩:=k1;exact DataW.trod_lt m _ _ _ hm
 obtain ⟨a0,s0,n0,x0⟩:=Qqa (hval 0 24 v0 rfl rfl) h0 (by omega);have sz1:=Qdp hsz (j:=1) (t:=22) rfl rfl;obtain ⟨a1,s1⟩:=Qdq (hval 1 22 v1 rfl rfl) h1 sz1;clear hA0;obtain ⟨mx,hmx⟩:=Qc9 hSh;refine (Qnp a0 v0 a1 v1 mx W s0 n0 x0 s1 (Qc8 hL hmx)).mono fun e W' ⟨he,bel⟩=>?_;subst he;exact ⟨_,rfl,_,_,_,[],_,[],hW',trodAll_mk1 (shut_bool Tryz.underlying4 _),(trodAll_cons_mk (Below.trod Qcz (by kernel_rfl) (of_decide_eq_true (by kernel_rfl)) k0 bel lt0) (trodAll_cons_mk (Below.trod Qcz (by kernel_rfl) (of_decide_eq_true (by kernel_rfl)) k1 bel lt1) trodAll_mk0)),rfl,bel.frame _,fun h=>by cases h⟩
theorem Qeo (os:Os):laidMetH Tryz.prog Rows.tablecodeCompilesUptoRow.laid ((World.laidAll Tryz.prog os Rows.tablecodeCompilesUptoRow.laid).forCall (fun _ _=>0) ⟨#[],#[.slice none 0 0,.slice none 0 0],[]⟩).memory:=by
 rw [MakeChecks.laidMetH_plain _ _ _ (by kernel_rfl)];exact laidMet_laidAll _ (by kernel_rfl) (by kernel_rfl)
theorem QfA (os:Os) {H:Type} (enc:TypeId×Value->H):∃ places,DataW.whole enc Tryz.prog ((World.laidAll Tryz.prog os Rows.tablecodeCompilesUptoRow.laid).forCall (fun _ _=>0) ⟨#[],#[.slice none 0 0,.slice none 0 0],[]⟩).memory Tryz.f4.params.toList Rows.tablecodeCompilesSpec.vars false (#[.slice none 0 0,.slice none 0 0]:Array Value).toList 8=some ([.nil,.nil],[],places) :=
 ⟨[],by kernel_rfl⟩
set_option maxRecDepth 100000 in
theorem QeZ (os:Os) (started:os.Started) (H:Type) (enc:TypeId×Value->H) (F:Stop.Interp) :
  ReturnsInHanded {} Tryz.checked os 4 .any ((Rows.OpenSpec.upto Rows.tablecodeCompilesSpec).preRow enc Tryz.prog Tryz.f4 Rows.tablecodeCompilesUptoRow.domain false Rows.tablecodeCompilesUptoRow.laid) (((Rows.OpenSpec.upto Rows.tablecodeCompilesSpec).at F).post enc Tryz.prog Tryz.f4 false true false false):=by
 obtain ⟨places,hx⟩:=QfA os enc;refine returnsInHanded_of_row (C:=Tryz.checked) (s:=Rows.OpenSpec.upto Rows.tablecodeCompilesSpec) Qgu started (by kernel_rfl) Tryz.func4
  (witness_row_atRef (enc:=enc) (C:=Tryz.checked) false (World.laidAll Tryz.prog os Rows.tablecodeCompilesUptoRow.laid) #[.slice none 0 0,.slice none 0 0] (World.laidAll_os _ _ _) (by kernel_rfl) (by kernel_rfl) (by kernel_rfl)
   (OpenSpec.preRow_of_cond 8 hx (by kernel_rfl) (fun k hk=>by cases hk;kernel_rfl) (by kernel_rfl) (Qeo os))) ?_
 intro W base args ds gs before hval hW _ hcond hsz hL hSh _;exact Qen H enc W base args ds gs before hval hW hL hSh (hcond _ rfl) hsz
theorem QgV:(Tryz.prog.closure 4).contains 43=true:=by kernel_rfl
theorem QfB:(((Tryz.prog.funcs[43]?).elim [] Tryz.prog.leadsTo).contains 43)=true:=by kernel_rfl
theorem QfC:(Tryz.prog.closure 43).contains 43=true:=by kernel_rfl
theorem Qgv:Tryz.pinned.checked.prog.recurses 4=true:=by
 show Tryz.prog.recurses 4=true;unfold Program.recurses;rw [Bool.or_eq_true];exact .inr (List.any_eq_true.2 ⟨43,List.contains_iff_mem.1 QgV,List.any_eq_true.2 ⟨43,List.contains_iff_mem.1 QfB,QfC⟩⟩)
theorem Qe0:joinedFacts Tryz.pinned.checked.prog 4 Tryz.f4 (Rows.OpenSpec.upto Rows.tablecodeCompilesSpec).bare Rows.tablecodeCompilesUptoRow=true:=by
 unfold joinedFacts;rw [Qgv]
 kernel_rfl
theorem Qgk:Rows.TablecodeCompilesUptoSaid :=
 OpenClaim.holds_of_cond 4 Tryz.f4 rfl rfl rfl rfl rfl rfl rfl ⟨rfl,rfl,rfl,rfl,rfl⟩ rfl rfl rfl rfl rfl (by kernel_rfl) Tryz.func4 Qe0
  (of_decide_eq_true (by kernel_rfl)) (by unfold Func.isWrapper;first|(rw [if_pos (by decide +kernel)];kernel_rfl)|(rw [if_neg (by decide +kernel)];exact ⟨rfl,rfl⟩))
  (fun os started H enc _ F=>by rw [OpenClaim.pre_eq_preRow];exact QeZ os started H enc F)
theorem QfD (f : FuncId) (fn : Func) (hf : Tryz.pinned.checked.prog.funcNamed "platformfw/platformfwlaw06.TablecodeCompiles" = some f) (hfn : Tryz.pinned.checked.prog.funcs[f]? = some fn) :
  false=Tryz.pinned.checked.prog.looks []/\∀ (j:Nat) t,fn.params[j]?=some t->Tryz.pinned.checked.prog.wantsStandIn t=false:=by
 obtain rfl : f = 4 := Option.some.inj ((show Tryz.prog.funcNamed "platformfw/platformfwlaw06.TablecodeCompiles" = some 4 by kernel_rfl).symm.trans hf) |>.symm
 obtain rfl:fn=Tryz.f4:=(Option.some.inj (Tryz.func4.symm.trans hfn)).symm;refine ⟨by kernel_rfl,fun j t ht=>?_⟩;rw [Tryz.params4] at ht;have hm:t∈[24,22]:=by simpa using Array.mem_of_getElem? ht
 have hall:([24,22].all fun u=>!Tryz.prog.wantsStandIn u)=true:=by kernel_rfl
 exact (show Tryz.prog.wantsStandIn t=false by simpa using List.all_eq_true.1 hall t hm)
theorem tablecodeCompiles_card:Rows.TablecodeCompilesUptoCardSaid :=
 Claim7.holds_tied_plain_at .later [] _ _ _ _ Qgk (fun _ h=>by cases h) (by kernel_rfl) (fun _ h=>by cases h) tablecodeCompilesUpto_row_tie rfl ⟨rfl,rfl⟩ (by kernel_rfl) rfl QfD (by kernel_rfl)
#print axioms tablecodeCompiles_card
end Go.Proofs.YtoohondkpddmcaaGreatDoor
