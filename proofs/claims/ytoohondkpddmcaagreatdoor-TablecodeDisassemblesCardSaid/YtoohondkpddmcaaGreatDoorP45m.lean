/- TablecodeDisassembles: for every input the statement's function returns true, without a panic, and each argument reads afterwards as before; the listed package variables read as the card's tie lays them. -/
import Derived.Test.YtoohondkpddmcaaGreatDoorYzz
import Derived.Test.YtoohondkpddmcaaGreatDoorYbw
import Derived.Test.YtoohondkpddmcaaGreatDoorCards
import Derived.Test.YtoohondkpddmcaaGreatDoorTie
import Derived.WalkKit
import Derived.ProofKit
import Derived.OpenShut
import Derived.ShutString
import Derived.SizedLaws
import Derived.ChangeOld
import Derived.Below
import Derived.LaidMore
import Derived.Lay
import Derived.SevenTiedAt
import Derived.Stop.Joined
import Derived.Deep.DeepHandedRow
import Derived.Deep.DeepWitnessRowRef
namespace Go.Proofs.YtoohondkpddmcaaGreatDoor
set_option linter.unusedVariables false
set_option linter.unusedSimpArgs false
open Go.ChangeShapes Go.WideShapes Go.ChangeAt Go.RowKit
open Go.ChangeMaps (open_string shut_string)
theorem Qed:ownKnob Tryz.prog.godebug=none:=by kernel_rfl
theorem QaS:laidOutB Tryz.prog=true:=by kernel_rfl
set_option maxRecDepth 100000 in
theorem Qdh (H:Type) (enc:TypeId×Value->H) (W:World) (base:Nat) (args:Array Value) (ds gs:List (DataW H)) (before:List MemPlace)
  (hval:∀ (j:Nat) t v,Tryz.f7.params[j]?=some t->args[j]?=some v->Value.okWide Tryz.prog W .any base t v)
  (hW:DataW.Whole enc Tryz.prog Tryz.f7.params.toList Rows.tablecodeDisassemblesSpec.vars false W args.toList ds gs before) (hL:laidMetH Tryz.prog Rows.tablecodeDisassemblesRow.laid W) (hSh:W.ShapedOpen Tryz.prog)
  (hsz:(DataW.weightsEach Tryz.prog (Tryz.f7.params.toList++Rows.tablecodeDisassemblesSpec.plain.varTypes Tryz.prog) (ds++gs)).all (·<=reachBytes)=true) :
  Calls Tryz.prog 7 args W fun e W'=>∃ v,e = .returned v/\Rows.tablecodeDisassemblesSpec.post enc Tryz.prog Tryz.f7 false true false false W args v W':=by
 have hW':=hW;obtain ⟨p,q,hA0,hV,rfl,hfz,hnd⟩:=hW;have hA:DataW.TrodAll enc Tryz.prog W 0 (fun _=>true) true Tryz.f7.params.toList args.toList ds p:=hA0;rw [Tryz.params7] at hA hval hsz;obtain ⟨v0,vs0,d0,ds0,p0,q0,hargs,rfl,rfl,h0,r0⟩:=trodAll_cons hA;obtain ⟨v1,vs1,d1,ds1,p1,q1,rfl,rfl,rfl,h1,r1⟩:=trodAll_cons r0;obtain ⟨v2,vs2,d2,ds2,p2,q2,rfl,rfl,rfl,h2,r2⟩:=trodAll_cons r1;obtain ⟨v3,vs3,d3,ds3,p3,q3,rfl,rfl,rfl,h3,r3⟩:=trodAll_cons r2;obtain ⟨v4,vs4,d4,ds4,p4,q4,rfl,rfl,rfl,h4,r4⟩:=trodAll_cons r3;obtain ⟨rfl,rfl,rfl⟩:=trodAll_nil r4;obtain rfl:args=#[v0,v1,v2,v3,v4]:=by cases args;simp_all
 obtain ⟨rfl,rfl⟩:=trodVars_none hV;have k0:=h0;have lt0:∀ x∈p0,x.block<W.heap.size:=by obtain ⟨m,hm⟩:=k0;exact DataW.trod_lt m _ _ _ hm
 have k1:=h1;have lt1:∀ x∈p1,x.block<W.heap.size:=by obtain ⟨m,hm⟩:=k1;exact DataW.trod_lt m _ _ _ hm
 have k2:=h2;have lt2:∀ x∈p2,x.block<W.heap.size:=by obtain ⟨m,hm⟩:=k2;exact DataW.trod_lt m _ _ _ hm
 have k3:=h3;have lt3:∀ x∈p3,x.block<W.heap.size:=by obtain ⟨m,hm⟩:=k3;exact DataW.trod_lt m _ _ _ hm
 have k4:=h4;have lt4:∀ x∈p4,x.block<W.heap.size:=by obtain ⟨m,hm⟩:=k4;exact DataW.trod_lt m _ _ _ hm
 obtain ⟨a0,rfl,rfl,rfl,w0⟩:=open_string Tryz.underlying9 (hval 0 9 v0 rfl rfl) h0;have sz1:=Qog hsz (j:=1) (t:=22) rfl rfl;obtain ⟨a1,s1⟩:=Qok (hval 1 22 v1 rfl rfl) h1 sz1;obtain ⟨a2,rfl,rfl,rfl,w2⟩:=open_int Tryz.underlying3 (hval 2 3 v2 rfl rfl) h2;obtain ⟨lo2,hi2⟩ : -9223372036854775808<=a2/\a2<=9223372036854775807:=bounds_i64 w2;obtain ⟨a3,rfl,rfl,rfl,w3⟩:=open_int Tryz.underlying5 (hval 3 5 v3 rfl rfl) h3;obtain ⟨lo3,hi3⟩:0<=a3/\a3<=255:=bounds_u8 w3;obtain ⟨a4,rfl,rfl,rfl,w4⟩:=open_int Tryz.underlying5 (hval 4 5 v4 rfl rfl) h4;obtain ⟨lo4,hi4⟩:0<=a4/\a4<=255:=bounds_u8 w4;have s0:a0.data.toList.length<=140737488351232:=sized_string hsz (j:=0) (t:=9) rfl rfl;clear hA0;obtain ⟨mx,hmx⟩:=Qsp hSh;refine (Qhk a0.data.toList a1 v1 a2 a3 a4 mx W s1 lo3 hi3 lo4 hi4 (by have:=s0;omega) (Qso hL hmx)).mono fun e W' ⟨he,bel⟩=>?_;subst he;exact ⟨_,rfl,_,_,_,[],_,[],hW',trodAll_mk1 (shut_bool Tryz.underlying4 _),(trodAll_cons_mk (Below.trod QaS (by kernel_rfl) (of_decide_eq_true (by kernel_rfl)) k0 bel lt0) (trodAll_cons_mk (Below.trod QaS (by kernel_rfl) (of_decide_eq_true (by kernel_rfl)) k1 bel lt1) (trodAll_cons_mk (Below.trod QaS (by kernel_rfl) (of_decide_eq_true (by kernel_rfl)) k2 bel lt2) (trodAll_cons_mk (Below.trod QaS (by kernel_rfl) (of_decide_eq_true (by kernel_rfl)) k3 bel lt3) (trodAll_cons_mk (Below.trod QaS (by kernel_rfl) (of_decide_eq_true (by kernel_rfl)) k4 bel lt4) trodAll_mk0))))),rfl,bel.frame _,fun h=>by cases h⟩
theorem Qdi (os:Os):laidMetH Tryz.prog Rows.tablecodeDisassemblesRow.laid ((World.laidAll Tryz.prog os Rows.tablecodeDisassemblesRow.laid).forCall (fun _ _=>0) ⟨#[],#[.string ByteArray.empty,.slice none 0 0,.int .i64 0,.int .u8 0,.int .u8 0],[]⟩).memory:=by
 rw [MakeChecks.laidMetH_plain _ _ _ (by kernel_rfl)];exact laidMet_laidAll _ (by kernel_rfl) (by kernel_rfl)
theorem QdK (os:Os) {H:Type} (enc:TypeId×Value->H):∃ places,DataW.whole enc Tryz.prog ((World.laidAll Tryz.prog os Rows.tablecodeDisassemblesRow.laid).forCall (fun _ _=>0) ⟨#[],#[.string ByteArray.empty,.slice none 0 0,.int .i64 0,.int .u8 0,.int .u8 0],[]⟩).memory Tryz.f7.params.toList Rows.tablecodeDisassemblesSpec.vars false (#[.string ByteArray.empty,.slice none 0 0,.int .i64 0,.int .u8 0,.int .u8 0]:Array Value).toList 8=some ([.lit (.string []),.nil,.lit (.int .i64 0),.lit (.int .u8 0),.lit (.int .u8 0)],[],places) :=
 ⟨[],by kernel_rfl⟩
set_option maxRecDepth 100000 in
theorem QdB (os:Os) (started:os.Started) (H:Type) (enc:TypeId×Value->H) (F:Stop.Interp) :
  ReturnsInHanded {} Tryz.checked os 7 .any ((OpenSpec.ofChange Rows.tablecodeDisassemblesSpec).preRow enc Tryz.prog Tryz.f7 Rows.tablecodeDisassemblesRow.domain false Rows.tablecodeDisassemblesRow.laid) (((OpenSpec.ofChange Rows.tablecodeDisassemblesSpec).at F).post enc Tryz.prog Tryz.f7 false true false false):=by
 obtain ⟨places,hx⟩:=QdK os enc;refine returnsInHanded_of_row (C:=Tryz.checked) (s:=OpenSpec.ofChange Rows.tablecodeDisassemblesSpec) Qed started (by kernel_rfl) Tryz.func7
  (witness_row_atRef (enc:=enc) (C:=Tryz.checked) false (World.laidAll Tryz.prog os Rows.tablecodeDisassemblesRow.laid) #[.string ByteArray.empty,.slice none 0 0,.int .i64 0,.int .u8 0,.int .u8 0] (World.laidAll_os _ _ _) (by kernel_rfl) (by kernel_rfl) (by kernel_rfl)
   (OpenSpec.preRow_of_cond 8 hx (by kernel_rfl) (fun k hk=>by cases hk) (by kernel_rfl) (Qdi os))) ?_
 intro W base args ds gs before hval hW _ _ hsz hL hSh _;exact Qdh H enc W base args ds gs before hval hW hL hSh hsz
theorem QeA:(Tryz.prog.closure 7).contains 43=true:=by kernel_rfl
theorem QdL:(((Tryz.prog.funcs[43]?).elim [] Tryz.prog.leadsTo).contains 43)=true:=by kernel_rfl
theorem QdM:(Tryz.prog.closure 43).contains 43=true:=by kernel_rfl
theorem Qee:Tryz.pinned.checked.prog.recurses 7=true:=by
 show Tryz.prog.recurses 7=true;unfold Program.recurses;rw [Bool.or_eq_true];exact .inr (List.any_eq_true.2 ⟨43,List.contains_iff_mem.1 QeA,List.any_eq_true.2 ⟨43,List.contains_iff_mem.1 QdL,QdM⟩⟩)
theorem QdC:joinedFacts Tryz.pinned.checked.prog 7 Tryz.f7 (OpenSpec.ofChange Rows.tablecodeDisassemblesSpec).bare Rows.tablecodeDisassemblesRow=true:=by
 unfold joinedFacts;rw [Qee]
 kernel_rfl
theorem Qea:Rows.TablecodeDisassemblesSaid :=
 OpenClaim.holds_of_cond 7 Tryz.f7 rfl rfl rfl rfl rfl rfl rfl ⟨rfl,rfl,rfl,rfl,rfl⟩ rfl rfl rfl rfl rfl (by kernel_rfl) Tryz.func7 QdC
  (of_decide_eq_true (by kernel_rfl)) (by unfold Func.isWrapper;first|(rw [if_pos (by decide +kernel)];kernel_rfl)|(rw [if_neg (by decide +kernel)];exact ⟨rfl,rfl⟩))
  (fun os started H enc _ F=>by rw [OpenClaim.pre_eq_preRow];exact QdB os started H enc F)
theorem QdN (f : FuncId) (fn : Func) (hf : Tryz.pinned.checked.prog.funcNamed "platformfw/platformfwlaw06.TablecodeDisassembles" = some f) (hfn : Tryz.pinned.checked.prog.funcs[f]? = some fn) :
  false=Tryz.pinned.checked.prog.looks []/\∀ (j:Nat) t,fn.params[j]?=some t->Tryz.pinned.checked.prog.wantsStandIn t=false:=by
 obtain rfl : f = 7 := Option.some.inj ((show Tryz.prog.funcNamed "platformfw/platformfwlaw06.TablecodeDisassembles" = some 7 by kernel_rfl).symm.trans hf) |>.symm
 obtain rfl:fn=Tryz.f7:=(Option.some.inj (Tryz.func7.symm.trans hfn)).symm;refine ⟨by kernel_rfl,fun j t ht=>?_⟩;rw [Tryz.params7] at ht;have hm:t∈[9,22,3,5,5]:=by simpa using Array.mem_of_getElem? ht
 have hall:([9,22,3,5,5].all fun u=>!Tryz.prog.wantsStandIn u)=true:=by kernel_rfl
 exact (show Tryz.prog.wantsStandIn t=false by simpa using List.all_eq_true.1 hall t hm)
theorem tablecodeDisassembles_card:Rows.TablecodeDisassemblesCardSaid :=
 Claim7.holds_tied_plain_at .later [] _ _ _ _ Qea (fun _ h=>by cases h) (by kernel_rfl) (fun _ h=>by cases h) tablecodeDisassembles_row_tie rfl ⟨rfl,rfl⟩ (by kernel_rfl) rfl QdN (by kernel_rfl)
#print axioms tablecodeDisassembles_card
end Go.Proofs.YtoohondkpddmcaaGreatDoor
