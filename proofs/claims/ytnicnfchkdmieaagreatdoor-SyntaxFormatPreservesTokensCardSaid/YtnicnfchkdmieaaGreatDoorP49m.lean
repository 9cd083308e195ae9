/- SyntaxFormatPreservesTokens: for every input the statement's function returns true, without a panic, and each argument reads afterwards as before; the listed package variables read as the card's tie lays them. -/
import Derived.Test.YtnicnfchkdmieaaGreatDoorXby
import Derived.Test.YtnicnfchkdmieaaGreatDoorXbz
import Derived.Test.YtnicnfchkdmieaaGreatDoorCards
import Derived.Test.YtnicnfchkdmieaaGreatDoorTie
import Derived.WalkKit
import Derived.ProofKit
import Derived.OpenShut
import Derived.ShutString
import Derived.SizedLaws
import Derived.ChangeOld
import Derived.Below
import Derived.LaidMore
import Derived.Lay
import Derived.SevenTiedAt
import Derived.Stop.Joined
import Derived.Deep.DeepHandedRow
import Derived.Deep.DeepWitnessRowRef
set_option linter.unusedVariables false
set_option linter.unusedSimpArgs false
namespace Go.Proofs.YtnicnfchkdmieaaGreatDoor
open Go.ChangeShapes Go.WideShapes Go.ChangeAt Go.RowKit
open Go.ChangeMaps (open_string shut_string)
theorem syntaxFormatPreservesTokens_own : ownKnob Tryz.prog.godebug = none:=by kernel_rfl
theorem syntaxFormatPreservesTokens_laidOut : laidOutB Tryz.prog = true:=by kernel_rfl
set_option maxRecDepth 100000 in
theorem syntaxFormatPreservesTokens_contract (H : Type) (enc : TypeId × Value → H) (W : World) (base : Nat) (args : Array Value) (ds gs : List (DataW H)) (before : List MemPlace)
  (hval : ∀ (j : Nat) t v,Tryz.f8.params[j]? = some t → args[j]? = some v → Value.okWide Tryz.prog W .any base t v)
  (hW : DataW.Whole enc Tryz.prog Tryz.f8.params.toList Rows.syntaxFormatPreservesTokensSpec.vars false W args.toList ds gs before) (hL : laidMetH Tryz.prog Rows.syntaxFormatPreservesTokensRow.laid W) (hSh : W.ShapedOpen Tryz.prog)
  (hsz : (DataW.weightsEach Tryz.prog (Tryz.f8.params.toList ++ Rows.syntaxFormatPreservesTokensSpec.plain.varTypes Tryz.prog) (ds ++ gs)).all (· ≤ reachBytes) = true) :
  Calls Tryz.prog 8 args W fun e W' => ∃ v,e = .returned v ∧ Rows.syntaxFormatPreservesTokensSpec.post enc Tryz.prog Tryz.f8 false true false false W args v W':=by
 have hW':=hW
 obtain ⟨p,q,hA0,hV,rfl,hfz,hnd⟩:=hW
 have hA : DataW.TrodAll enc Tryz.prog W 0 (fun _ => true) true Tryz.f8.params.toList args.toList ds p:=hA0
 rw [Tryz.params8] at hA hval hsz
 obtain ⟨v0,vs0,d0,ds0,p0,q0,hargs,rfl,rfl,h0,r0⟩:=trodAll_cons hA
 obtain ⟨v1,vs1,d1,ds1,p1,q1,rfl,rfl,rfl,h1,r1⟩:=trodAll_cons r0
 obtain ⟨rfl,rfl,rfl⟩:=trodAll_nil r1
 obtain rfl : args = #[v0,v1]:=by cases args; simp_all
 obtain ⟨rfl,rfl⟩:=trodVars_none hV
 have k0:=h0
 have lt0 : ∀ x ∈ p0,x.block < W.heap.size:=by obtain ⟨m,hm⟩:=k0; exact DataW.trod_lt m _ _ _ hm
 have k1:=h1
 have lt1 : ∀ x ∈ p1,x.block < W.heap.size:=by obtain ⟨m,hm⟩:=k1; exact DataW.trod_lt m _ _ _ hm
 have sz0:=sized_each hsz (j:=0) (t:=27) rfl rfl
 obtain ⟨a0,s0⟩:=open_intsA (hval 0 27 v0 rfl rfl) h0 sz0
 have sz1:=sized_each hsz (j:=1) (t:=22) rfl rfl
 obtain ⟨a1,s1⟩:=open_bytesA (hval 1 22 v1 rfl rfl) h1 sz1
 clear hA0
 obtain ⟨mx,hmx⟩:=max_cell hSh
 refine (law_preserves a0 v0 a1 v1 mx W s0 s1 (laid_syn hL hmx) (laid_tz hL)).mono fun e W' ⟨he,bel⟩ => ?_
 subst he
 exact ⟨_,rfl,_,_,_,[],_,[],hW',trodAll_mk1 (shut_bool Tryz.underlying4 _),(trodAll_cons_mk (Below.trod syntaxFormatPreservesTokens_laidOut (by kernel_rfl) (of_decide_eq_true (by kernel_rfl)) k0 bel lt0) (trodAll_cons_mk (Below.trod syntaxFormatPreservesTokens_laidOut (by kernel_rfl) (of_decide_eq_true (by kernel_rfl)) k1 bel lt1) trodAll_mk0)),rfl,bel.frame _,fun h => by cases h⟩
theorem syntaxFormatPreservesTokens_laid_met (os : Os) : laidMetH Tryz.prog Rows.syntaxFormatPreservesTokensRow.laid ((World.laidAll Tryz.prog os Rows.syntaxFormatPreservesTokensRow.laid).forCall (fun _ _ => 0) ⟨#[],#[.slice none 0 0,.slice none 0 0],[]⟩).memory:=by
 rw [MakeChecks.laidMetH_plain _ _ _ (by kernel_rfl)]
 exact laidMet_laidAll _ (by kernel_rfl) (by kernel_rfl)
theorem syntaxFormatPreservesTokens_reads (os : Os) {H : Type} (enc : TypeId × Value → H) : ∃ places,DataW.whole enc Tryz.prog ((World.laidAll Tryz.prog os Rows.syntaxFormatPreservesTokensRow.laid).forCall (fun _ _ => 0) ⟨#[],#[.slice none 0 0,.slice none 0 0],[]⟩).memory Tryz.f8.params.toList Rows.syntaxFormatPreservesTokensSpec.vars false (#[.slice none 0 0,.slice none 0 0] : Array Value).toList 8 = some ([.nil,.nil],[],places) :=
 ⟨[],by kernel_rfl⟩
set_option maxRecDepth 100000 in
theorem syntaxFormatPreservesTokens_lifted (os : Os) (started : os.Started) (H : Type) (enc : TypeId × Value → H) (F : Stop.Interp) :
  ReturnsInHanded {} Tryz.checked os 8 .any ((OpenSpec.ofChange Rows.syntaxFormatPreservesTokensSpec).preRow enc Tryz.prog Tryz.f8 Rows.syntaxFormatPreservesTokensRow.domain false Rows.syntaxFormatPreservesTokensRow.laid) (((OpenSpec.ofChange Rows.syntaxFormatPreservesTokensSpec).at F).post enc Tryz.prog Tryz.f8 false true false false):=by
 obtain ⟨places,hx⟩:=syntaxFormatPreservesTokens_reads os enc
 refine returnsInHanded_of_row (C:=Tryz.checked) (s:=OpenSpec.ofChange Rows.syntaxFormatPreservesTokensSpec) syntaxFormatPreservesTokens_own started (by kernel_rfl) Tryz.func8
  (witness_row_atRef (enc:=enc) (C:=Tryz.checked) false (World.laidAll Tryz.prog os Rows.syntaxFormatPreservesTokensRow.laid) #[.slice none 0 0,.slice none 0 0] (World.laidAll_os _ _ _) (by kernel_rfl) (by kernel_rfl) (by kernel_rfl)
   (OpenSpec.preRow_of_cond 8 hx (by kernel_rfl) (fun k hk => by cases hk) (by kernel_rfl) (syntaxFormatPreservesTokens_laid_met os))) ?_
 intro W base args ds gs before hval hW _ _ hsz hL hSh _
 exact syntaxFormatPreservesTokens_contract H enc W base args ds gs before hval hW hL hSh hsz
theorem syntaxFormatPreservesTokens_said : Rows.SyntaxFormatPreservesTokensSaid :=
 OpenClaim.holds_of_cond 8 Tryz.f8 rfl rfl rfl rfl rfl rfl rfl ⟨rfl,rfl,rfl,rfl,rfl⟩ rfl rfl rfl rfl rfl (by kernel_rfl) Tryz.func8 (by kernel_rfl)
  (of_decide_eq_true (by kernel_rfl)) (by unfold Func.isWrapper; first | (rw [if_pos (by decide +kernel)]; kernel_rfl) | (rw [if_neg (by decide +kernel)]; exact ⟨rfl,rfl⟩))
  (fun os started H enc _ F => by rw [OpenClaim.pre_eq_preRow]; exact syntaxFormatPreservesTokens_lifted os started H enc F)
theorem syntaxFormatPreservesTokens_plain (f : FuncId) (fn : Func) (hf : Tryz.pinned.checked.prog.funcNamed "platformfw/platformfwlaw03.SyntaxFormatPreservesTokens" = some f) (hfn : Tryz.pinned.checked.prog.funcs[f]? = some fn) :
  false = Tryz.pinned.checked.prog.looks [] ∧ ∀ (j : Nat) t,fn.params[j]? = some t → Tryz.pinned.checked.prog.wantsStandIn t = false:=by
 obtain rfl : f = 8 := Option.some.inj ((show Tryz.prog.funcNamed "platformfw/platformfwlaw03.SyntaxFormatPreservesTokens" = some 8 by kernel_rfl).symm.trans hf) |>.symm
 obtain rfl : fn = Tryz.f8:=(Option.some.inj (Tryz.func8.symm.trans hfn)).symm
 refine ⟨by kernel_rfl,fun j t ht => ?_⟩
 rw [Tryz.params8] at ht
 have hm : t ∈ [27,22]:=by simpa using Array.mem_of_getElem? ht
 have hall : ([27,22].all fun u => !Tryz.prog.wantsStandIn u) = true:=by kernel_rfl
 exact (show Tryz.prog.wantsStandIn t = false by simpa using List.all_eq_true.1 hall t hm)
theorem syntaxFormatPreservesTokens_card : Rows.SyntaxFormatPreservesTokensCardSaid :=
 Claim7.holds_tied_plain_at .later [] _ _ _ _ syntaxFormatPreservesTokens_said (fun _ h => by cases h) (by kernel_rfl) (fun _ h => by cases h) syntaxFormatPreservesTokens_row_tie rfl ⟨rfl,rfl⟩ (by kernel_rfl) rfl syntaxFormatPreservesTokens_plain (by kernel_rfl)
#print axioms syntaxFormatPreservesTokens_card
end Go.Proofs.YtnicnfchkdmieaaGreatDoor
