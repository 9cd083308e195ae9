/- Pn Jh Ha -/
import Derived.Test.YtnicnfchkdmieaaGreatDoorXbv
import Derived.Test.YtnicnfchkdmieaaGreatDoorXbl
import Derived.Test.YtnicnfchkdmieaaGreatDoorXbq
import Derived.Test.YtnicnfchkdmieaaGreatDoorXbb
import Derived.Test.YtnicnfchkdmieaaGreatDoorXam
import Derived.Test.YtnicnfchkdmieaaGreatDoorXaz
set_option linter.unusedVariables false
set_option linter.unusedSimpArgs false
namespace Go.Proofs.YtnicnfchkdmieaaGreatDoor
section
open Go.RowKit
attribute [local go_sem] ByteArray.mk_append_mk bs_get bs_cut bs_end
def ProgPost (w : World) (e : Ending) (w' : World) : Prop:=∃ v ns,e = .returned v ∧ NodesI w' w.heap.size v ns ∧ (∀ t ∈ ns,NdG t) ∧ (validL ns = true ∧ For6 ns) ∧ Below w.heap.size w w'
theorem NodesI.keepC {w w' : World} {B C : Nat} {v : Value} {ns : List Nd} (h : NodesI w B v ns) (hC : CSt w C) (hk : Keep C w w') : NodesI w' B v ns:=by
 obtain ⟨a,cap,i,l,hc,_⟩:=hC
 exact own_grown h hk (fun g hg e => own_ch h hc (by rw [hg,e]))
theorem NodesI.slG {w : World} {B : Nat} {v : Value} {l : List Nd} (h : NodesI w B v l) (hs : ∀ t ∈ l,NdG t) : NSl w v l:=h.sl (fun t ht => ⟨by have:=(hs t ht).1; omega,(hs t ht).2.1⟩)
set_option maxRecDepth 100000 in
set_option maxHeartbeats 8000000 in
theorem program_any (v0 : Value) (l : List Int) (w : World) (h : IArg w v0 l) :
  Calls Tryz.prog 13 #[v0] w (ProgPost w):=by
 have HNW:=Lib.hid (new_any v0 l w h)
 obtain ⟨a0,cap0,rfl,_⟩:=h
 obtain ⟨C,hCe⟩ : ∃ C,w.heap.size = C:=⟨_,rfl⟩
 unfold ProgPost
 rw [hCe] at HNW
 rw [hCe]
 clear hCe
 go_enter Tryz.func13,Tryz.ntmps13
 go_wp2_with fail
 ((with_reducible refine HNW.out.mono ?_))
 rintro e w1 ⟨rfl,hc1,hb1⟩
 have HC1:=Lib.hid hc1
 have HB1:=Lib.hid hb1
 have HN:=Lib.hid (next_any C 5 w1 hc1 (by omega) (by omega))
 have hCP : C < w1.heap.size:=hc1.lt
 clear hc1 hb1 HNW
 go_wp2_with fail
 ((with_reducible refine HN.out.mono ?_))
 rintro e w2 ⟨k2,rfl,hk2,hc2,hkk2⟩
 have HK2:=Lib.hid hkk2
 have HC2:=Lib.hid hc2
 have hk2' : (k2 : Int) < 5:=hk2
 clear hc2 hkk2 HN
 have HDE:=Lib.hid (decl_2 C)
 unfold DeclOk at HDE
 go_wp2_with fail
 go_loopw [4,5] (fun x i wr => ∃ (v : Value) (ns : List Nd) (q : Nat),v = x ∧ i = .int .i64 q ∧ q ≤ 5 ∧ ns.length ≤ (5 - q) * 54533 ∧ Hid (NodesI wr w1.heap.size v ns) ∧ Hid (∀ t ∈ ns,NdG t) ∧ Hid (For6 ns) ∧ Hid (CSt wr C) ∧ Hid (Keep C w1 wr)) (fun _ i _ => (intOf i).toNat)
 case atStart => exact ⟨_,[],k2 + 1,rfl,by go_num,by omega,by simp,Lib.hid (NodesI.nil _ _),Lib.hid (by intro t ht; cases ht),Lib.hid For6.nil,HC2,HK2⟩
 case round =>
  clear HC2 HK2 HC1
  obtain ⟨v,ns,q,rfl,rfl,hq,hnl,HR,HG,HFO,HC,HK⟩:=hrel
  obtain ⟨w3,rfl⟩ : ∃ y : World,y = wr:=⟨_,rfl⟩
  by_cases hq0 : 0 < q
  ·have hq1 : (0 : Int) < (q : Int):=by omega
   have HLF:=Lib.hid (left_any C w3 HC.out)
   go_wp2_with fail
   ((with_reducible refine HLF.out.mono ?_))
   rintro e w4 ⟨lb,rfl,hc4,hkk4⟩
   have HR4:=Lib.hid (HR.out.keepC HC.out hkk4)
   have HK4:=Lib.hid (HK.out.trans hkk4)
   have HC4:=Lib.hid hc4
   clear hc4 hkk4 HR HK HC HLF
   cases lb with
   | false =>
     have HB9 : Hid (Below C w w4):=Lib.hid (HB1.out.trans (HK4.out.below (Nat.le_of_lt hCP) (Nat.le_refl _)))
     obtain ⟨vb,hvb⟩ : ∃ vb,Hid (validL ns = vb):=⟨_,Lib.hid rfl⟩
     have HVL:=Lib.hid (rvalid_is ns (fun t ht => by have:=(HG.out t ht).1; omega) vb hvb v w4 (HR4.out.slG HG.out) (by omega))
     obtain ⟨av,cv,rfl⟩:=HR4.out.form
     have hsz9 : C ≤ w4.heap.size:=Nat.le_trans (Nat.le_of_lt hCP) HK4.out.size
     cases vb with
     | true =>
       go_wp2_with fail
       ((with_reducible refine HVL.out.mono ?_))
       rintro e w9 ⟨rfl,hb9⟩
       have HR9:=Lib.hid ((HR4.out.below hb9).base (B':=C) (by omega))
       have HB10:=Lib.hid (HB9.out.trans (hb9.mono hsz9))
       clear hb9
       go_wp2_with fail
       go_ret
       exact ⟨_,ns,rfl,HR9.out,HG.out,⟨hvb.out,HFO.out⟩,HB10.out⟩
     | false =>
       go_wp2_with fail
       ((with_reducible refine HVL.out.mono ?_))
       rintro e w9 ⟨rfl,hb9⟩
       have HB10:=Lib.hid (HB9.out.trans (hb9.mono hsz9))
       clear hb9
       go_wp2_with fail
       go_ret
       exact ⟨_,[],rfl,NodesI.nil _ _,(by intro t ht; cases ht),⟨by decide,For6.nil⟩,HB10.out⟩
   | true =>
     have HDD:=Lib.hid (HDE.out w4 HC4.out)
     unfold GPost at HDD
     go_wp2_with fail
     ((with_reducible refine HDD.out.mono ?_))
     rintro e w5 ⟨v5,rfl,hv5,hc5,hk5⟩
     have HR5:=Lib.hid (HR4.out.keepC HC4.out hk5)
     have HK5:=Lib.hid (HK4.out.trans hk5)
     have HC5:=Lib.hid hc5
     obtain ⟨l2,j1,j2,j3,_,j5⟩:=hv5
     have HFO6:=Lib.hid (HFO.out.snoc (j5.mono (dpN_le _)))
     have HY:=Lib.hid j1
     have HG2:=Lib.hid j2
     have hsz : w1.heap.size ≤ w5.heap.size:=HK5.out.size
     clear hc5 hk5 j1 j2 j5 HFO HR4 HK4 HC4 HDD
     go_wp2_with (at_builtin; refine wpList_append_nodes rfl _ _ rfl w1.heap.size v ns rfl HR5.out _ v5 l2 rfl HY.out (by omega) hsz ?_; intro v6 w6 ho hg; have HO:=Lib.hid ho; have HGR:=Lib.hid hg; clear ho hg)
     have HC6:=Lib.hid (HC5.out.grown HGR.out (fun g h => by have:=own_row HR5.out h; omega))
     have HK6:=Lib.hid (HK5.out.grown HGR.out (fun g h => own_row HR5.out h))
     have HG6 : Hid (∀ t ∈ ns ++ l2,NdG t):=Lib.hid (fun t ht => by
      rcases List.mem_append.1 ht with h | h
      ·exact HG.out t h
      ·exact HG2.out t h)
     have hln : (ns ++ l2).length ≤ (5 - (q - 1)) * 54533:=by rw [List.length_append]; omega
     clear HGR HY HR5 HC5 HK5 HG HG2
     go_wp2_with fail
     go_roundw
     case rel => first | exact ⟨ns ++ l2,q - 1,by go_num,by omega,hln,HO,HG6,HFO6,HC6,HK6⟩ | exact ⟨_,ns ++ l2,q - 1,rfl,by go_num,by omega,hln,HO,HG6,HFO6,HC6,HK6⟩
     case measure => simp [intOf]; omega
  ·have hq1 : ¬ (0 : Int) < (q : Int):=by omega
   have HB9 : Hid (Below C w w3):=Lib.hid (HB1.out.trans (HK.out.below (Nat.le_of_lt hCP) (Nat.le_refl _)))
   obtain ⟨vb,hvb⟩ : ∃ vb,Hid (validL ns = vb):=⟨_,Lib.hid rfl⟩
   have HVL:=Lib.hid (rvalid_is ns (fun t ht => by have:=(HG.out t ht).1; omega) vb hvb v w3 (HR.out.slG HG.out) (by omega))
   obtain ⟨av,cv,rfl⟩:=HR.out.form
   have hsz9 : C ≤ w3.heap.size:=Nat.le_trans (Nat.le_of_lt hCP) HK.out.size
   cases vb with
   | true =>
     go_wp2_with fail
     ((with_reducible refine HVL.out.mono ?_))
     rintro e w9 ⟨rfl,hb9⟩
     have HR9:=Lib.hid ((HR.out.below hb9).base (B':=C) (by omega))
     have HB10:=Lib.hid (HB9.out.trans (hb9.mono hsz9))
     clear hb9
     go_wp2_with fail
     go_ret
     exact ⟨_,ns,rfl,HR9.out,HG.out,⟨hvb.out,HFO.out⟩,HB10.out⟩
   | false =>
     go_wp2_with fail
     ((with_reducible refine HVL.out.mono ?_))
     rintro e w9 ⟨rfl,hb9⟩
     have HB10:=Lib.hid (HB9.out.trans (hb9.mono hsz9))
     clear hb9
     go_wp2_with fail
     go_ret
     exact ⟨_,[],rfl,NodesI.nil _ _,(by intro t ht; cases ht),⟨by decide,For6.nil⟩,HB10.out⟩
end
section
open Go.RowKit
attribute [local go_sem] ByteArray.mk_append_mk bs_get bs_cut bs_end
theorem Tz16.bel {w w' : World} (h : Tz16 w) (hb : Below w.heap.size w w') : Tz16 w':=h.below hb (World.block_lt_of_cell? w _ h)
theorem SynG.bel {m : Int} {w w' : World} (h : SynG m w) (hb : Below w.heap.size w w') : SynG m w':=h.below hb h.low
end
section
open Go.RowKit
attribute [local go_sem] ByteArray.mk_append_mk bs_get bs_cut bs_end
def wordsP : Bool → List TokI → PT
 | _,[] => []
 | first,t :: r => ((if first = true then [] else [32]),t) :: wordsP false r
theorem words_ln : ∀ (M : List TokI) (first : Bool),(∀ t ∈ M,(fmtT t).length ≤ 65536) → (textP (wordsP first M)).length ≤ 65537 * M.length
 | [],first,h => by rw [wordsP]; simp [textP_nil]
 | t :: r,first,h => by
   rw [wordsP,textP_cons,List.length_append,List.length_append,List.length_cons]
   have h1:=h t (by simp)
   have h2:=words_ln r false (fun x hx => h x (by simp [hx]))
   have h3 : (if first = true then ([] : List UInt8) else [32]).length ≤ 1:=by split <;> simp
   show (if first = true then ([] : List UInt8) else [32]).length + ((fmtT t).length + (textP (wordsP false r)).length) ≤ _
   omega
theorem TSl.belowB {w w' : World} {v : Value} {l : List TokI} (h : TSl w v l) (hb : Below w.heap.size w w') : TSl w' v l:=by
 obtain ⟨a,cap,hv,hc⟩:=h
 refine ⟨a,cap,hv,fun hn => ?_⟩
 obtain ⟨b,off,ha,hk⟩:=hc hn
 exact ⟨b,off,ha,fun i hi => (hk i hi).below hb⟩
set_option maxRecDepth 100000 in
set_option maxHeartbeats 16000000 in
theorem rtoks_any (M : List TokI) (v : Value) (w : World) (hv : TSl w v M) (hok : ∀ t ∈ M,OkT t ∧ t.str.length ≤ 65536) (hl : M.length ≤ 70000) :
  Calls Tryz.prog 15 #[v] w fun e w' => e = .returned (.string ⟨(textP (wordsP true M)).toArray⟩) ∧ Below w.heap.size w w':=by
 obtain ⟨T,hT⟩ : ∃ T,textP (wordsP true M) = T:=⟨_,rfl⟩
 have HTL : Hid (T.length ≤ 1000000000000):=Lib.hid (by
  rw [← hT]
  have:=words_ln M true (fun t ht => okT_len (hok t ht).1 (hok t ht).2)
  omega)
 have HT0 : Hid ([] ++ textP (wordsP true M) = T):=Lib.hid (by rw [List.nil_append]; exact hT)
 have HV:=Lib.hid hv
 have HOK:=Lib.hid hok
 have HL0:=Lib.hid hl
 obtain ⟨a,cap,rfl,hc⟩:=hv
 rw [hT]
 obtain ⟨L,hL⟩ : ∃ L,M.length = L:=⟨_,rfl⟩
 have HL:=Lib.hid hL
 rw [hL] at HV hl ⊢
 clear hc hT hok hL
 go_enter Tryz.func15,Tryz.ntmps15
 go_wp2_with fail
 go_loopw [3,4] (fun z i wr => ∃ (k : Nat) (x : List UInt8),z = .string ⟨x.toArray⟩ ∧ i = .int .i64 k ∧ k ≤ L ∧ Hid (x ++ textP (wordsP (decide (k = 0)) (M.drop k)) = T) ∧ Hid (TSl wr (.slice a L cap) M) ∧ Hid (Below w.heap.size w wr)) (fun _ i _ => L - (intOf i).toNat)
 case atStart => exact ⟨0,[],rfl,rfl,by omega,HT0,HV,Lib.hid (Below.refl _ _)⟩
 case round =>
  clear HT0 HV
  obtain ⟨k,x,rfl,rfl,hk,HEQ,HV,HB⟩:=hrel
  obtain ⟨w1,rfl⟩ : ∃ y : World,y = wr:=⟨_,rfl⟩
  by_cases hlt : k < L
  ·have hlt' : (k : Int) < (L : Int):=by omega
   have hkm : k < M.length:=by rw [HL.out]; exact hlt
   obtain ⟨t,ht⟩ : ∃ t,M[k] = t:=⟨_,rfl⟩
   have hmem : t ∈ M:=by rw [← ht]; exact List.getElem_mem hkm
   obtain ⟨⟨hvt,hn0,hn1⟩,hst⟩:=HOK.out t hmem
   have hdk : M.drop k = t :: M.drop (k + 1):=by rw [List.drop_eq_getElem_cons hkm,ht]
   obtain ⟨R,hR⟩ : ∃ R,textP (wordsP false (M.drop (k + 1))) = R:=⟨_,rfl⟩
   have HR : Hid (textP (wordsP (decide (k + 1 = 0)) (M.drop (k + 1))) = R):=Lib.hid (by rw [show decide (k + 1 = 0) = false from decide_eq_false (by omega)]; exact hR)
   have KV:=Lib.hid (fun w => rvalidT_any t w (by omega))
   rw [hvt] at KV
   have HCL : Hid (∀ w',Below w1.heap.size w1 w' → ∃ b off,a = some ⟨b,off,none⟩ ∧ TAtK w' b (off + k * 4) t):=Lib.hid (fun w' hb => by
    obtain ⟨a',cap',e,hc⟩:=HV.out.belowB hb
    injection e with e1 _ _
    subst e1
    obtain ⟨b,off,ha,hkk⟩:=hc (by rintro rfl; simp at hkm)
    have:=hkk k hkm
    rw [ht] at this
    exact ⟨b,off,ha,this⟩)
   obtain ⟨b,off,rfl,c0,c1,c2,c3⟩:=HCL.out w1 (Below.refl _ _)
   have hE0:=HEQ.out
   rw [hdk,wordsP,textP_cons,hR] at hE0
   obtain ⟨tk,tn,ts,tp⟩:=t
   simp only at c0 c1 c2 c3 hn0 hn1 hst
   obtain ⟨N,rfl⟩:=Int.eq_ofNat_of_zero_le hn0
   have hks : tk = 1 ∨ tk = 2 ∨ tk = 3 ∨ tk = 4 ∨ tk = 5 ∨ tk = 6 ∨ tk = 7 ∨ tk = 8 ∨ tk = 9:=by
    unfold validT at hvt
    simp only at hvt
    split at hvt
    ·omega
    split at hvt
    ·omega
    split at hvt
    ·omega
    ·have:=of_decide_eq_true hvt; omega
   have HNB:=Lib.hid hn1
   have HST:=Lib.hid hst
   have HVT:=Lib.hid hvt
   unfold TokI.val at KV
   simp only [tokV] at KV
   clear HEQ hdk hR hvt ht hmem hkm hn0 hn1 hst
   by_cases hk0 : k = 0
   ·have hk00 : ¬ (k : Int) > 0:=by omega
    rw [show decide (k = 0) = true from decide_eq_true hk0,if_pos rfl] at hE0
    clear hk0
    rcases hks with rfl | rfl | rfl | rfl | rfl | rfl | rfl | rfl | rfl
    ·have HEQ1 : Hid (x ++ ts ++ R = T):=Lib.hid (by rw [← hE0]; unfold fmtT; simp)
     have hxl : x.length + 70000 + 1000 ≤ 2000000000000:=by have h1:=HTL.out; have h2:=congrArg List.length HEQ1.out; simp only [List.length_append,List.length_cons,List.length_nil] at h1 h2; omega
     have hsl : ts.length ≤ 65536:=HST.out
     clear hE0
     go_wp2_with fail
     ((with_reducible refine (KV.out _).mono ?_))
     rintro e w2 ⟨rfl,hb⟩
     have HB2:=Lib.hid (bel_then HB.out (Nat.le_refl _) hb)
     have HV2:=Lib.hid (HV.out.belowB hb)
     obtain ⟨b',off',hbo,d0,d1,d2,d3⟩:=HCL.out w2 hb
     injection hbo with hbo
     injection hbo with hb1 hb2 _
     subst hb1 hb2
     simp only at d0 d1 d2 d3
     clear hb c0 c1 c2 c3 HCL
     go_wp2_with fail
     go_roundw
     case rel => exact ⟨k + 1,x ++ ts,by simp,by go_num,by omega,Lib.hid (by rw [HR.out]; exact HEQ1.out),HV2,HB2⟩
     case measure => simp [intOf]; omega
    ·have HEQ1 : Hid (x ++ ts ++ R = T):=Lib.hid (by rw [← hE0]; unfold fmtT; simp)
     have hxl : x.length + 70000 + 1000 ≤ 2000000000000:=by have h1:=HTL.out; have h2:=congrArg List.length HEQ1.out; simp only [List.length_append,List.length_cons,List.length_nil] at h1 h2; omega
     have hsl : ts.length ≤ 65536:=HST.out
     clear hE0
     go_wp2_with fail
     ((with_reducible refine (KV.out _).mono ?_))
     rintro e w2 ⟨rfl,hb⟩
     have HB2:=Lib.hid (bel_then HB.out (Nat.le_refl _) hb)
     have HV2:=Lib.hid (HV.out.belowB hb)
     obtain ⟨b',off',hbo,d0,d1,d2,d3⟩:=HCL.out w2 hb
     injection hbo with hbo
     injection hbo with hb1 hb2 _
     subst hb1 hb2
     simp only at d0 d1 d2 d3
     clear hb c0 c1 c2 c3 HCL
     go_wp2_with fail
     go_roundw
     case rel => exact ⟨k + 1,x ++ ts,by simp,by go_num,by omega,Lib.hid (by rw [HR.out]; exact HEQ1.out),HV2,HB2⟩
     case measure => simp [intOf]; omega
    ·have HEQ1 : Hid (x ++ (fmtI N) ++ R = T):=Lib.hid (by rw [← hE0]; unfold fmtT; simp)
     have hxl : x.length + 70000 + 1000 ≤ 2000000000000:=by have h1:=HTL.out; have h2:=congrArg List.length HEQ1.out; simp only [List.length_append,List.length_cons,List.length_nil] at h1 h2; omega
     have KF:=Lib.hid (fun w => fmtI_any N w (Lib.hid (by have:=HNB.out; omega)))
     have hfl:=fmtI_len (v:=N) (by have:=HNB.out; omega)
     obtain ⟨X,hX⟩ : ∃ X,fmtI N = X:=⟨_,rfl⟩
     rw [hX] at KF hfl HEQ1
     clear hX
     clear hE0
     go_wp2_with fail
     ((with_reducible refine (KV.out _).mono ?_))
     rintro e w2 ⟨rfl,hb⟩
     have HB2:=Lib.hid (bel_then HB.out (Nat.le_refl _) hb)
     have HV2:=Lib.hid (HV.out.belowB hb)
     obtain ⟨b',off',hbo,d0,d1,d2,d3⟩:=HCL.out w2 hb
     injection hbo with hbo
     injection hbo with hb1 hb2 _
     subst hb1 hb2
     simp only at d0 d1 d2 d3
     clear hb c0 c1 c2 c3 HCL
     go_wp2_with fail
     ((with_reducible refine (KF.out _).mono ?_))
     rintro e w3 ⟨rfl,rfl⟩
     go_wp2_with fail
     go_roundw
     case rel => exact ⟨k + 1,x ++ X,by simp,by go_num,by omega,Lib.hid (by rw [HR.out]; exact HEQ1.out),HV2,HB2⟩
     case measure => simp [intOf]; omega
    ·have HEQ1 : Hid (x ++ (quoL ts) ++ R = T):=Lib.hid (by rw [← hE0]; unfold fmtT; simp)
     have hxl : x.length + 70000 + 1000 ≤ 2000000000000:=by have h1:=HTL.out; have h2:=congrArg List.length HEQ1.out; simp only [List.length_append,List.length_cons,List.length_nil] at h1 h2; omega
     have KF:=Lib.hid (fun w => quo_any ts w (by have:=HST.out; omega))
     have hfl : (quoL ts).length ≤ 65536:=okT_len (t:=⟨4,(N : Int),ts,tp⟩) ⟨HVT.out,by show (0 : Int) ≤ (N : Int); omega,HNB.out⟩ HST.out
     obtain ⟨X,hX⟩ : ∃ X,quoL ts = X:=⟨_,rfl⟩
     rw [hX] at KF hfl HEQ1
     clear hX
     clear hE0
     go_wp2_with fail
     ((with_reducible refine (KV.out _).mono ?_))
     rintro e w2 ⟨rfl,hb⟩
     have HB2:=Lib.hid (bel_then HB.out (Nat.le_refl _) hb)
     have HV2:=Lib.hid (HV.out.belowB hb)
     obtain ⟨b',off',hbo,d0,d1,d2,d3⟩:=HCL.out w2 hb
     injection hbo with hbo
     injection hbo with hb1 hb2 _
     subst hb1 hb2
     simp only at d0 d1 d2 d3
     clear hb c0 c1 c2 c3 HCL
     go_wp2_with fail
     ((with_reducible refine (KF.out _).mono ?_))
     rintro e w3 ⟨rfl,rfl⟩
     go_wp2_with fail
     go_roundw
     case rel => exact ⟨k + 1,x ++ X,by simp,by go_num,by omega,Lib.hid (by rw [HR.out]; exact HEQ1.out),HV2,HB2⟩
     case measure => simp [intOf]; omega
    ·have HEQ1 : Hid (x ++ [40] ++ R = T):=Lib.hid (by rw [← hE0]; simp [fmtT,punC])
     have hxl : x.length + 70000 + 1000 ≤ 2000000000000:=by have h1:=HTL.out; have h2:=congrArg List.length HEQ1.out; simp only [List.length_append,List.length_cons,List.length_nil] at h1 h2; omega
     clear hE0
     go_wp2_with fail
     ((with_reducible refine (KV.out _).mono ?_))
     rintro e w2 ⟨rfl,hb⟩
     have HB2:=Lib.hid (bel_then HB.out (Nat.le_refl _) hb)
     have HV2:=Lib.hid (HV.out.belowB hb)
     obtain ⟨b',off',hbo,d0,d1,d2,d3⟩:=HCL.out w2 hb
     injection hbo with hbo
     injection hbo with hb1 hb2 _
     subst hb1 hb2
     simp only at d0 d1 d2 d3
     clear hb c0 c1 c2 c3 HCL
     go_wp2_with fail
     go_quiet (fail)
     have HB3:=Lib.hid (below_drewN HB2.out nq)
     have HV3:=Lib.hid (HV2.out.belowB (below_drewN (Below.refl _ _) nq))
     go_wp2_with fail
     go_roundw
     case rel => exact ⟨k + 1,x ++ [40],by simp,by go_num,by omega,Lib.hid (by rw [HR.out]; exact HEQ1.out),HV3,HB3⟩
     case measure => simp [intOf]; omega
    ·have HEQ1 : Hid (x ++ [41] ++ R = T):=Lib.hid (by rw [← hE0]; simp [fmtT,punC])
     have hxl : x.length + 70000 + 1000 ≤ 2000000000000:=by have h1:=HTL.out; have h2:=congrArg List.length HEQ1.out; simp only [List.length_append,List.length_cons,List.length_nil] at h1 h2; omega
     clear hE0
     go_wp2_with fail
     ((with_reducible refine (KV.out _).mono ?_))
     rintro e w2 ⟨rfl,hb⟩
     have HB2:=Lib.hid (bel_then HB.out (Nat.le_refl _) hb)
     have HV2:=Lib.hid (HV.out.belowB hb)
     obtain ⟨b',off',hbo,d0,d1,d2,d3⟩:=HCL.out w2 hb
     injection hbo with hbo
     injection hbo with hb1 hb2 _
     subst hb1 hb2
     simp only at d0 d1 d2 d3
     clear hb c0 c1 c2 c3 HCL
     go_wp2_with fail
     go_quiet (fail)
     have HB3:=Lib.hid (below_drewN HB2.out nq)
     have HV3:=Lib.hid (HV2.out.belowB (below_drewN (Below.refl _ _) nq))
     go_wp2_with fail
     go_roundw
     case rel => exact ⟨k + 1,x ++ [41],by simp,by go_num,by omega,Lib.hid (by rw [HR.out]; exact HEQ1.out),HV3,HB3⟩
     case measure => simp [intOf]; omega
    ·have HEQ1 : Hid (x ++ [123] ++ R = T):=Lib.hid (by rw [← hE0]; simp [fmtT,punC])
     have hxl : x.length + 70000 + 1000 ≤ 2000000000000:=by have h1:=HTL.out; have h2:=congrArg List.length HEQ1.out; simp only [List.length_append,List.length_cons,List.length_nil] at h1 h2; omega
     clear hE0
     go_wp2_with fail
     ((with_reducible refine (KV.out _).mono ?_))
     rintro e w2 ⟨rfl,hb⟩
     have HB2:=Lib.hid (bel_then HB.out (Nat.le_refl _) hb)
     have HV2:=Lib.hid (HV.out.belowB hb)
     obtain ⟨b',off',hbo,d0,d1,d2,d3⟩:=HCL.out w2 hb
     injection hbo with hbo
     injection hbo with hb1 hb2 _
     subst hb1 hb2
     simp only at d0 d1 d2 d3
     clear hb c0 c1 c2 c3 HCL
     go_wp2_with fail
     go_quiet (fail)
     have HB3:=Lib.hid (below_drewN HB2.out nq)
     have HV3:=Lib.hid (HV2.out.belowB (below_drewN (Below.refl _ _) nq))
     go_wp2_with fail
     go_roundw
     case rel => exact ⟨k + 1,x ++ [123],by simp,by go_num,by omega,Lib.hid (by rw [HR.out]; exact HEQ1.out),HV3,HB3⟩
     case measure => simp [intOf]; omega
    ·have HEQ1 : Hid (x ++ [125] ++ R = T):=Lib.hid (by rw [← hE0]; simp [fmtT,punC])
     have hxl : x.length + 70000 + 1000 ≤ 2000000000000:=by have h1:=HTL.out; have h2:=congrArg List.length HEQ1.out; simp only [List.length_append,List.length_cons,List.length_nil] at h1 h2; omega
     clear hE0
     go_wp2_with fail
     ((with_reducible refine (KV.out _).mono ?_))
     rintro e w2 ⟨rfl,hb⟩
     have HB2:=Lib.hid (bel_then HB.out (Nat.le_refl _) hb)
     have HV2:=Lib.hid (HV.out.belowB hb)
     obtain ⟨b',off',hbo,d0,d1,d2,d3⟩:=HCL.out w2 hb
     injection hbo with hbo
     injection hbo with hb1 hb2 _
     subst hb1 hb2
     simp only at d0 d1 d2 d3
     clear hb c0 c1 c2 c3 HCL
     go_wp2_with fail
     go_quiet (fail)
     have HB3:=Lib.hid (below_drewN HB2.out nq)
     have HV3:=Lib.hid (HV2.out.belowB (below_drewN (Below.refl _ _) nq))
     go_wp2_with fail
     go_roundw
     case rel => exact ⟨k + 1,x ++ [125],by simp,by go_num,by omega,Lib.hid (by rw [HR.out]; exact HEQ1.out),HV3,HB3⟩
     case measure => simp [intOf]; omega
    ·have HEQ1 : Hid (x ++ [44] ++ R = T):=Lib.hid (by rw [← hE0]; simp [fmtT,punC])
     have hxl : x.length + 70000 + 1000 ≤ 2000000000000:=by have h1:=HTL.out; have h2:=congrArg List.length HEQ1.out; simp only [List.length_append,List.length_cons,List.length_nil] at h1 h2; omega
     clear hE0
     go_wp2_with fail
     ((with_reducible refine (KV.out _).mono ?_))
     rintro e w2 ⟨rfl,hb⟩
     have HB2:=Lib.hid (bel_then HB.out (Nat.le_refl _) hb)
     have HV2:=Lib.hid (HV.out.belowB hb)
     obtain ⟨b',off',hbo,d0,d1,d2,d3⟩:=HCL.out w2 hb
     injection hbo with hbo
     injection hbo with hb1 hb2 _
     subst hb1 hb2
     simp only at d0 d1 d2 d3
     clear hb c0 c1 c2 c3 HCL
     go_wp2_with fail
     go_quiet (fail)
     have HB3:=Lib.hid (below_drewN HB2.out nq)
     have HV3:=Lib.hid (HV2.out.belowB (below_drewN (Below.refl _ _) nq))
     go_wp2_with fail
     go_roundw
     case rel => exact ⟨k + 1,x ++ [44],by simp,by go_num,by omega,Lib.hid (by rw [HR.out]; exact HEQ1.out),HV3,HB3⟩
     case measure => simp [intOf]; omega
   ·have hk00 : (k : Int) > 0:=by omega
    rw [show decide (k = 0) = false from decide_eq_false hk0,if_neg (by decide)] at hE0
    clear hk0
    rcases hks with rfl | rfl | rfl | rfl | rfl | rfl | rfl | rfl | rfl
    ·have HEQ1 : Hid (x ++ ([32] ++ ts) ++ R = T):=Lib.hid (by rw [← hE0]; unfold fmtT; simp)
     have hxl : x.length + 70000 + 1000 ≤ 2000000000000:=by have h1:=HTL.out; have h2:=congrArg List.length HEQ1.out; simp only [List.length_append,List.length_cons,List.length_nil] at h1 h2; omega
     have hsl : ts.length ≤ 65536:=HST.out
     clear hE0
     go_wp2_with fail
     ((with_reducible refine (KV.out _).mono ?_))
     rintro e w2 ⟨rfl,hb⟩
     have HB2:=Lib.hid (bel_then HB.out (Nat.le_refl _) hb)
     have HV2:=Lib.hid (HV.out.belowB hb)
     obtain ⟨b',off',hbo,d0,d1,d2,d3⟩:=HCL.out w2 hb
     injection hbo with hbo
     injection hbo with hb1 hb2 _
     subst hb1 hb2
     simp only at d0 d1 d2 d3
     clear hb c0 c1 c2 c3 HCL
     go_wp2_with fail
     go_roundw
     case rel => exact ⟨k + 1,x ++ ([32] ++ ts),by simp,by go_num,by omega,Lib.hid (by rw [HR.out]; exact HEQ1.out),HV2,HB2⟩
     case measure => simp [intOf]; omega
    ·have HEQ1 : Hid (x ++ ([32] ++ ts) ++ R = T):=Lib.hid (by rw [← hE0]; unfold fmtT; simp)
     have hxl : x.length + 70000 + 1000 ≤ 2000000000000:=by have h1:=HTL.out; have h2:=congrArg List.length HEQ1.out; simp only [List.length_append,List.length_cons,List.length_nil] at h1 h2; omega
     have hsl : ts.length ≤ 65536:=HST.out
     clear hE0
     go_wp2_with fail
     ((with_reducible refine (KV.out _).mono ?_))
     rintro e w2 ⟨rfl,hb⟩
     have HB2:=Lib.hid (bel_then HB.out (Nat.le_refl _) hb)
     have HV2:=Lib.hid (HV.out.belowB hb)
     obtain ⟨b',off',hbo,d0,d1,d2,d3⟩:=HCL.out w2 hb
     injection hbo with hbo
     injection hbo with hb1 hb2 _
     subst hb1 hb2
     simp only at d0 d1 d2 d3
     clear hb c0 c1 c2 c3 HCL
     go_wp2_with fail
     go_roundw
     case rel => exact ⟨k + 1,x ++ ([32] ++ ts),by simp,by go_num,by omega,Lib.hid (by rw [HR.out]; exact HEQ1.out),HV2,HB2⟩
     case measure => simp [intOf]; omega
    ·have HEQ1 : Hid (x ++ ([32] ++ (fmtI N)) ++ R = T):=Lib.hid (by rw [← hE0]; unfold fmtT; simp)
     have hxl : x.length + 70000 + 1000 ≤ 2000000000000:=by have h1:=HTL.out; have h2:=congrArg List.length HEQ1.out; simp only [List.length_append,List.length_cons,List.length_nil] at h1 h2; omega
     have KF:=Lib.hid (fun w => fmtI_any N w (Lib.hid (by have:=HNB.out; omega)))
     have hfl:=fmtI_len (v:=N) (by have:=HNB.out; omega)
     obtain ⟨X,hX⟩ : ∃ X,fmtI N = X:=⟨_,rfl⟩
     rw [hX] at KF hfl HEQ1
     clear hX
     clear hE0
     go_wp2_with fail
     ((with_reducible refine (KV.out _).mono ?_))
     rintro e w2 ⟨rfl,hb⟩
     have HB2:=Lib.hid (bel_then HB.out (Nat.le_refl _) hb)
     have HV2:=Lib.hid (HV.out.belowB hb)
     obtain ⟨b',off',hbo,d0,d1,d2,d3⟩:=HCL.out w2 hb
     injection hbo with hbo
     injection hbo with hb1 hb2 _
     subst hb1 hb2
     simp only at d0 d1 d2 d3
     clear hb c0 c1 c2 c3 HCL
     go_wp2_with fail
     ((with_reducible refine (KF.out _).mono ?_))
     rintro e w3 ⟨rfl,rfl⟩
     go_wp2_with fail
     go_roundw
     case rel => exact ⟨k + 1,x ++ ([32] ++ X),by simp,by go_num,by omega,Lib.hid (by rw [HR.out]; exact HEQ1.out),HV2,HB2⟩
     case measure => simp [intOf]; omega
    ·have HEQ1 : Hid (x ++ ([32] ++ (quoL ts)) ++ R = T):=Lib.hid (by rw [← hE0]; unfold fmtT; simp)
     have hxl : x.length + 70000 + 1000 ≤ 2000000000000:=by have h1:=HTL.out; have h2:=congrArg List.length HEQ1.out; simp only [List.length_append,List.length_cons,List.length_nil] at h1 h2; omega
     have KF:=Lib.hid (fun w => quo_any ts w (by have:=HST.out; omega))
     have hfl : (quoL ts).length ≤ 65536:=okT_len (t:=⟨4,(N : Int),ts,tp⟩) ⟨HVT.out,by show (0 : Int) ≤ (N : Int); omega,HNB.out⟩ HST.out
     obtain ⟨X,hX⟩ : ∃ X,quoL ts = X:=⟨_,rfl⟩
     rw [hX] at KF hfl HEQ1
     clear hX
     clear hE0
     go_wp2_with fail
     ((with_reducible refine (KV.out _).mono ?_))
     rintro e w2 ⟨rfl,hb⟩
     have HB2:=Lib.hid (bel_then HB.out (Nat.le_refl _) hb)
     have HV2:=Lib.hid (HV.out.belowB hb)
     obtain ⟨b',off',hbo,d0,d1,d2,d3⟩:=HCL.out w2 hb
     injection hbo with hbo
     injection hbo with hb1 hb2 _
     subst hb1 hb2
     simp only at d0 d1 d2 d3
     clear hb c0 c1 c2 c3 HCL
     go_wp2_with fail
     ((with_reducible refine (KF.out _).mono ?_))
     rintro e w3 ⟨rfl,rfl⟩
     go_wp2_with fail
     go_roundw
     case rel => exact ⟨k + 1,x ++ ([32] ++ X),by simp,by go_num,by omega,Lib.hid (by rw [HR.out]; exact HEQ1.out),HV2,HB2⟩
     case measure => simp [intOf]; omega
    ·have HEQ1 : Hid (x ++ ([32] ++ [40]) ++ R = T):=Lib.hid (by rw [← hE0]; simp [fmtT,punC])
     have hxl : x.length + 70000 + 1000 ≤ 2000000000000:=by have h1:=HTL.out; have h2:=congrArg List.length HEQ1.out; simp only [List.length_append,List.length_cons,List.length_nil] at h1 h2; omega
     clear hE0
     go_wp2_with fail
     ((with_reducible refine (KV.out _).mono ?_))
     rintro e w2 ⟨rfl,hb⟩
     have HB2:=Lib.hid (bel_then HB.out (Nat.le_refl _) hb)
     have HV2:=Lib.hid (HV.out.belowB hb)
     obtain ⟨b',off',hbo,d0,d1,d2,d3⟩:=HCL.out w2 hb
     injection hbo with hbo
     injection hbo with hb1 hb2 _
     subst hb1 hb2
     simp only at d0 d1 d2 d3
     clear hb c0 c1 c2 c3 HCL
     go_wp2_with fail
     go_quiet (fail)
     have HB3:=Lib.hid (below_drewN HB2.out nq)
     have HV3:=Lib.hid (HV2.out.belowB (below_drewN (Below.refl _ _) nq))
     go_wp2_with fail
     go_roundw
     case rel => exact ⟨k + 1,x ++ ([32] ++ [40]),by simp,by go_num,by omega,Lib.hid (by rw [HR.out]; exact HEQ1.out),HV3,HB3⟩
     case measure => simp [intOf]; omega
    ·have HEQ1 : Hid (x ++ ([32] ++ [41]) ++ R = T):=Lib.hid (by rw [← hE0]; simp [fmtT,punC])
     have hxl : x.length + 70000 + 1000 ≤ 2000000000000:=by have h1:=HTL.out; have h2:=congrArg List.length HEQ1.out; simp only [List.length_append,List.length_cons,List.length_nil] at h1 h2; omega
     clear hE0
     go_wp2_with fail
     ((with_reducible refine (KV.out _).mono ?_))
     rintro e w2 ⟨rfl,hb⟩
     have HB2:=Lib.hid (bel_then HB.out (Nat.le_refl _) hb)
     have HV2:=Lib.hid (HV.out.belowB hb)
     obtain ⟨b',off',hbo,d0,d1,d2,d3⟩:=HCL.out w2 hb
     injection hbo with hbo
     injection hbo with hb1 hb2 _
     subst hb1 hb2
     simp only at d0 d1 d2 d3
     clear hb c0 c1 c2 c3 HCL
     go_wp2_with fail
     go_quiet (fail)
     have HB3:=Lib.hid (below_drewN HB2.out nq)
     have HV3:=Lib.hid (HV2.out.belowB (below_drewN (Below.refl _ _) nq))
     go_wp2_with fail
     go_roundw
     case rel => exact ⟨k + 1,x ++ ([32] ++ [41]),by simp,by go_num,by omega,Lib.hid (by rw [HR.out]; exact HEQ1.out),HV3,HB3⟩
     case measure => simp [intOf]; omega
    ·have HEQ1 : Hid (x ++ ([32] ++ [123]) ++ R = T):=Lib.hid (by rw [← hE0]; simp [fmtT,punC])
     have hxl : x.length + 70000 + 1000 ≤ 2000000000000:=by have h1:=HTL.out; have h2:=congrArg List.length HEQ1.out; simp only [List.length_append,List.length_cons,List.length_nil] at h1 h2; omega
     clear hE0
     go_wp2_with fail
     ((with_reducible refine (KV.out _).mono ?_))
     rintro e w2 ⟨rfl,hb⟩
     have HB2:=Lib.hid (bel_then HB.out (Nat.le_refl _) hb)
     have HV2:=Lib.hid (HV.out.belowB hb)
     obtain ⟨b',off',hbo,d0,d1,d2,d3⟩:=HCL.out w2 hb
     injection hbo with hbo
     injection hbo with hb1 hb2 _
     subst hb1 hb2
     simp only at d0 d1 d2 d3
     clear hb c0 c1 c2 c3 HCL
     go_wp2_with fail
     go_quiet (fail)
     have HB3:=Lib.hid (below_drewN HB2.out nq)
     have HV3:=Lib.hid (HV2.out.belowB (below_drewN (Below.refl _ _) nq))
     go_wp2_with fail
     go_roundw
     case rel => exact ⟨k + 1,x ++ ([32] ++ [123]),by simp,by go_num,by omega,Lib.hid (by rw [HR.out]; exact HEQ1.out),HV3,HB3⟩
     case measure => simp [intOf]; omega
    ·have HEQ1 : Hid (x ++ ([32] ++ [125]) ++ R = T):=Lib.hid (by rw [← hE0]; simp [fmtT,punC])
     have hxl : x.length + 70000 + 1000 ≤ 2000000000000:=by have h1:=HTL.out; have h2:=congrArg List.length HEQ1.out; simp only [List.length_append,List.length_cons,List.length_nil] at h1 h2; omega
     clear hE0
     go_wp2_with fail
     ((with_reducible refine (KV.out _).mono ?_))
     rintro e w2 ⟨rfl,hb⟩
     have HB2:=Lib.hid (bel_then HB.out (Nat.le_refl _) hb)
     have HV2:=Lib.hid (HV.out.belowB hb)
     obtain ⟨b',off',hbo,d0,d1,d2,d3⟩:=HCL.out w2 hb
     injection hbo with hbo
     injection hbo with hb1 hb2 _
     subst hb1 hb2
     simp only at d0 d1 d2 d3
     clear hb c0 c1 c2 c3 HCL
     go_wp2_with fail
     go_quiet (fail)
     have HB3:=Lib.hid (below_drewN HB2.out nq)
     have HV3:=Lib.hid (HV2.out.belowB (below_drewN (Below.refl _ _) nq))
     go_wp2_with fail
     go_roundw
     case rel => exact ⟨k + 1,x ++ ([32] ++ [125]),by simp,by go_num,by omega,Lib.hid (by rw [HR.out]; exact HEQ1.out),HV3,HB3⟩
     case measure => simp [intOf]; omega
    ·have HEQ1 : Hid (x ++ ([32] ++ [44]) ++ R = T):=Lib.hid (by rw [← hE0]; simp [fmtT,punC])
     have hxl : x.length + 70000 + 1000 ≤ 2000000000000:=by have h1:=HTL.out; have h2:=congrArg List.length HEQ1.out; simp only [List.length_append,List.length_cons,List.length_nil] at h1 h2; omega
     clear hE0
     go_wp2_with fail
     ((with_reducible refine (KV.out _).mono ?_))
     rintro e w2 ⟨rfl,hb⟩
     have HB2:=Lib.hid (bel_then HB.out (Nat.le_refl _) hb)
     have HV2:=Lib.hid (HV.out.belowB hb)
     obtain ⟨b',off',hbo,d0,d1,d2,d3⟩:=HCL.out w2 hb
     injection hbo with hbo
     injection hbo with hb1 hb2 _
     subst hb1 hb2
     simp only at d0 d1 d2 d3
     clear hb c0 c1 c2 c3 HCL
     go_wp2_with fail
     go_quiet (fail)
     have HB3:=Lib.hid (below_drewN HB2.out nq)
     have HV3:=Lib.hid (HV2.out.belowB (below_drewN (Below.refl _ _) nq))
     go_wp2_with fail
     go_roundw
     case rel => exact ⟨k + 1,x ++ ([32] ++ [44]),by simp,by go_num,by omega,Lib.hid (by rw [HR.out]; exact HEQ1.out),HV3,HB3⟩
     case measure => simp [intOf]; omega
  ·have hlt' : ¬ (k : Int) < (L : Int):=by omega
   have HFN : Hid (x = T):=Lib.hid (by
    have:=HEQ.out
    rw [List.drop_eq_nil_iff.2 (by rw [HL.out]; omega),wordsP,textP_nil,List.append_nil] at this
    exact this)
   go_wp2_with fail
   go_ret
   exact ⟨by rw [← HFN.out]; rfl,HB.out⟩
end
end Go.Proofs.YtnicnfchkdmieaaGreatDoor
