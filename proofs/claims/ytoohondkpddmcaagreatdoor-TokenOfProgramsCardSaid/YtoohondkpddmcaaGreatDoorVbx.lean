/- Pn Tma Tmb Opx Opy -/
import Derived.Test.YtoohondkpddmcaaGreatDoorVbw
import Derived.Test.YtoohondkpddmcaaGreatDoorVbm
import Derived.Test.YtoohondkpddmcaaGreatDoorVbf
import Derived.Test.YtoohondkpddmcaaGreatDoorVbp
import Derived.Test.YtoohondkpddmcaaGreatDoorVam
import Derived.Test.YtoohondkpddmcaaGreatDoorVbd
import Derived.Test.YtoohondkpddmcaaGreatDoorVbe
import Derived.ProofKit
import Derived.Shelf.Vars
import Derived.Test.YtoohondkpddmcaaGreatDoorRows
import Derived.LaidSub
import Derived.Lib.LaidTab
import Derived.Test.YtoohondkpddmcaaGreatDoorVaf
import Derived.Test.YtoohondkpddmcaaGreatDoorChecked
import Derived.OpenShut
import Derived.SizedLaws
import Derived.SliceStrings
import Derived.Lib.SmallJoins
import Derived.ChangeSlices
import Derived.Test.YtoohondkpddmcaaGreatDoorVba
import Derived.Test.YtoohondkpddmcaaGreatDoorVax
import Derived.Test.YtoohondkpddmcaaGreatDoorCards
import Derived.Deep.Slices
import Derived.ChangeSame
set_option linter.unusedVariables false
set_option linter.unusedSimpArgs false
namespace Go.Proofs.YtoohondkpddmcaaGreatDoor
section
open Go.RowKit
attribute [local go_sem] ByteArray.mk_append_mk bs_get bs_cut bs_end
def ProgPost (w : World) (e : Ending) (w' : World) : Prop:=∃ v ns,e = .returned v ∧ NodesI w' w.heap.size v ns ∧ (∀ t ∈ ns,NdG t) ∧ (validL ns = true ∧ For6 ns) ∧ Below w.heap.size w w'
theorem NodesI.keepC {w w' : World} {B C : Nat} {v : Value} {ns : List Nd} (h : NodesI w B v ns) (hC : CSt w C) (hk : Keep C w w') : NodesI w' B v ns:=by
 obtain ⟨a,cap,i,l,hc,_⟩:=hC
 exact own_grown h hk (fun g hg e => own_ch h hc (by rw [hg,e]))
theorem NodesI.slG {w : World} {B : Nat} {v : Value} {l : List Nd} (h : NodesI w B v l) (hs : ∀ t ∈ l,NdG t) : NSl w v l:=h.sl (fun t ht => ⟨by have:=(hs t ht).1; omega,(hs t ht).2.1⟩)
set_option maxRecDepth 100000 in
set_option maxHeartbeats 8000000 in
theorem program_any (v0 : Value) (l : List Int) (w : World) (h : IArg w v0 l) :
  Calls Tryz.prog 11 #[v0] w (ProgPost w):=by
 have HNW:=Lib.hid (new_any v0 l w h)
 obtain ⟨a0,cap0,rfl,_⟩:=h
 obtain ⟨C,hCe⟩ : ∃ C,w.heap.size = C:=⟨_,rfl⟩
 unfold ProgPost
 rw [hCe] at HNW
 rw [hCe]
 clear hCe
 go_enter Tryz.func11,Tryz.ntmps11
 go_wp2_with fail
 ((with_reducible refine HNW.out.mono ?_))
 rintro e w1 ⟨rfl,hc1,hb1⟩
 have HC1:=Lib.hid hc1
 have HB1:=Lib.hid hb1
 have HN:=Lib.hid (next_any C 5 w1 hc1 (by omega) (by omega))
 have hCP : C < w1.heap.size:=hc1.lt
 clear hc1 hb1 HNW
 go_wp2_with fail
 ((with_reducible refine HN.out.mono ?_))
 rintro e w2 ⟨k2,rfl,hk2,hc2,hkk2⟩
 have HK2:=Lib.hid hkk2
 have HC2:=Lib.hid hc2
 have hk2' : (k2 : Int) < 5:=hk2
 clear hc2 hkk2 HN
 have HDE:=Lib.hid (decl_2 C)
 unfold DeclOk at HDE
 go_wp2_with fail
 go_loopw [4,5] (fun x i wr => ∃ (v : Value) (ns : List Nd) (q : Nat),v = x ∧ i = .int .i64 q ∧ q ≤ 5 ∧ ns.length ≤ (5 - q) * 54533 ∧ Hid (NodesI wr w1.heap.size v ns) ∧ Hid (∀ t ∈ ns,NdG t) ∧ Hid (For6 ns) ∧ Hid (CSt wr C) ∧ Hid (Keep C w1 wr)) (fun _ i _ => (intOf i).toNat)
 case atStart => exact ⟨_,[],k2 + 1,rfl,by go_num,by omega,by simp,Lib.hid (NodesI.nil _ _),Lib.hid (by intro t ht; cases ht),Lib.hid For6.nil,HC2,HK2⟩
 case round =>
  clear HC2 HK2 HC1
  obtain ⟨v,ns,q,rfl,rfl,hq,hnl,HR,HG,HFO,HC,HK⟩:=hrel
  obtain ⟨w3,rfl⟩ : ∃ y : World,y = wr:=⟨_,rfl⟩
  by_cases hq0 : 0 < q
  ·have hq1 : (0 : Int) < (q : Int):=by omega
   have HLF:=Lib.hid (left_any C w3 HC.out)
   go_wp2_with fail
   ((with_reducible refine HLF.out.mono ?_))
   rintro e w4 ⟨lb,rfl,hc4,hkk4⟩
   have HR4:=Lib.hid (HR.out.keepC HC.out hkk4)
   have HK4:=Lib.hid (HK.out.trans hkk4)
   have HC4:=Lib.hid hc4
   clear hc4 hkk4 HR HK HC HLF
   cases lb with
   | false =>
     have HB9 : Hid (Below C w w4):=Lib.hid (HB1.out.trans (HK4.out.below (Nat.le_of_lt hCP) (Nat.le_refl _)))
     obtain ⟨vb,hvb⟩ : ∃ vb,Hid (validL ns = vb):=⟨_,Lib.hid rfl⟩
     have HVL:=Lib.hid (rvalid_is ns (fun t ht => by have:=(HG.out t ht).1; omega) vb hvb v w4 (HR4.out.slG HG.out) (by omega))
     obtain ⟨av,cv,rfl⟩:=HR4.out.form
     have hsz9 : C ≤ w4.heap.size:=Nat.le_trans (Nat.le_of_lt hCP) HK4.out.size
     cases vb with
     | true =>
       go_wp2_with fail
       ((with_reducible refine HVL.out.mono ?_))
       rintro e w9 ⟨rfl,hb9⟩
       have HR9:=Lib.hid ((HR4.out.below hb9).base (B':=C) (by omega))
       have HB10:=Lib.hid (HB9.out.trans (hb9.mono hsz9))
       clear hb9
       go_wp2_with fail
       go_ret
       exact ⟨_,ns,rfl,HR9.out,HG.out,⟨hvb.out,HFO.out⟩,HB10.out⟩
     | false =>
       go_wp2_with fail
       ((with_reducible refine HVL.out.mono ?_))
       rintro e w9 ⟨rfl,hb9⟩
       have HB10:=Lib.hid (HB9.out.trans (hb9.mono hsz9))
       clear hb9
       go_wp2_with fail
       go_ret
       exact ⟨_,[],rfl,NodesI.nil _ _,(by intro t ht; cases ht),⟨by decide,For6.nil⟩,HB10.out⟩
   | true =>
     have HDD:=Lib.hid (HDE.out w4 HC4.out)
     unfold GPost at HDD
     go_wp2_with fail
     ((with_reducible refine HDD.out.mono ?_))
     rintro e w5 ⟨v5,rfl,hv5,hc5,hk5⟩
     have HR5:=Lib.hid (HR4.out.keepC HC4.out hk5)
     have HK5:=Lib.hid (HK4.out.trans hk5)
     have HC5:=Lib.hid hc5
     obtain ⟨l2,j1,j2,j3,_,j5⟩:=hv5
     have HFO6:=Lib.hid (HFO.out.snoc (j5.mono (dpN_le _)))
     have HY:=Lib.hid j1
     have HG2:=Lib.hid j2
     have hsz : w1.heap.size ≤ w5.heap.size:=HK5.out.size
     clear hc5 hk5 j1 j2 j5 HFO HR4 HK4 HC4 HDD
     go_wp2_with (at_builtin; refine wpList_append_nodes rfl _ _ rfl w1.heap.size v ns rfl HR5.out _ v5 l2 rfl HY.out (by omega) hsz ?_; intro v6 w6 ho hg; have HO:=Lib.hid ho; have HGR:=Lib.hid hg; clear ho hg)
     have HC6:=Lib.hid (HC5.out.grown HGR.out (fun g h => by have:=own_row HR5.out h; omega))
     have HK6:=Lib.hid (HK5.out.grown HGR.out (fun g h => own_row HR5.out h))
     have HG6 : Hid (∀ t ∈ ns ++ l2,NdG t):=Lib.hid (fun t ht => by
      rcases List.mem_append.1 ht with h | h
      ·exact HG.out t h
      ·exact HG2.out t h)
     have hln : (ns ++ l2).length ≤ (5 - (q - 1)) * 54533:=by rw [List.length_append]; omega
     clear HGR HY HR5 HC5 HK5 HG HG2
     go_wp2_with fail
     go_roundw
     case rel => first | exact ⟨ns ++ l2,q - 1,by go_num,by omega,hln,HO,HG6,HFO6,HC6,HK6⟩ | exact ⟨_,ns ++ l2,q - 1,rfl,by go_num,by omega,hln,HO,HG6,HFO6,HC6,HK6⟩
     case measure => simp [intOf]; omega
  ·have hq1 : ¬ (0 : Int) < (q : Int):=by omega
   have HB9 : Hid (Below C w w3):=Lib.hid (HB1.out.trans (HK.out.below (Nat.le_of_lt hCP) (Nat.le_refl _)))
   obtain ⟨vb,hvb⟩ : ∃ vb,Hid (validL ns = vb):=⟨_,Lib.hid rfl⟩
   have HVL:=Lib.hid (rvalid_is ns (fun t ht => by have:=(HG.out t ht).1; omega) vb hvb v w3 (HR.out.slG HG.out) (by omega))
   obtain ⟨av,cv,rfl⟩:=HR.out.form
   have hsz9 : C ≤ w3.heap.size:=Nat.le_trans (Nat.le_of_lt hCP) HK.out.size
   cases vb with
   | true =>
     go_wp2_with fail
     ((with_reducible refine HVL.out.mono ?_))
     rintro e w9 ⟨rfl,hb9⟩
     have HR9:=Lib.hid ((HR.out.below hb9).base (B':=C) (by omega))
     have HB10:=Lib.hid (HB9.out.trans (hb9.mono hsz9))
     clear hb9
     go_wp2_with fail
     go_ret
     exact ⟨_,ns,rfl,HR9.out,HG.out,⟨hvb.out,HFO.out⟩,HB10.out⟩
   | false =>
     go_wp2_with fail
     ((with_reducible refine HVL.out.mono ?_))
     rintro e w9 ⟨rfl,hb9⟩
     have HB10:=Lib.hid (HB9.out.trans (hb9.mono hsz9))
     clear hb9
     go_wp2_with fail
     go_ret
     exact ⟨_,[],rfl,NodesI.nil _ _,(by intro t ht; cases ht),⟨by decide,For6.nil⟩,HB10.out⟩
end
section
open Go.RowKit
attribute [local go_sem] ByteArray.mk_append_mk bs_get bs_cut bs_end
set_option maxRecDepth 100000 in
set_option maxHeartbeats 32000000 in
theorem law_ofPrograms (l : List Int) (v0 : Value) (m : Int) (W : World) (hl : IArg W v0 l) (hm : W.cell? ⟨0,0,none⟩ = some (.int .i64 m)) (hT : Tz16 W) :
  Calls Tryz.prog 3 #[v0] W fun e w' => e = .returned (.bool true) ∧ Below W.heap.size W w':=by
 have HM0:=Lib.hid hm
 have HZ0:=Lib.hid hT
 have HZB : Hid (9 < W.heap.size):=Lib.hid (World.block_lt_of_cell? W _ hT)
 have HPR:=Lib.hid (program_any v0 l W hl)
 unfold ProgPost at HPR
 obtain ⟨ia,ic,rfl,_⟩:=hl
 obtain ⟨IL,hIL⟩ : ∃ L,l.length = L:=⟨_,rfl⟩
 rw [hIL] at HPR ⊢
 clear hm hT hIL
 go_enter Tryz.func3,Tryz.ntmps3
 go_wp2_with fail
 ((with_reducible refine HPR.out.mono ?_))
 rintro e w1 ⟨v,ns,rfl,hn,hg,⟨hv,hf6⟩,hb⟩
 have HNU : Hid (NumsOk ns):=Lib.hid (fun t ht => (hg t ht).2)
 have HRF:=Lib.hid (rformat_any ns v w1 (hn.slG hg) (fun t ht => by have:=(hg t ht).1; omega) HNU.out hv)
 have hln:=fmtP_ln6 ns hg hv hf6
 obtain ⟨T,hscT,hfw,htl,htx,hsc2⟩:=prog_toks ns HNU.out hg hv hf6
 have HB1:=Lib.hid hb
 have HM1:=Lib.hid (max_below HM0.out hb)
 have HZ1:=Lib.hid (HZ0.out.below hb HZB.out)
 obtain ⟨qa,qc,rfl⟩:=hn.form
 obtain ⟨F,hF⟩ : ∃ F,fmtP ns = F:=⟨_,rfl⟩
 rw [hF] at HRF hln hscT
 obtain ⟨NL,hNL⟩ : ∃ F,ns.length = F:=⟨_,rfl⟩
 rw [hNL] at HRF ⊢
 obtain ⟨M,hM⟩ : ∃ M,T.map Tok.toI = M:=⟨_,rfl⟩
 rw [hM] at hfw htx hsc2
 obtain ⟨n,hnn⟩ : ∃ n,M.length = n:=⟨_,rfl⟩
 have htn : n ≤ 65536:=by rw [← hnn,← hM,List.length_map]; exact htl
 rw [hnn] at htx hsc2
 obtain ⟨X,hX⟩ : ∃ X,textJ M n = X:=⟨_,rfl⟩
 have HFM : Hid (∀ vv w,TSl w vv M → Tz16 w → Calls Tryz.prog 15 #[vv] w fun e w' => e = .returned (.string ⟨X.toArray⟩) ∧ Below w.heap.size w w'):=Lib.hid (fun vv w h1 h2 => by
  have h3:=tformat_len vv M w h1 hfw (by rw [hnn]; omega) (by rw [hnn]; omega) h2
  rw [hnn,hX] at h3
  exact h3)
 rw [hX] at htx hsc2
 have HFW:=Lib.hid hfw
 have HNN:=Lib.hid hnn
 have HTM:=Lib.hid hM
 have HSM:=Lib.hid (fun w v1 v2 (a : TSl w v1 M) (b : TSl w v2 ((toksS 0 M).map Tok.toI)) => same_yes v1 v2 _ _ w a b (by rw [HNN.out]; omega) (by
  rw [List.map_map]; exact (toksS_bare M 0 HFW.out).symm))
 have HKS:=Lib.hid (fun w h => tScan_any X m w (by omega) h)
 rw [hsc2] at HKS
 unfold ScanPost at HKS
 have HSC:=Lib.hid (fun w h => tScan_any F m w (by omega) h)
 rw [hscT] at HSC
 unfold ScanPost at HSC
 clear hn hg hv hb hF HNU HPR HM0 HZ0 hf6 hfw hnn hM hX htx htl hln hscT hsc2
 go_wp2_with fail
 ((with_reducible refine HRF.out.mono ?_))
 rintro e w2 ⟨rfl,hb2⟩
 have HB2:=Lib.hid (bel_then HB1.out (Nat.le_refl _) hb2)
 have HM2:=Lib.hid (max_below HM1.out hb2)
 have HZ2:=Lib.hid (HZ1.out.below hb2 (Nat.lt_of_lt_of_le HZB.out HB1.out.size))
 clear hb2 HRF HB1 HM1 HZ1
 go_wp2_with fail
 ((with_reducible refine (HSC.out _ HM2.out).mono ?_))
 rintro e w3 ⟨v2,rfl,ht3,hb3⟩
 have HB3:=Lib.hid (bel_then HB2.out (Nat.le_refl _) hb3)
 have HM3:=Lib.hid (max_below HM2.out hb3)
 have HZ3:=Lib.hid (HZ2.out.below hb3 (Nat.lt_of_lt_of_le HZB.out HB2.out.size))
 have HO3 : Hid (ToksI w3 w2.heap.size v2 M):=Lib.hid (by rw [← HTM.out]; exact ht3.toI)
 obtain ⟨a2,c2,hve,hc2⟩:=HO3.out.room
 subst hve
 rw [HNN.out] at hc2 ⊢
 have HT3 : Hid (TSl w3 (.slice a2 n c2) M):=Lib.hid (by have:=HO3.out.sl; rw [HNN.out] at this; exact this)
 clear ht3 hb3 HSC HB2 HM2 HZ2 HO3
 go_wp2_with fail
 ((with_reducible refine (awake_any m _ HM3.out).mono ?_))
 rintro e w4 ⟨rfl,hb4⟩
 have HB4:=Lib.hid (bel_then HB3.out (Nat.le_refl _) hb4)
 have HM4:=Lib.hid (max_below HM3.out hb4)
 have HZ4:=Lib.hid (HZ3.out.below hb4 (Nat.lt_of_lt_of_le HZB.out HB3.out.size))
 have HT4:=Lib.hid (HT3.out.below hb4)
 clear hb4 HB3 HM3 HZ3 HT3
 go_wp2_with fail
 go_loopw [7] (fun i wr => ∃ k : Nat,i = .int .i64 k ∧ k ≤ n ∧ Hid (Below w4.heap.size w4 wr)) (fun i _ => n - (intOf i).toNat)
 case atStart => exact ⟨0,rfl,by omega,Lib.hid (Below.refl _ _)⟩
 case round =>
  obtain ⟨k,rfl,hk,HBW⟩:=hrel
  obtain ⟨w5,rfl⟩ : ∃ y : World,y = wr:=⟨_,rfl⟩
  by_cases hlt : k < n
  ·have hlt' : (k : Int) < (n : Int):=by omega
   have hkM : k < M.length:=by rw [HNN.out]; exact hlt
   obtain ⟨b,off,rfl,hcell⟩:=HT4.out.at k hkM
   have htk:=HFW.out _ (List.getElem_mem hkM)
   obtain ⟨t,ht⟩ : ∃ t,M[k] = t:=⟨_,rfl⟩
   rw [ht] at hcell htk
   have KV:=Lib.hid (fun w => tvalid_any t w htk.2.2.2)
   rw [htk.1] at KV
   obtain ⟨c0,c1,c2,c3⟩:=hcell.below HBW.out
   unfold TokI.val at KV
   simp only [tokV] at KV
   clear htk hcell
   go_wp2_with fail
   ((with_reducible refine (KV.out _).mono ?_))
   rintro e w6 ⟨rfl,hb⟩
   have HB6:=Lib.hid (bel_then HBW.out (Nat.le_refl _) hb)
   clear hb c0 c1 c2 c3 KV HBW
   go_wp2_with fail
   go_roundw
   case rel => exact ⟨k + 1,by go_num,by omega,HB6⟩
   case measure => simp [intOf]; omega
  ·have hlt' : ¬ (k : Int) < (n : Int):=by omega
   have HM5:=Lib.hid (max_below HM4.out HBW.out)
   have HZ5:=Lib.hid (HZ4.out.below HBW.out (Nat.lt_of_lt_of_le HZB.out HB4.out.size))
   have HB5:=Lib.hid (HB4.out.trans (HBW.out.mono HB4.out.size))
   have HT5:=Lib.hid (HT4.out.below HBW.out)
   clear HBW HM4 HZ4 HB4 HT4
   go_wp2_with fail
   ((with_reducible refine (HFM.out _ _ HT5.out HZ5.out).mono ?_))
   rintro e w6 ⟨rfl,hb⟩
   have HT6:=Lib.hid (HT5.out.below hb)
   have HM6:=Lib.hid (max_below HM5.out hb)
   have HB6:=Lib.hid (bel_then HB5.out (Nat.le_refl _) hb)
   clear hb HT5 HM5 HB5 HFM
   go_wp2_with fail
   ((with_reducible refine (HKS.out _ HM6.out).mono ?_))
   rintro e w7 ⟨vo,rfl,ho,hb⟩
   have HO7:=Lib.hid (ho.toI.sl)
   have HT7:=Lib.hid (HT6.out.below hb)
   have HB7:=Lib.hid (bel_then HB6.out (Nat.le_refl _) hb)
   clear ho hb HT6 HM6 HB6 HKS
   simp only []
   go_wp2_with fail
   ((with_reducible refine (HSM.out _ _ _ HT7.out HO7.out).mono ?_))
   rintro e w8 ⟨rfl,hb⟩
   have HB8:=Lib.hid (bel_then HB7.out (Nat.le_refl _) hb)
   clear hb HO7 HT7 HB7 HSM
   go_wp2_with fail
   go_ret
   exact ⟨rfl,HB8.out⟩
end
section
open Go.RowKit
set_option maxRecDepth 100000
theorem gTab : Tryz.prog.globalNamed "math/bits.deBruijn64tab" = some 9 := by kernel_rfl
theorem gTabType : (Tryz.prog.globals[9]?).map (·.type) = some 240:=by kernel_rfl
theorem cellsTab : Tryz.prog.cellsOf 240 = 64:=by kernel_rfl
theorem cellsT5' : Tryz.prog.cellsOf 5 = 1:=by kernel_rfl
def tab64 : List Int:=[0,1,56,2,57,49,28,3,61,58,42,50,38,29,17,4,62,47,59,36,45,43,51,22,53,39,33,30,24,18,12,5,63,55,48,27,60,41,37,16,46,35,44,21,52,32,23,11,54,26,40,15,34,20,31,10,25,14,19,9,13,8,7,6]
theorem laid_one : (Rows.tokenOfProgramsRow.laid.filter fun x => x.1 == "math/bits.deBruijn64tab") = [("math/bits.deBruijn64tab", Lib.tabData .u8 tab64)] := by kernel_rfl
theorem laid_tz {W : World} (h : laidMetH Tryz.prog Rows.tokenOfProgramsRow.laid W) : Tz16 W:=by
 have h1 := h.filter fun x => x.1 == "math/bits.deBruijn64tab"
 rw [laid_one] at h1
 have h2 : Lib.TabIs Tryz.prog W "math/bits.deBruijn64tab" .u8 tab64 := Lib.tabIs_of_head (rest := []) gTab gTabType Tryz.underlying240 Tryz.underlying5 cellsT5' cellsTab h1
 exact h2.cell gTab 15 (by decide)
theorem max_cell {W : World} (h : W.ShapedOpen Tryz.prog) : ∃ m,W.cell? ⟨0,0,none⟩ = some (.int .i64 m) :=
 Go.Proofs.cell_of_shapedOpen_int (zero:=#[.int .i64 0]) (t:=3) h (of_decide_eq_true (by kernel_rfl)) (by kernel_rfl) rfl (by kernel_rfl) (by kernel_rfl) Tryz.underlying3
end
section
open Go.ChangeShapes Go.WideShapes Go.RowKit Go.Joins
theorem sized_each {H : Type} {P : Program} {ts : List TypeId} {ds : List (DataW H)} (h : (DataW.weightsEach P ts ds).all (· ≤ reachBytes) = true) {j : Nat} {t : TypeId} {d : DataW H} (ht : ts[j]? = some t) (hd : ds[j]? = some d) : ∀ m ∈ d.weights P t,m ≤ reachBytes:=by
 intro m hm
 have:=List.all_eq_true.1 h m (DataW.weights_mem_each ht hd m hm)
 simpa using this
end
section
open Go.ChangeShapes Go.WideShapes Go.Deep Go.RowKit Go.Joins
theorem cellsT_int : Tryz.prog.cellsOf 3 = 1:=by kernel_rfl
theorem bytesT_int : Tryz.prog.bytesOf 3 = 8:=by kernel_rfl
theorem add_zero_addr' (b o k : Nat) : (⟨b,o,none⟩ : Addr).add k = ⟨b,o + k,none⟩:=by by_cases h : k = 0 <;> simp [Addr.add,h]
theorem open_intsV {H : Type} {enc : TypeId × Value → H} {W : World} {fuel : Nat} {v : Value} {y : DataW H × List MemPlace} (h : DataW.trod enc Tryz.prog W 0 (fun _ => true) true fuel 22 [v] = some y) (hw : ∀ m ∈ y.1.weights Tryz.prog 22,m ≤ reachBytes) :
  ∃ l,IArg W v l:=by
 rcases open_ints Tryz.underlying22 Tryz.underlying3 cellsT_int h with ⟨hcs,hx⟩ | ⟨a,len,cap,zs,hcs,_,hl,hm,hz,hx,hcell,hwz⟩
 ·cases hcs
  exact ⟨[],none,0,rfl,by simp,(fun h => absurd rfl h),by simp⟩
 ·cases hcs
  subst hx
  simp only [if_true] at hz
  have h1 : ((lits (H:=H) .i64 (zs.take len)).length + (lits (H:=H) .i64 (zs.drop len)).length) * Tryz.prog.bytesOf 3 ≤ reachBytes:=by
   apply hw
   simp only [DataW.weights,Tryz.underlying22]
   exact List.mem_cons_self ..
  rw [bytesT_int] at h1
  simp only [lits,List.length_map,List.length_take,List.length_drop] at h1
  have hr : reachBytes = 140737488351232:=rfl
  rw [hr] at h1
  have hlen : (zs.take len).length = len:=by simp; omega
  refine ⟨zs.take len,some a,cap,by rw [hlen],by rw [hlen]; omega,(fun hn => ?_),fun x hx => bounds_i64 (hwz x (List.mem_of_mem_take hx))⟩
  have hpos : 0 < len:=by
   rcases Nat.eq_zero_or_pos len with h0 | h0
   ·subst h0; simp at hn
   ·exact h0
  obtain ⟨b,o,spot⟩:=a
  have hsp : spot = none:=by
   have h1:=hcell 0 (by omega)
   simpa [Addr.add] using World.cell?_spot h1
  subst hsp
  refine ⟨b,o,rfl,fun k hk => ?_⟩
  rw [hlen] at hk
  have h2:=hcell k (by omega)
  rw [add_zero_addr'] at h2
  rw [h2]
  simp [List.getD,List.getElem?_eq_getElem (show k < zs.length by omega)]
set_option maxRecDepth 100000 in
theorem open_intsA {H : Type} {enc : TypeId × Value → H} {W : World} {b0 : Nat} {v : Value} {d : DataW H} {p : List MemPlace} (hv : Value.okWide Tryz.prog W .any b0 22 v) (h : DataW.Trod enc Tryz.prog W 0 (fun _ => true) true 22 v d p) (hw : ∀ m ∈ d.weights Tryz.prog 22,m ≤ reachBytes) :
  ∃ l,IArg W v l:=by
 obtain ⟨a0,len,cap,rfl⟩:=okWide_slice Tryz.underlying22 hv
 obtain ⟨fuel,hf⟩:=h
 exact open_intsV (by simpa [Value.cells] using hf) hw
end
end Go.Proofs.YtoohondkpddmcaaGreatDoor
