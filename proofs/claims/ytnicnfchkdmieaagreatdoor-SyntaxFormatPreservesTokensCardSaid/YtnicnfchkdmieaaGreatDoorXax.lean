/- Sn So Sp -/
import Derived.Test.YtnicnfchkdmieaaGreatDoorXaw
set_option linter.unusedVariables false
set_option linter.unusedSimpArgs false
namespace Go.Proofs.YtnicnfchkdmieaaGreatDoor
section
open Go.RowKit
attribute [local go_sem] ByteArray.mk_append_mk bs_get bs_cut bs_end
def NSl (w : World) (v : Value) (l : List Nd) : Prop :=
 (∃ (a : Option Addr) (cap : Nat),v = .slice a l.length cap ∧ (l ≠ [] → ∃ b off,a = some ⟨b,off,none⟩ ∧ ∀ i (h : i < l.length),TAt w b (off + i * 4) l[i])) ∧ ∀ t ∈ l,t.str.length ≤ 4000000000 ∧ 0 ≤ t.num
theorem TAt.below {w w' : World} {b off : Nat} {t : TokI} (h : TAt w b off t) (hb : Below w.heap.size w w') : TAt w' b off t :=
 h.belowB hb (World.block_lt_of_cell? w ⟨b,off,none⟩ h.1)
theorem NSl.below {w w' : World} {v : Value} {l : List Nd} (h : NSl w v l) (hb : Below w.heap.size w w') : NSl w' v l:=by
 obtain ⟨⟨a,cap,hv,hc⟩,hs⟩:=h
 refine ⟨⟨a,cap,hv,fun hn => ?_⟩,hs⟩
 obtain ⟨b,off,ha,hk⟩:=hc hn
 exact ⟨b,off,ha,fun i hi => (hk i hi).below hb⟩
theorem NodesI.sl {w : World} {B : Nat} {v : Value} {l : List Nd} (h : NodesI w B v l) (hs : ∀ t ∈ l,t.str.length ≤ 4000000000 ∧ 0 ≤ t.num) : NSl w v l:=by
 obtain ⟨a,c,rfl⟩:=h.form
 refine ⟨⟨a,c,rfl,fun hn => ?_⟩,hs⟩
 rcases h.2 with ⟨hv,h0⟩ | ⟨g,cap,cur,hv,hb,hg,hn2,hm,hs2,ht⟩
 ·exact absurd (List.eq_nil_of_length_eq_zero h0) hn
 ·injection hv with e1 e2 e3
  refine ⟨g,0,e1,fun i hi => ?_⟩
  obtain ⟨k0,k1,k2,k3⟩:=tcI_at l i hi
  rw [← ht] at k0 k1 k2 k3
  rw [List.getElem?_take,if_pos (by omega)] at k0 k1 k2 k3
  rw [Nat.zero_add]
  refine ⟨?_,?_,?_,?_⟩
  ·rw [cell_of_row w g _ cur _ (0,0) hg]; simpa using k0
  ·rw [cell_of_row w g _ cur _ (0,0) hg]; simpa using k1
  ·rw [cell_of_row w g _ cur _ (0,0) hg]; simpa using k2
  ·rw [cell_of_row w g _ cur _ (0,0) hg]; simpa using k3
def VPost (w : World) (x : Option Nat) (e : Ending) (w' : World) : Prop:=e = .returned (.tuple #[.int .i64 (x.getD 0 : Nat),.bool x.isSome]) ∧ Below w.heap.size w w'
def ElOk (m : Int) (p : List Nd) (d : Nat) (dep : Int) : Prop:=∀ (kd : UInt8) (i : Nat) (v : Value) (w : World),NSl w v p → SynG m w → i ≤ p.length →
 Calls Tryz.prog 38 #[v,.int .i64 i,.int .u8 kd.toNat,.int .i64 dep] w (VPost w (vAny p d false kd i))
def ChOk (m : Int) (p : List Nd) (d : Nat) (dep : Int) : Prop:=∀ (kd : UInt8) (i : Nat) (v : Value) (w : World),NSl w v p → SynG m w → i ≤ p.length →
 Calls Tryz.prog 76 #[v,.int .i64 i,.int .u8 kd.toNat,.int .i64 dep] w (VPost w (vAny p d (blkB kd) kd i))
theorem vnone (p : List Nd) (d : Nat) (b : Bool) (kd : UInt8) (i : Nat) (h : p.length ≤ i) : vAny p d b kd i = none:=by
 cases d with
 | zero => rfl
 | succ d => cases b <;> (rw [vAny,List.getElem?_eq_none h])
theorem el_end (m : Int) (p : List Nd) (hp : p.length ≤ 1000000) (d : Nat) (dep : Int) (kd : UInt8) (i : Nat) (v : Value) (w : World) (hv : NSl w v p) (hi : p.length ≤ i) (hi2 : i ≤ 1000000) (hd : -1000 ≤ dep ∧ dep ≤ 1000) :
  Calls Tryz.prog 38 #[v,.int .i64 i,.int .u8 kd.toNat,.int .i64 dep] w (VPost w (vAny p d false kd i)):=by
 rw [vnone p d false kd i hi]
 obtain ⟨⟨a,cap,rfl,hc⟩,hs⟩:=hv
 have hi' : (p.length : Int) ≤ (i : Int):=by omega
 clear hc hs
 go_enter Tryz.func38,Tryz.ntmps38
 go_wp2_with fail
 go_ret2
 exact ⟨rfl,Below.refl _ _⟩
theorem el_deep (m : Int) (p : List Nd) (hp : p.length ≤ 1000000) (dep : Int) (hd : 32 < dep) (kd : UInt8) (i : Nat) (v : Value) (w : World) (hv : NSl w v p) (hi : i < p.length) (hd2 : dep ≤ 1000) :
  Calls Tryz.prog 38 #[v,.int .i64 i,.int .u8 kd.toNat,.int .i64 dep] w (VPost w none):=by
 obtain ⟨⟨a,cap,rfl,hc⟩,hs⟩:=hv
 have hi' : (i : Int) < (p.length : Int):=by omega
 clear hc hs
 go_enter Tryz.func38,Tryz.ntmps38
 go_wp2_with fail
 go_ret2
 exact ⟨rfl,Below.refl _ _⟩
theorem ch_end (m : Int) (p : List Nd) (hp : p.length ≤ 1000000) (d : Nat) (dep : Int) (kd : UInt8) (hk : blkB kd = true) (i : Nat) (v : Value) (w : World) (hv : NSl w v p) (hi : p.length ≤ i) (hi2 : i ≤ 1000000) (hd : -1000 ≤ dep ∧ dep ≤ 1000) :
  Calls Tryz.prog 76 #[v,.int .i64 i,.int .u8 kd.toNat,.int .i64 dep] w (VPost w (vAny p d true kd i)):=by
 rw [vnone p d true kd i hi]
 obtain ⟨⟨a,cap,rfl,hc⟩,hs⟩:=hv
 have hi' : (p.length : Int) ≤ (i : Int):=by omega
 have HI:=Lib.hid (isBlk_is kd true (Lib.hid hk))
 clear hc hs hk
 go_enter Tryz.func76,Tryz.ntmps76
 go_wp2_with fail
 ((with_reducible refine (HI.out _).mono ?_))
 rintro e w1 ⟨rfl,rfl⟩
 go_wp2_with fail
 go_ret2
 exact ⟨rfl,Below.refl _ _⟩
theorem ch_deep (m : Int) (p : List Nd) (hp : p.length ≤ 1000000) (dep : Int) (hd : 32 < dep) (kd : UInt8) (hk : blkB kd = true) (i : Nat) (v : Value) (w : World) (hv : NSl w v p) (hi : i < p.length) (hd2 : dep ≤ 1000) :
  Calls Tryz.prog 76 #[v,.int .i64 i,.int .u8 kd.toNat,.int .i64 dep] w (VPost w none):=by
 obtain ⟨⟨a,cap,rfl,hc⟩,hs⟩:=hv
 have hi' : (i : Int) < (p.length : Int):=by omega
 have HI:=Lib.hid (isBlk_is kd true (Lib.hid hk))
 clear hc hs hk
 go_enter Tryz.func76,Tryz.ntmps76
 go_wp2_with fail
 ((with_reducible refine (HI.out _).mono ?_))
 rintro e w1 ⟨rfl,rfl⟩
 go_wp2_with fail
 go_ret2
 exact ⟨rfl,Below.refl _ _⟩
theorem kidsK_len {n : Nd} {ks : List UInt8} (h : kidsK n = some ks) : ks.length ≤ 10:=by
 unfold kidsK at h
 split at h
 ·split at h
  ·injection h with h; rw [← h,List.length_replicate]; omega
  ·cases h
 split at h
 ·split at h
  ·injection h with h; rw [← h,List.length_replicate]; omega
  ·cases h
 split at h
 ·injection h with h; rw [← h]; decide
 split at h
 ·injection h with h
  obtain ⟨a,ha⟩:=form_good n.kind
  rw [← h]; exact ha.2.2.2
 ·cases h
set_option maxRecDepth 100000 in
set_option maxHeartbeats 8000000 in
theorem el_step (m : Int) (p : List Nd) (hp : p.length ≤ 1000000) (d : Nat) (dep : Int) (hd0 : -1000 ≤ dep) (hd1 : dep ≤ 32) (ih : ChOk m p d (dep + 1)) (kd : UInt8) (i : Nat) (v : Value) (w : World) (hv : NSl w v p) (hm : SynG m w) (hi : i < p.length) :
  Calls Tryz.prog 38 #[v,.int .i64 i,.int .u8 kd.toNat,.int .i64 dep] w (VPost w (vAny p (d + 1) false kd i)):=by
 have IH:=Lib.hid ih
 obtain ⟨X,hX⟩ : ∃ X,Hid (vAny p (d + 1) false kd i = X):=⟨_,Lib.hid rfl⟩
 have HX0 : Hid (X = if accB kd p[i].kind = true ∧ fieldsB p[i] kd = true then (match kidsK p[i] with
  | none => none
  | some ks => nextK (fun k j => vAny p d (blkB k) k j) ks (i + 1)) else none):=Lib.hid (by rw [← hX.out,vAny,List.getElem?_eq_getElem hi] <;> rfl)
 have HV0:=Lib.hid hv
 obtain ⟨hts,htn⟩:=hv.2 p[i] (List.getElem_mem hi)
 obtain ⟨a,cap,rfl,hc⟩:=hv.1
 obtain ⟨g,off,rfl,hk⟩:=hc (by rintro rfl; simp at hi)
 obtain ⟨d0,d1,d2,d3⟩:=hk i hi
 have hi' : (i : Int) < (p.length : Int):=by omega
 clear hc hk hv ih
 obtain ⟨T,hT⟩ : ∃ T,p[i] = T:=⟨_,rfl⟩
 rw [hT] at d0 d1 d2 d3 hts htn HX0
 obtain ⟨nk,nn,ns,np⟩:=T
 simp only at d0 d1 d2 d3 hts htn HX0
 obtain ⟨L,hL⟩ : ∃ L,p.length = L:=⟨_,rfl⟩
 have HL:=Lib.hid hL
 rw [hL] at hi hi' hp
 have HBA : Hid (Below w.heap.size w (w.alloc (nObj nk nn ns np))):=Lib.hid ((Below.refl _ _).alloc (Nat.le_refl _) _)
 have HE:=Lib.hid (heap_alloc_new w (nObj nk nn ns np))
 have HG:=Lib.hid (hm.below HBA.out hm.low)
 have HV:=Lib.hid (HV0.out.below HBA.out)
 have hsz : w.heap.size ≤ (w.alloc (nObj nk nn ns np)).heap.size:=HBA.out.size
 obtain ⟨P,hP⟩ : ∃ P,w.heap.size = P:=⟨_,rfl⟩
 have HPE:=Lib.hid hP
 have HSZ:=Lib.hid hsz
 clear hm hT HV0 hsz
 go_enter Tryz.func38,Tryz.ntmps38
 rw [hL] at HV ⊢
 clear hL
 go_upto_region 4 with fail
 generalize w.alloc (nObj nk nn ns np) = W at *
 simp only [hP] at HBA HE HSZ ⊢
 clear hP d0 d1 d2 d3
 obtain ⟨e0,e1,e2,e3⟩:=cells4 HE.out
 obtain ⟨ac,hac⟩ : ∃ z,Hid (accB kd nk = z):=⟨_,Lib.hid rfl⟩
 have HA:=Lib.hid (fun w => acc_is kd nk ac hac w)
 cases ac with
 | false =>
   have HX : Hid (X = none):=Lib.hid (by rw [HX0.out,if_neg (fun h => by rw [hac.out] at h; cases h.1)])
   go_wp2_with fail
   ((with_reducible refine (HA.out _).mono ?_))
   rintro e w1 ⟨rfl,rfl⟩
   go_wp2_with fail
   go_ret2
   rw [hX.out,HX.out]
   exact ⟨rfl,by rw [HPE.out]; exact HBA.out⟩
 | true =>
 obtain ⟨fb,hfb⟩ : ∃ z,Hid (fieldsB ⟨nk,nn,ns,np⟩ kd = z):=⟨_,Lib.hid rfl⟩
 have HF:=Lib.hid (fields_any nk nn np ns kd W m HG.out hts htn)
 rw [hfb.out] at HF
 unfold tokV at HF
 go_wp2_with fail
 ((with_reducible refine (HA.out _).mono ?_))
 rintro e w1 ⟨rfl,rfl⟩
 go_wp2_with fail
 ((with_reducible refine HF.out.mono ?_))
 rintro e w2 ⟨rfl,hb2⟩
 have HE2:=Lib.hid (blk_below HE.out hb2)
 have HG2:=Lib.hid (HG.out.below hb2 HG.out.low)
 have HV2:=Lib.hid (HV.out.below hb2)
 have HB2 : Hid (Below P w w2):=Lib.hid (HBA.out.trans (hb2.mono HSZ.out))
 have HS2 : Hid (P ≤ w2.heap.size):=Lib.hid (Nat.le_trans HSZ.out hb2.size)
 clear hb2 e0 e1 e2 e3 HE HG HV HBA HSZ HF HA
 cases fb with
 | false =>
   have HX : Hid (X = none):=Lib.hid (by rw [HX0.out,if_neg (fun h => by rw [hfb.out] at h; cases h.2)])
   go_wp2_with fail
   go_ret2
   rw [hX.out,HX.out]
   exact ⟨rfl,by rw [HPE.out]; exact HB2.out⟩
 | true =>
 have HX1 : Hid (X = match kidsK ⟨nk,nn,ns,np⟩ with
  | none => none
  | some ks => nextK (fun k j => vAny p d (blkB k) k j) ks (i + 1)):=Lib.hid (by rw [HX0.out,if_pos ⟨hac.out,hfb.out⟩])
 obtain ⟨e0,e1,e2,e3⟩:=cells4 HE2.out
 have HK:=Lib.hid (kids_any nk nn np ns w2 m HG2.out)
 unfold tokV KidsPost at HK
 clear HX0
 go_wp2_with fail
 ((with_reducible refine HK.out.mono ?_))
 rintro e w3 ⟨ks,rfl,hks,hb3⟩
 have HG3:=Lib.hid (HG2.out.below hb3 HG2.out.low)
 have HV3:=Lib.hid (HV2.out.below hb3)
 have HB3 : Hid (Below P w w3):=Lib.hid (HB2.out.trans (hb3.mono HS2.out))
 have HS3 : Hid (P ≤ w3.heap.size):=Lib.hid (Nat.le_trans HS2.out hb3.size)
 clear hb3 e0 e1 e2 e3 HG2 HV2 HB2 HS2 HE2
 cases hkk : kidsK ⟨nk,nn,ns,np⟩ with
 | none =>
   have HX : Hid (X = none):=Lib.hid (by rw [HX1.out,hkk])
   clear hks
   simp only [Option.isSome_none]
   go_wp2_with fail
   go_ret2
   rw [hX.out,HX.out]
   exact ⟨rfl,by rw [HPE.out]; exact HB3.out⟩
 | some ks2 =>
   obtain rfl:=hks _ hkk
   have HX2 : Hid (nextK (fun k j => vAny p d (blkB k) k j) ks (i + 1) = X):=Lib.hid (by rw [HX1.out,hkk])
   have hkl:=kidsK_len hkk
   obtain ⟨N,hN⟩ : ∃ N,ks.length = N:=⟨_,rfl⟩
   have HN:=Lib.hid hN
   rw [hN] at hkl
   clear hks hkk HX1 HK
   simp only [Option.isSome_some]
   go_wp2_with fail
   go_loopw [13,49] (fun x y wr => ∃ (j q : Nat),x = .int .i64 q ∧ y = .int .i64 j ∧ j ≤ N ∧ q ≤ L ∧ Hid (nextK (fun k j => vAny p d (blkB k) k j) (ks.drop j) q = X) ∧ Hid (NSl wr (.slice (some ⟨g,off,none⟩) L cap) p) ∧ Hid (SynG m wr) ∧ Hid (Below P w wr) ∧ Hid (P ≤ wr.heap.size)) (fun _ y _ => N - (intOf y).toNat)
   case atStart => exact ⟨0,i + 1,by simp,rfl,by omega,by omega,HX2,HV3,HG3,HB3,HS3⟩
   case round =>
    clear HX2 HV3 HG3 HB3 HS3
    obtain ⟨j,q,rfl,rfl,hj,hq,HXJ,HV,HG,HB,HS⟩:=hrel
    obtain ⟨w4,rfl⟩ : ∃ y : World,y = wr:=⟨_,rfl⟩
    by_cases hlt : j < N
    ·have hlt' : (j : Int) < (N : Int):=by omega
     have hjk : j < ks.length:=by rw [hN]; exact hlt
     obtain ⟨kj,hkj⟩ : ∃ x,ks[j] = x:=⟨_,rfl⟩
     have HXK : Hid (X = match vAny p d (blkB kj) kj q with | none => none | some z => nextK (fun k j => vAny p d (blkB k) k j) (ks.drop (j + 1)) z):=Lib.hid (by
      rw [← HXJ.out,List.drop_eq_getElem_cons hjk,nextK,hkj] <;> rfl)
     have HC:=Lib.hid (IH.out kj q _ w4 HV.out HG.out (by rw [HL.out]; exact hq))
     unfold VPost at HC
     cases hx : vAny p d (blkB kj) kj q with
     | none =>
       rw [hx] at HC HXK
       have HX : Hid (X = none):=HXK
       clear hx HXJ HXK
       simp only [Option.isSome_none,Option.getD_none] at HC
       go_wp2_with fail
       ((with_reducible refine HC.out.mono ?_))
       rintro e w5 ⟨rfl,hb5⟩
       have HB5 : Hid (Below P w w5):=Lib.hid (HB.out.trans (hb5.mono HS.out))
       clear hb5
       go_wp2_with fail
       go_ret2
       rw [hX.out,HX.out]
       exact ⟨rfl,by rw [HPE.out]; exact HB5.out⟩
     | some z =>
       rw [hx] at HC HXK
       have hz:=(vAny_good p d (blkB kj) kj q z hx).2
       rw [HL.out] at hz
       have HX5 : Hid (nextK (fun k j => vAny p d (blkB k) k j) (ks.drop (j + 1)) z = X):=Lib.hid HXK.out.symm
       clear hx HXJ HXK
       simp only [Option.isSome_some,Option.getD_some] at HC
       go_wp2_with fail
       ((with_reducible refine HC.out.mono ?_))
       rintro e w5 ⟨rfl,hb5⟩
       have HB5 : Hid (Below P w w5):=Lib.hid (HB.out.trans (hb5.mono HS.out))
       have HV5:=Lib.hid (HV.out.below hb5)
       have HG5:=Lib.hid (HG.out.below hb5 HG.out.low)
       have HS5 : Hid (P ≤ w5.heap.size):=Lib.hid (Nat.le_trans HS.out hb5.size)
       clear hb5 HC
       go_wp2_with fail
       go_roundw
       case rel => exact ⟨j + 1,z,by go_num,by go_num,by omega,hz,HX5,HV5,HG5,HB5,HS5⟩
       case measure => simp [intOf]; omega
    ·obtain rfl : j = N:=by omega
     have HX5 : Hid (X = some q):=Lib.hid (by rw [← HXJ.out,List.drop_eq_nil_of_le (by rw [HN.out]; exact Nat.le_refl _),nextK])
     clear HXJ
     go_wp2_with fail
     go_ret2
     rw [hX.out,HX5.out]
     exact ⟨rfl,by rw [HPE.out]; exact HB.out⟩
set_option maxRecDepth 100000 in
set_option maxHeartbeats 8000000 in
theorem ch_step (m : Int) (p : List Nd) (hp : p.length ≤ 1000000) (d : Nat) (dep : Int) (hd0 : -1000 ≤ dep) (hd1 : dep ≤ 32) (ih : ElOk m p d (dep + 1)) (kd : UInt8) (hkb : blkB kd = true) (i : Nat) (v : Value) (w : World) (hv : NSl w v p) (hm : SynG m w) (hi : i < p.length) :
  Calls Tryz.prog 76 #[v,.int .i64 i,.int .u8 kd.toNat,.int .i64 dep] w (VPost w (vAny p (d + 1) true kd i)):=by
 have IH:=Lib.hid ih
 have HI:=Lib.hid (isBlk_is kd true (Lib.hid hkb))
 obtain ⟨X,hX⟩ : ∃ X,Hid (vAny p (d + 1) true kd i = X):=⟨_,Lib.hid rfl⟩
 have HX0 : Hid (X = if p[i].kind = 4 ∧ p[i].num = 0 ∧ p[i].str = [] ∧ 0 ≤ p[i].pos then nextN (vAny p d false kd) p[i].pos.toNat (i + 1) else none):=Lib.hid (by rw [← hX.out,vAny,List.getElem?_eq_getElem hi])
 have HV0:=Lib.hid hv
 obtain ⟨a,cap,rfl,hc⟩:=hv.1
 obtain ⟨g,off,rfl,hk⟩:=hc (by rintro rfl; simp at hi)
 obtain ⟨d0,d1,d2,d3⟩:=hk i hi
 have hi' : (i : Int) < (p.length : Int):=by omega
 clear hc hk hv ih hkb
 obtain ⟨T,hT⟩ : ∃ T,p[i] = T:=⟨_,rfl⟩
 rw [hT] at d0 d1 d2 d3 HX0
 obtain ⟨nk,nn,ns,np⟩:=T
 simp only at d0 d1 d2 d3 HX0
 obtain ⟨L,hL⟩ : ∃ L,p.length = L:=⟨_,rfl⟩
 have HL:=Lib.hid hL
 rw [hL] at hi hi' hp
 have HBA : Hid (Below w.heap.size w (w.alloc (nObj nk nn ns np))):=Lib.hid ((Below.refl _ _).alloc (Nat.le_refl _) _)
 have HE:=Lib.hid (heap_alloc_new w (nObj nk nn ns np))
 have HG:=Lib.hid (hm.below HBA.out hm.low)
 have HV:=Lib.hid (HV0.out.below HBA.out)
 have hsz : w.heap.size ≤ (w.alloc (nObj nk nn ns np)).heap.size:=HBA.out.size
 obtain ⟨P,hP⟩ : ∃ P,w.heap.size = P:=⟨_,rfl⟩
 have HPE:=Lib.hid hP
 have HSZ:=Lib.hid hsz
 clear hm hT HV0 hsz
 go_enter Tryz.func76,Tryz.ntmps76
 rw [hL] at HV ⊢
 clear hL
 have hnl : decide (L ≤ i) = false:=decide_eq_false (by omega)
 have hnd : decide (32 < dep) = false:=decide_eq_false (by omega)
 go_wp2_with fail
 ((with_reducible refine (HI.out _).mono ?_))
 rintro e w1 ⟨rfl,rfl⟩
 go_upto_region 6 with fail
 generalize w.alloc (nObj nk nn ns np) = W at *
 simp only [hP] at HBA HE HSZ ⊢
 clear hP d0 d1 d2 d3
 obtain ⟨e0,e1,e2,e3⟩:=cells4 HE.out
 by_cases h4 : nk = 4 ∧ nn = 0 ∧ ns = [] ∧ 0 ≤ np
 ·obtain ⟨rfl,rfl,rfl,hn0⟩:=h4
  obtain ⟨N,rfl⟩ : ∃ N : Nat,np = N:=⟨np.toNat,by omega⟩
  have HX2 : Hid (nextN (vAny p d false kd) N (i + 1) = X):=Lib.hid (by rw [HX0.out,if_pos ⟨rfl,rfl,rfl,hn0⟩] <;> rfl)
  clear HX0
  go_wp2_with fail
  go_loopw [11,58] (fun x y wr => ∃ (j q : Nat),x = .int .i64 q ∧ y = .int .i64 j ∧ j ≤ N ∧ j ≤ q ∧ q ≤ L ∧ Hid (nextN (vAny p d false kd) (N - j) q = X) ∧ Hid (NSl wr (.slice (some ⟨g,off,none⟩) L cap) p) ∧ Hid (SynG m wr) ∧ Hid (Below P w wr) ∧ Hid (P ≤ wr.heap.size)) (fun _ y _ => N - (intOf y).toNat)
  case atStart => exact ⟨0,i + 1,by simp,rfl,by omega,by omega,by omega,HX2,HV,HG,HBA,HSZ⟩
  case round =>
   clear HX2 HV HG HBA HSZ HE e0 e1 e2 e3
   obtain ⟨j,q,rfl,rfl,hj,hjq,hq,HXJ,HV,HG,HB,HS⟩:=hrel
   obtain ⟨w4,rfl⟩ : ∃ y : World,y = wr:=⟨_,rfl⟩
   by_cases hlt : j < N
   ·have hlt' : (j : Int) < (N : Int):=by omega
    have HXK : Hid (X = match vAny p d false kd q with | none => none | some z => nextN (vAny p d false kd) (N - (j + 1)) z):=Lib.hid (by
     rw [← HXJ.out,show N - j = (N - (j + 1)) + 1 by omega,nextN] <;> rfl)
    have HC:=Lib.hid (IH.out kd q _ w4 HV.out HG.out (by rw [HL.out]; exact hq))
    unfold VPost at HC
    cases hx : vAny p d false kd q with
    | none =>
      rw [hx] at HC HXK
      have HX : Hid (X = none):=HXK
      clear hx HXJ HXK
      simp only [Option.isSome_none,Option.getD_none] at HC
      go_wp2_with fail
      ((with_reducible refine HC.out.mono ?_))
      rintro e w5 ⟨rfl,hb5⟩
      have HB5 : Hid (Below P w w5):=Lib.hid (HB.out.trans (hb5.mono HS.out))
      clear hb5
      go_wp2_with fail
      go_ret2
      rw [hX.out,HX.out]
      exact ⟨rfl,by rw [HPE.out]; exact HB5.out⟩
    | some z =>
      rw [hx] at HC HXK
      have hz:=(vAny_good p d false kd q z hx).2
      have hqz:=(vAny_good p d false kd q z hx).1
      rw [HL.out] at hz
      have HX5 : Hid (nextN (vAny p d false kd) (N - (j + 1)) z = X):=Lib.hid HXK.out.symm
      clear hx HXJ HXK
      simp only [Option.isSome_some,Option.getD_some] at HC
      go_wp2_with fail
      ((with_reducible refine HC.out.mono ?_))
      rintro e w5 ⟨rfl,hb5⟩
      have HB5 : Hid (Below P w w5):=Lib.hid (HB.out.trans (hb5.mono HS.out))
      have HV5:=Lib.hid (HV.out.below hb5)
      have HG5:=Lib.hid (HG.out.below hb5 HG.out.low)
      have HS5 : Hid (P ≤ w5.heap.size):=Lib.hid (Nat.le_trans HS.out hb5.size)
      clear hb5 HC
      have hjN : (j : Int) + 1 ≤ N:=by omega
      go_wp2_with fail
      go_roundw
      case rel => exact ⟨j + 1,z,by go_num,by go_num,by omega,by omega,hz,HX5,HV5,HG5,HB5,HS5⟩
      case measure => simp [intOf]; omega
   ·obtain rfl : j = N:=by omega
    have HX5 : Hid (X = some q):=Lib.hid (by rw [← HXJ.out,Nat.sub_self,nextN])
    clear HXJ
    go_wp2_with fail
    go_ret2
    rw [hX.out,HX5.out]
    exact ⟨rfl,by rw [HPE.out]; exact HB.out⟩
 ·have HX : Hid (X = none):=Lib.hid (by rw [HX0.out,if_neg h4])
  have HN4:=Lib.hid h4
  clear HX0 h4
  by_cases g1 : nk = 4
  ·subst g1
   by_cases g2 : nn = 0
   ·subst g2
    cases ns with
    | nil =>
      have g3 : np < 0:=by
       by_cases h : np < 0
       ·exact h
       ·exact absurd ⟨rfl,rfl,rfl,by omega⟩ HN4.out
      go_wp2_with fail
      go_ret2
      rw [hX.out,HX.out]
      exact ⟨rfl,by rw [HPE.out]; exact HBA.out⟩
    | cons c r =>
      go_wp2_with fail
      go_ret2
      rw [hX.out,HX.out]
      exact ⟨rfl,by rw [HPE.out]; exact HBA.out⟩
   ·have f2 : (nn != 0) = true:=bne_iff_ne.2 g2
    clear g2
    go_wp2_with fail
    go_ret2
    rw [hX.out,HX.out]
    exact ⟨rfl,by rw [HPE.out]; exact HBA.out⟩
  ·have f1 : (nk != 4) = true:=bne_iff_ne.2 g1
   clear g1
   go_wp2_with fail
   go_ret2
   rw [hX.out,HX.out]
   exact ⟨rfl,by rw [HPE.out]; exact HBA.out⟩
theorem ch_plain (m : Int) (p : List Nd) (d : Nat) (dep : Int) (he : ElOk m p d dep) (kd : UInt8) (hkb : blkB kd = false) (i : Nat) (v : Value) (w : World) (hv : NSl w v p) (hm : SynG m w) (hi : i ≤ p.length) :
  Calls Tryz.prog 76 #[v,.int .i64 i,.int .u8 kd.toNat,.int .i64 dep] w (VPost w (vAny p d false kd i)):=by
 have HC:=Lib.hid (he kd i v w hv hm hi)
 have HI:=Lib.hid (isBlk_is kd false (Lib.hid hkb))
 unfold VPost at HC
 obtain ⟨X,hX⟩ : ∃ X,Hid (vAny p d false kd i = X):=⟨_,Lib.hid rfl⟩
 rw [hX.out] at HC
 obtain ⟨x1,hx1⟩ : ∃ z : Nat,X.getD 0 = z:=⟨_,rfl⟩
 obtain ⟨x2,hx2⟩ : ∃ z,X.isSome = z:=⟨_,rfl⟩
 rw [hx1,hx2] at HC
 have H1:=Lib.hid hx1
 have H2:=Lib.hid hx2
 clear hv hm hkb hx1 hx2
 go_enter Tryz.func76,Tryz.ntmps76
 go_wp2_with fail
 ((with_reducible refine (HI.out _).mono ?_))
 rintro e w1 ⟨rfl,rfl⟩
 go_wp2_with fail
 ((with_reducible refine HC.out.mono ?_))
 rintro e w2 ⟨rfl,hb⟩
 have HB:=Lib.hid hb
 clear hb
 go_wp2_with fail
 go_ret2
 rw [hX.out]
 exact ⟨by rw [H1.out,H2.out]; rfl,HB.out⟩
theorem valid_ok (m : Int) (p : List Nd) (hp : p.length ≤ 1000000) : ∀ (d : Nat) (dep : Int),dep + d = 33 → -900 ≤ dep → ElOk m p d dep ∧ ChOk m p d dep
 | 0,dep,h,h0 => by
   have he : ElOk m p 0 dep:=fun kd i v w hv hm hi => by
    rcases Nat.lt_or_ge i p.length with h2 | h2
    ·exact el_deep m p hp dep (by omega) kd i v w hv h2 (by omega)
    ·exact el_end m p hp 0 dep kd i v w hv h2 (by omega) (by omega)
   refine ⟨he,fun kd i v w hv hm hi => ?_⟩
   cases hk : blkB kd with
   | false => exact ch_plain m p 0 dep he kd hk i v w hv hm hi
   | true =>
     rcases Nat.lt_or_ge i p.length with h2 | h2
     ·exact ch_deep m p hp dep (by omega) kd hk i v w hv h2 (by omega)
     ·exact ch_end m p hp 0 dep kd hk i v w hv h2 (by omega) (by omega)
 | d + 1,dep,h,h0 => by
   obtain ⟨ie,ic⟩:=valid_ok m p hp d (dep + 1) (by omega) (by omega)
   have he : ElOk m p (d + 1) dep:=fun kd i v w hv hm hi => by
    rcases Nat.lt_or_ge i p.length with h2 | h2
    ·exact el_step m p hp d dep (by omega) (by omega) ic kd i v w hv hm h2
    ·exact el_end m p hp (d + 1) dep kd i v w hv h2 (by omega) (by omega)
   refine ⟨he,fun kd i v w hv hm hi => ?_⟩
   cases hk : blkB kd with
   | false => exact ch_plain m p (d + 1) dep he kd hk i v w hv hm hi
   | true =>
     rcases Nat.lt_or_ge i p.length with h2 | h2
     ·exact ch_step m p hp d dep (by omega) (by omega) ie kd hk i v w hv hm h2
     ·exact ch_end m p hp (d + 1) dep kd hk i v w hv h2 (by omega) (by omega)
end
section
open Go.RowKit
attribute [local go_sem] ByteArray.mk_append_mk bs_get bs_cut bs_end
theorem valid_any (m : Int) (p : List Nd) (v : Value) (w : World) (hv : NSl w v p) (hm : SynG m w) (hl : p.length ≤ 9223372036854775000) :
  Calls Tryz.prog 16 #[v] w fun e w' => e = .returned (.bool (validL p)) ∧ Below w.heap.size w w':=by
 obtain ⟨X,hX⟩ : ∃ X,Hid (validL p = X):=⟨_,Lib.hid rfl⟩
 have HV0:=Lib.hid hv
 have HG0:=Lib.hid hm
 have HB0:=Lib.hid (Below.refl w.heap.size w)
 obtain ⟨a,cap,rfl,hc⟩:=hv.1
 clear hc hv hm
 by_cases h2 : p.length ≤ 2048
 ·have h2' : ¬ (2048 : Int) < (p.length : Int):=by omega
  have HX0 : Hid (vTop p p.length 0 = X):=Lib.hid (by rw [← hX.out]; unfold validL; rw [decide_eq_true h2,Bool.true_and])
  have HEL:=Lib.hid (valid_ok m p (by omega) 32 1 (by omega) (by omega)).1
  obtain ⟨L,hL⟩ : ∃ L,p.length = L:=⟨_,rfl⟩
  have HL:=Lib.hid hL
  rw [hL] at h2 h2' hl HV0 HX0 ⊢
  clear hL
  go_enter Tryz.func16,Tryz.ntmps16
  go_wp2_with fail
  go_loopw [3] (fun x wr => ∃ (f q : Nat),x = .int .i64 q ∧ q ≤ L ∧ L ≤ f + q ∧ Hid (vTop p f q = X) ∧ Hid (NSl wr (.slice a L cap) p) ∧ Hid (SynG m wr) ∧ Hid (Below w.heap.size w wr)) (fun x _ => L - (intOf x).toNat)
  case atStart => exact ⟨L,0,rfl,by omega,by omega,HX0,HV0,HG0,HB0⟩
  case round =>
   clear HX0 HV0 HG0 HB0
   obtain ⟨f,q,rfl,hq,hf,HX,HV,HG,HB⟩:=hrel
   obtain ⟨w4,rfl⟩ : ∃ y : World,y = wr:=⟨_,rfl⟩
   by_cases hlt : q < L
   ·have hlt' : (q : Int) < (L : Int):=by omega
    obtain ⟨f,rfl⟩ : ∃ g,f = g + 1:=⟨f - 1,by omega⟩
    have HXK : Hid (X = match vAny p 32 false 68 q with | none => false | some j => vTop p f j):=Lib.hid (by rw [← HX.out,vTop,if_neg (by rw [HL.out]; omega)] <;> rfl)
    have HC : Hid (Calls Tryz.prog 38 #[.slice a L cap,.int .i64 q,.int .u8 68,.int .i64 1] w4 (VPost w4 (vAny p 32 false 68 q))):=Lib.hid (HEL.out 68 q _ w4 HV.out HG.out (by rw [HL.out]; exact hq))
    unfold VPost at HC
    cases hx : vAny p 32 false 68 q with
    | none =>
      rw [hx] at HC HXK
      have HX2 : Hid (X = false):=HXK
      clear hx HX HXK
      simp only [Option.isSome_none,Option.getD_none] at HC
      go_wp2_with fail
      ((with_reducible refine HC.out.mono ?_))
      rintro e w5 ⟨rfl,hb5⟩
      have HB5 : Hid (Below w.heap.size w w5):=Lib.hid (bel_then HB.out (Nat.le_refl _) hb5)
      clear hb5
      go_wp2_with fail
      go_ret
      rw [hX.out,HX2.out]
      exact ⟨rfl,HB5.out⟩
    | some z =>
      rw [hx] at HC HXK
      have hz:=vAny_good p 32 false 68 q z hx
      rw [HL.out] at hz
      obtain ⟨hz1,hz2⟩:=hz
      have HX5 : Hid (vTop p f z = X):=Lib.hid HXK.out.symm
      clear hx HX HXK
      simp only [Option.isSome_some,Option.getD_some] at HC
      go_wp2_with fail
      ((with_reducible refine HC.out.mono ?_))
      rintro e w5 ⟨rfl,hb5⟩
      have HB5 : Hid (Below w.heap.size w w5):=Lib.hid (bel_then HB.out (Nat.le_refl _) hb5)
      have HV5:=Lib.hid (HV.out.below hb5)
      have HG5:=Lib.hid (HG.out.below hb5 HG.out.low)
      clear hb5 HC
      go_wp2_with fail
      go_roundw
      case rel => exact ⟨f,z,rfl,hz2,by omega,HX5,HV5,HG5,HB5⟩
      case measure => simp [intOf]; omega
   ·have hlt' : ¬ (q : Int) < (L : Int):=by omega
    have HX5 : Hid (X = true):=Lib.hid (by
     rw [← HX.out]
     cases f with
     | zero => rw [vTop]; exact decide_eq_true (by rw [HL.out]; omega)
     | succ f => rw [vTop,if_pos (by rw [HL.out]; omega)])
    clear HX
    go_wp2_with fail
    go_ret
    rw [hX.out,HX5.out]
    exact ⟨rfl,HB.out⟩
 ·have h2' : (2048 : Int) < (p.length : Int):=by omega
  have HX0 : Hid (X = false):=Lib.hid (by rw [← hX.out]; unfold validL; rw [decide_eq_false h2,Bool.false_and])
  go_enter Tryz.func16,Tryz.ntmps16
  go_wp2_with fail
  go_ret
  rw [hX.out,HX0.out]
  exact ⟨rfl,HB0.out⟩
theorem textF_255 (s v x r : List UInt8) (h : textF s v = some (x,r)) : x.length ≤ 255:=by
 fun_induction textF s v
 all_goals first
  | (cases h; done)
  | (rename_i ih; exact ih h)
  | (injection h with h; injection h with h1 h2; rw [← h1]; omega)
theorem item_good {d t : List UInt8} {k v n : Nat} (h : itemL d = some (k,v,t,n)) : (t.length ≤ d.length ∨ t.length ≤ 255) ∧ (k = 2 → t ≠ []):=by
 cases d with
 | nil => cases h
 | cons c r =>
   rw [itemL] at h
   split at h
   ·obtain ⟨z,hz,e⟩:=Option.map_eq_some_iff.1 h
    injection e with e1 e2; injection e2 with e2 e3; injection e3 with e3 e4
    subst e1 e3
    exact ⟨.inl (by simp),fun h => by cases h⟩
   rename_i hd
   split at h
   ·rename_i hlt
    split at h
    ·split at h
     ·injection h with e
      injection e with e1 e2; injection e2 with e2 e3; injection e3 with e3 e4
      subst e1 e3
      refine ⟨.inl (by rw [List.length_take]; omega),fun _ hn => ?_⟩
      have : 1 ≤ wordN (c :: r):=wordN_pos (by unfold idB; rw [hlt] <;> rfl)
      rw [List.take_eq_nil_iff] at hn
      rcases hn with hn | hn
      ·omega
      ·cases hn
     ·cases h
    ·obtain ⟨z,hz,e⟩:=Option.map_eq_some_iff.1 h
     injection e with e1 e2; injection e2 with e2 e3; injection e3 with e3 e4
     subst e1 e3
     exact ⟨.inl (by rw [List.length_take]; omega),fun h => by cases h⟩
   split at h
   ·obtain ⟨z,hz,e⟩:=Option.map_eq_some_iff.1 h
    injection e with e1 e2; injection e2 with e2 e3; injection e3 with e3 e4
    subst e1 e3
    exact ⟨.inl (by rw [List.length_take]; omega),fun h => by cases h⟩
   split at h
   ·obtain ⟨⟨x,y⟩,hz,e⟩:=Option.map_eq_some_iff.1 h
    injection e with e1 e2; injection e2 with e2 e3; injection e3 with e3 e4
    subst e1 e3
    exact ⟨.inr (textF_255 _ _ _ _ hz),fun h => by cases h⟩
   split at h
   ·cases h
   ·injection h with e
    injection e with e1 e2; injection e2 with e2 e3; injection e3 with e3 e4
    subst e3
    refine ⟨.inl (by simp),fun h => ?_⟩
    rw [← e1] at h
    have h9 : punctK c ≠ 2:=by
     unfold punctK
     repeat' split
     all_goals decide
    exact absurd h h9
end
section
open Go.RowKit
attribute [local go_sem] ByteArray.mk_append_mk bs_get bs_cut bs_end
def TokOk (t : Tok) : Prop:=t.str.length ≤ 65536 ∧ (t.kind = 2 → t.str ≠ [])
theorem scanF_ok (s : List UInt8) (hs : s.length ≤ 65536) : ∀ (f p : Nat) (acc : List Tok),p ≤ s.length → (∀ t ∈ acc,TokOk t) → ∀ t ∈ (scanF s f p acc).1,TokOk t
 | 0,p,acc,hp,h => by rw [scanF]; exact h
 | f + 1,p,acc,hp,h => by
   obtain ⟨q,hq1,hq2,e1,e2⟩:=skip_place s p hp
   unfold scanF
   rw [e2,e1]
   split
   ·intro t ht; cases ht
   ·split
    ·exact h
    ·split
     ·intro t ht; cases ht
     ·next k v t n hi =>
      have hn : 1 ≤ n ∧ n ≤ (s.drop q).length:=itemL_le hi
      obtain ⟨g1,g2⟩:=item_good hi
      rw [List.length_drop] at hn g1
      refine scanF_ok s hs f (q + n) _ (by omega) (fun x hx => ?_)
      rcases List.mem_append.1 hx with hx | hx
      ·exact h x hx
      ·simp only [List.mem_cons,List.not_mem_nil,or_false] at hx
       subst hx
       exact ⟨by show t.length ≤ 65536; omega,g2⟩
theorem scanL_ok (s : List UInt8) : ∀ t ∈ (scanL s).1,TokOk t:=by
 unfold scanL
 split
 ·intro t ht; cases ht
 ·exact scanF_ok s (by omega) _ 0 [] (by omega) (fun t ht => by cases ht)
theorem toks_good {l : List Tok} (h : ∀ t ∈ l,TokOk t) : TGood (l.map Tok.toI):=by
 intro t ht
 obtain ⟨x,hx,rfl⟩:=List.mem_map.1 ht
 exact ⟨(h x hx).1,fun hk => (h x hx).2 (by have : (x.kind : Int) = 2:=hk; omega)⟩
theorem Toks.tokB {w : World} {B : Nat} {v : Value} {l : List Tok} (h : Toks w B v l) : TokB w w.heap.size v (l.map Tok.toI):=by
 obtain ⟨a,c,rfl⟩:=h.form
 have hcap : l.length ≤ c:=by
  rcases h.2 with ⟨hv,h0⟩ | ⟨g,cap,cur,hv,hb,hg,hn,_⟩
  ·injection hv with _ _ e; omega
  ·injection hv with _ _ e; omega
 refine ⟨a,c,by rw [List.length_map],by rw [List.length_map]; exact hcap,fun hne => ?_⟩
 have hpos : 0 < l.length:=by
  cases l with
  | nil => exact absurd rfl hne
  | cons x y => simp
 obtain ⟨b,ha,hB,q0,_⟩:=h.cells 0 hpos
 refine ⟨b,0,ha,World.block_lt_of_cell? w _ q0,fun i hi => ?_⟩
 rw [List.length_map] at hi
 obtain ⟨b2,ha2,_,k0,k1,k2,k3⟩:=h.cells i hi
 rw [ha] at ha2
 injection ha2 with ha2
 injection ha2 with ha2
 subst ha2
 rw [Nat.zero_add,List.getElem_map]
 exact ⟨k0,k1,k2,k3⟩
def progF (F : Nat) : Nat → List Nd → List TokI → PR
 | 0,ns,r => .ok r ns
 | f + 1,ns,r => if r = [] then .ok [] ns else match subP F 68 r with
   | .no x => .no x
   | .ok r1 n1 => progF F f (ns ++ n1) r1
def parseR (E : Int) : PR → List Nd × Int × Int
 | .no x => ([],posT E x,2)
 | .ok _ ns => if validL ns = true then (ns,0,0) else ([],0,11)
def parseT (E : Int) (l : List TokI) : List Nd × Int × Int:=parseR E (progF l.length l.length [] l)
def parseL (s : List UInt8) : List Nd × Int × Int :=
 if (scanL s).2.2 ≠ 0 then ([],(scanL s).2.1,(scanL s).2.2) else parseT s.length ((scanL s).1.map Tok.toI)
def NdsOk (l : List Nd) : Prop:=∀ t ∈ l,t.str.length ≤ 4000000000 ∧ 0 ≤ t.num
theorem NdsOk.app {a b : List Nd} (h : NdsOk a) (k : NdsOk b) : NdsOk (a ++ b):=fun t ht => by
 rcases List.mem_append.1 ht with ht | ht
 ·exact h t ht
 ·exact k t ht
theorem NdsOk.cons {a : List Nd} {n : Nd} (hn : n.str.length ≤ 4000000000 ∧ 0 ≤ n.num) (h : NdsOk a) : NdsOk (n :: a):=fun t ht => by
 rcases List.mem_cons.1 ht with rfl | ht
 ·exact hn
 ·exact h t ht
theorem NdsOk.tail {a : List Nd} (h : NdsOk a) : NdsOk a.tail:=fun t ht => h t (List.mem_of_mem_tail ht)
theorem NdsOk.nil : NdsOk []:=fun t ht => by cases ht
def NG (x : PR) : Prop:=match x with
 | .no _ => True
 | .ok r ns => NdsOk r ∧ NdsOk ns
section
variable {sub : UInt8 → List TokI → PR} (hs : ∀ k r,NdsOk r → NG (sub k r))
include hs
theorem callL_ng (text : List UInt8) (ht : text.length ≤ 4000000000) : ∀ (f m : Nat) (ns : List Nd) (r : List TokI),NdsOk ns → NdsOk r → NG (callL sub text f m ns r)
 | 0,m,ns,r,h,hr => trivial
 | f + 1,m,ns,r,h,hr => by
   rw [callL]
   have hk:=hs 101 r hr
   cases hx : sub 101 r with
   | no x => trivial
   | ok r1 n1 =>
     rw [hx] at hk
     simp only []
     split
     ·split
      ·exact ⟨hk.1.tail,.cons ⟨ht,by show (0 : Int) ≤ 0; omega⟩ (h.app hk.2)⟩
      ·trivial
     ·exact callL_ng text ht f (m + 1) _ _ (h.app hk.2) hk.1.tail
theorem nameP_ng (k : UInt8) (text : List UInt8) (ht : text.length ≤ 4000000000) (r : List TokI) (hr : NdsOk r) : NG (nameP sub k text r):=by
 unfold nameP
 split
 ·trivial
 split
 ·trivial
 split
 ·unfold callP
  split
  ·exact ⟨hr.tail.tail.tail,.cons ⟨ht,by show (0 : Int) ≤ 0; omega⟩ .nil⟩
  ·exact callL_ng hs text ht 7 0 [] _ .nil hr.tail.tail
 split
 ·trivial
 ·exact ⟨hr.tail,.cons ⟨ht,by show (0 : Int) ≤ 0; omega⟩ .nil⟩
theorem blockL_ng (k : UInt8) : ∀ (f m : Nat) (ns : List Nd) (r : List TokI),NdsOk ns → NdsOk r → NG (blockL sub k f m ns r)
 | 0,m,ns,r,h,hr => trivial
 | f + 1,m,ns,r,h,hr => by
   rw [blockL]
   split
   ·exact ⟨hr.tail,.cons ⟨by simp,by show (0 : Int) ≤ 0; omega⟩ h⟩
   split
   ·trivial
   have hr2 : NdsOk (if listB k = true ∧ 0 < m then r.tail else r):=by split; exact hr.tail; exact hr
   have hk:=hs k _ hr2
   cases hx : sub k (if listB k = true ∧ 0 < m then r.tail else r) with
   | no x => trivial
   | ok r1 n1 => rw [hx] at hk; exact blockL_ng k f (m + 1) _ _ (h.app hk.2) hk.1
theorem blockP_ng (k : UInt8) (r : List TokI) (hr : NdsOk r) : NG (blockP sub k r):=by
 unfold blockP
 split
 ·exact blockL_ng hs k _ 0 [] _ .nil hr.tail
 ·trivial
theorem argsL_ng : ∀ (ks : List UInt8) (first : Bool) (ns : List Nd) (r : List TokI),NdsOk ns → NdsOk r → NG (argsL sub ks first ns r)
 | [],first,ns,r,h,hr => by rw [argsL]; split; exact ⟨hr.tail,h⟩; trivial
 | k :: ks,first,ns,r,h,hr => by
   rw [argsL]
   split
   ·split; exact ⟨hr.tail,h⟩; trivial
   split
   ·trivial
   have hr2 : NdsOk (if first = false then r.tail else r):=by split; exact hr.tail; exact hr
   have hk:=hs k _ hr2
   cases hx : sub k (if first = false then r.tail else r) with
   | no x => trivial
   | ok r1 n1 => rw [hx] at hk; exact argsL_ng ks false _ _ (h.app hk.2) hk.1
theorem blksL_ng : ∀ (ks : List UInt8) (ns : List Nd) (r : List TokI),NdsOk ns → NdsOk r → NG (blksL sub ks ns r)
 | [],ns,r,h,hr => by rw [blksL]; exact ⟨hr,h⟩
 | k :: ks,ns,r,h,hr => by
   rw [blksL]
   have hk:=blockP_ng hs k r hr
   cases hx : blockP sub k r with
   | no x => trivial
   | ok r1 n1 => rw [hx] at hk; exact blksL_ng ks _ _ (h.app hk.2) hk.1
theorem opsP_ng (kinds : List UInt8) (r : List TokI) (hr : NdsOk r) : NG (opsP sub kinds r):=by
 unfold opsP
 split
 ·exact ⟨hr,.nil⟩
 split
 ·trivial
 have ha:=argsL_ng hs kinds true [] r.tail .nil hr.tail
 cases hx : argsL sub kinds true [] r.tail with
 | no x => trivial
 | ok r1 n1 => rw [hx] at ha; exact blksL_ng hs _ _ _ ha.2 ha.1
theorem wordP_ng (k : UInt8) (w : List UInt8) (r : List TokI) (hr : NdsOk r) : NG (wordP sub k w r):=by
 unfold wordP
 cases hv : varW w with
 | some x =>
   obtain ⟨op,n⟩:=x
   simp only []
   split
   ·exact ⟨hr.tail,.cons ⟨by simp,by show (0 : Int) ≤ (n : Int); omega⟩ .nil⟩
   ·trivial
 | none =>
   simp only []
   split
   ·trivial
   split
   ·split
    ·have:=opsP_ng hs [101] r.tail hr.tail
     cases hx : opsP sub [101] r.tail with
     | no x => trivial
     | ok x ns => rw [hx] at this; exact ⟨this.1,.cons ⟨by simp,by show (0 : Int) ≤ 0; omega⟩ this.2⟩
    ·exact ⟨hr.tail,.cons ⟨by simp,by show (0 : Int) ≤ 0; omega⟩ .nil⟩
   ·have:=opsP_ng hs (formP (opW w)).2 r.tail hr.tail
    cases hx : opsP sub (formP (opW w)).2 r.tail with
    | no x => trivial
    | ok x ns =>
      rw [hx] at this
      simp only []
      split
      ·have hb:=blockP_ng hs 83 x.tail this.1.tail
       cases hy : blockP sub 83 x.tail with
       | no z => trivial
       | ok r2 n2 => rw [hy] at hb; exact ⟨hb.1,.cons ⟨by simp,by show (0 : Int) ≤ 0; omega⟩ (this.2.app hb.2)⟩
      ·exact ⟨this.1,.cons ⟨by simp,by show (0 : Int) ≤ 0; omega⟩ this.2⟩
end
theorem subP_ng : ∀ (f : Nat) (k : UInt8) (r : List TokI),NdsOk r → NG (subP f k r)
 | 0,k,r,hr => trivial
 | f + 1,k,r,hr => by
   cases r with
   | nil => trivial
   | cons t q =>
     have ht:=hr t (by simp)
     unfold subP
     simp only []
     split
     ·exact nameP_ng (subP_ng f) _ _ ht.1 _ hr
     split
     ·exact wordP_ng (subP_ng f) _ _ _ hr
     split
     ·exact ⟨hr.tail,.cons ⟨by simp,ht.2⟩ .nil⟩
     split
     ·exact ⟨hr.tail,.cons ⟨ht.1,by show (0 : Int) ≤ 0; omega⟩ .nil⟩
     ·trivial
theorem progF_ng (F : Nat) : ∀ (f : Nat) (ns : List Nd) (r : List TokI),NdsOk ns → NdsOk r → NG (progF F f ns r)
 | 0,ns,r,h,hr => by rw [progF]; exact ⟨hr,h⟩
 | f + 1,ns,r,h,hr => by
   rw [progF]
   split
   ·exact ⟨.nil,h⟩
   have hk:=subP_ng F 68 r hr
   cases hx : subP F 68 r with
   | no x => trivial
   | ok r1 n1 => rw [hx] at hk; exact progF_ng F f _ _ (h.app hk.2) hk.1
def ParsePost (w : World) (x : List Nd × Int × Int) (e : Ending) (w' : World) : Prop :=
 ∃ v,e = .returned (.tuple #[v,.int .i64 x.2.1,.int .i64 x.2.2]) ∧ NodesI w' w.heap.size v x.1 ∧ Below w.heap.size w w'
end
end Go.Proofs.YtnicnfchkdmieaaGreatDoor
