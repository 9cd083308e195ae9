/- Fepa Fapa Frseg Frsga -/
import Derived.Test.YtoohondkpddmcaaGreatDoorYzz
import Derived.Test.YtoohondkpddmcaaGreatDoorYao
import Derived.Test.YtoohondkpddmcaaGreatDoorYah
import Derived.Test.YtoohondkpddmcaaGreatDoorYai
import Derived.Test.YtoohondkpddmcaaGreatDoorYam
import Derived.Test.YtoohondkpddmcaaGreatDoorYaa
namespace Go.Proofs.YtoohondkpddmcaaGreatDoor
set_option maxHeartbeats 32000000
set_option linter.unusedVariables false
set_option linter.unusedSimpArgs false
section
open Go.RowKit
attribute [local go_sem] QcV Qc6 ByteArray.mk_append_mk QcE QcF Qg1
def Qa8 (n:Nat):List UInt8:=if n=0 then [0] else if n=2 then [46] else if 2<n then 47::QaF n 1 else []
def Qf1 (x:List UInt8):List UInt8:=x++List.take (4-x.length) [0,0,0]
def QbU (root:Bool):List UInt8:=if root=true then [92] else []
def Qcl (root:Bool) (up:Nat) (l:List (List UInt8)):List UInt8:=QbU root++List.replicate up 94++Qa8 l.length++l.flatMap Qf1
theorem QkH (l:List (List UInt8)) (k:Nat) (h:k<l.length):(l.take (k+1)).flatMap Qf1=(l.take k).flatMap Qf1++Qf1 l[k]:=by
 rw [List.take_succ_eq_append_getElem h,List.flatMap_append];simp
theorem Qq8 (k:Nat) (p:List UInt8):p++List.replicate (k+1) (94:UInt8)=(p++List.replicate k 94)++[94]:=by
 rw [List.append_assoc,<- List.replicate_succ']
def Qvp (w:World) (x:List UInt8) (e:Ending) (w':World):Prop:=∃ s:List UInt8,Hid (s=x)/\s.length<=1200/\e = .returned (.string ⟨s.toArray⟩)/\Hid (Below w.heap.size w w')
theorem QpA (p:Value) (root:Bool) (up:Nat) (l:List (List UInt8)) (w:World) (hp:PathV w p root up l) (hup:up<=32) (hl:l.length<=255) (hx:∀ x∈l,1<=x.length/\x.length<=4) :
  Calls Tryz.prog 92 #[p] w (Qvp w (Qcl root up l)):=by
 obtain ⟨v,rfl,hs⟩:=hp;have HB:Hid (∀ wx,wx=w.alloc (.cells #[.bool root,.int .i64 up,v] 128)->BoxAt w wx root up v l):=Za (by rintro _ rfl;exact BoxAt.start hs);obtain ⟨a,cap,rfl,_,_⟩:=hs;go_enter Tryz.func92,Tryz.ntmps92;go_upto_if 8 with fail;go_cut [3] (fun s wx=>s = .string ⟨(QbU root).toArray⟩/\Hid (BoxAt w wx root up (.slice a l.length cap) l))
 case first =>
  cases root
  ·go_wp2_with fail;go_meet;exact ⟨rfl,Za (HB.out _ rfl)⟩
  ·go_wp2_with fail;go_meet;exact ⟨rfl,Za (HB.out _ rfl)⟩
 case rest =>
  obtain ⟨rfl,HX⟩:=hcut;obtain ⟨w1,rfl⟩:∃ x:World,x=wc:=⟨_,rfl⟩;clear HB;have hhl:(QbU root).length<=1:=by cases root<;>decide
  have HE:Hid (Qcl root up l=QbU root++List.replicate up 94++Qa8 l.length++l.flatMap Qf1):=Za rfl;generalize QbU root=hd at *;obtain ⟨p0,p1,p2⟩:=QaT HX.out.1;go_upto_block 0 with fail;go_cut [3] (fun s wx=>∃ x:List UInt8,s = .string ⟨x.toArray⟩/\x.length<=40/\Hid (x=hd++List.replicate up 94)/\w1=wx)
  case first =>
   go_wp2_with fail;go_loop [3,4] (fun s i=>∃ (k:Nat) (x:List UInt8),i = .int .i64 k/\k<=up/\s = .string ⟨x.toArray⟩/\x.length<=k+1/\Hid (x=hd++List.replicate k 94)) (fun _ i=>up-(intOf i).toNat)
   case atStart=>exact ⟨0,hd,rfl,Nat.zero_le _,rfl,by omega,Za (by simp)⟩
   case round =>
    obtain ⟨k,x,rfl,hk,rfl,hxl,HXX⟩:=hrel;by_cases hlt:k<up
    ·have hlt':(k:Int)<up:=by omega
     go_wp2_with fail;go_round
     case rel=>exact ⟨k+1,x++[94],by go_num,by omega,rfl,by simp;omega,Za (by rw [Qq8,<- HXX.out])⟩
     case measure=>simp [intOf];omega
    ·have hlt':¬ (k:Int)<up:=by omega
     obtain rfl:k=up:=by omega
     go_wp2_with fail;go_meet;exact ⟨x,rfl,by omega,HXX,rfl⟩
  case rest =>
   obtain ⟨x,rfl,hxl,HXX,rfl⟩:=hcut;clear hhl;go_upto_block 2 with fail;go_cut [3] (fun s wx=>∃ y:List UInt8,s = .string ⟨y.toArray⟩/\y.length<=60/\Hid (y=hd++List.replicate up 94++Qa8 l.length)/\Hid (BoxAt w wx root up (.slice a l.length cap) l))
   case first =>
    by_cases h0:l.length=0
    ·have h0':((l.length:Int)==0)=true:=by rw [beq_iff_eq];omega
     have HC:Hid (Qa8 l.length=[0]):=Za (if_pos h0);clear h0;go_wp2_with fail;go_meet;exact ⟨x++[0],rfl,by simp;omega,Za (by rw [HC.out,<- HXX.out]),HX⟩
    ·have h0':((l.length:Int)==0)=false:=by rw [beq_eq_false_iff_ne];omega
     by_cases h2:l.length=2
     ·have h2':((l.length:Int)==2)=true:=by rw [beq_iff_eq];omega
      have HC:Hid (Qa8 l.length=[46]):=Za (by rw [Qa8,if_neg h0,if_pos h2]);clear h0 h2;go_wp2_with fail;go_meet;exact ⟨x++[46],rfl,by simp;omega,Za (by rw [HC.out,<- HXX.out]),HX⟩
     ·have h2':((l.length:Int)==2)=false:=by rw [beq_eq_false_iff_ne];omega
      by_cases h3:2<l.length
      ·have h3':(2:Int)<l.length:=by omega
       have HC:Hid (Qa8 l.length=47::QaF l.length 1):=Za (by rw [Qa8,if_neg h0,if_neg h2,if_pos h3]);clear h0 h2;go_wp2_with fail;((with_reducible refine (Qct (l.length:Int) 1 _ (by omega) (by omega) (by omega)).mono ?_));rintro e w2 ⟨y,HY,hyl,rfl,hb2⟩;go_wp2_with fail;go_meet;exact ⟨x++(47::y),by simp,by simp;omega,Za (by rw [HC.out,<- HXX.out,HY.out]<;>rfl),Za (HX.out.below hb2)⟩
      ·have h3':¬ (2:Int)<l.length:=by omega
       have HC:Hid (Qa8 l.length=[]):=Za (by rw [Qa8,if_neg h0,if_neg h2,if_neg h3]);clear h0 h2;go_wp2_with fail;go_meet;exact ⟨x,rfl,by omega,Za (by rw [HC.out,List.append_nil];exact HXX.out),HX⟩
   case rest =>
    obtain ⟨y,rfl,hyl,HY,HX2⟩:=hcut;obtain ⟨w2,rfl⟩:∃ x:World,x=wc:=⟨_,rfl⟩;clear HX HXX p0 p1 p2 hxl;have HXM:=Za hx;clear hx;go_wp2_with fail;go_loopw [3,6] (fun s i wr=>∃ (k:Nat) (z:List UInt8),i = .int .i64 k/\k<=l.length/\s = .string ⟨z.toArray⟩/\z.length<=60+4 * k/\Hid (z=y++(l.take k).flatMap Qf1)/\Hid (BoxAt w wr root up (.slice a l.length cap) l)) (fun _ i _=>l.length-(intOf i).toNat)
    case atStart=>exact ⟨0,y,rfl,Nat.zero_le _,rfl,by omega,Za (by simp),HX2⟩
    case round =>
     obtain ⟨k,z,rfl,hk,rfl,hzl,HZ,HX⟩:=hrel;clear HX2;obtain ⟨p0,p1,p2⟩:=QaT HX.out.1;by_cases hlt:k<l.length
     ·obtain ⟨b,off,rfl,hcell⟩:∃ b off,a=some ⟨b,off,none⟩/\wr.cell? ⟨b,off+k,none⟩=some (.string ⟨l[k].toArray⟩):=by
       obtain ⟨a',cap',he,_,_,hc⟩:=HX.out.2.1;cases he;have hne:l≠[]:=by rintro rfl;simp at hlt
       obtain ⟨b,off,rfl,hcc⟩:=hc hne;exact ⟨b,off,rfl,hcc k hlt⟩
      have hxl:=HXM.out _ (List.getElem_mem hlt);have HF:=Za (QkH l k hlt);have hlt':(k:Int)<l.length:=by omega
      generalize l[k]=x at *;go_wp2_with fail;have hw1:IntKind.i64.wrap (4-(x.length:Int))=4-(x.length:Int):=IntWalk.i64_in _ (by omega);have hw2:(4-(x.length:Int)).toNat=4-x.length:=by omega
      have hw3:(0:Int)<=4-(x.length:Int):=by omega
      have hw4:4-(x.length:Int)<=3:=by omega
      go_quiet (fail);clear hw1 hw2;go_wp2_with fail;go_roundw
      case rel=>exact ⟨k+1,z++(x++List.take (4-x.length) [0,0,0]),by go_num,by omega,rfl,by simp;omega,Za (by rw [HF.out,HZ.out,List.append_assoc]<;>rfl),Za (HX.out.drewN _)⟩
      case measure=>simp [intOf];omega
     ·have hlt':¬ (k:Int)<l.length:=by omega
      have HFin:Hid (z=Qcl root up l):=Za (by rw [HE.out,HZ.out,HY.out,List.take_of_length_le (by omega)]);go_wp2_with fail;go_ret;exact ⟨z,HFin,by omega,rfl,Za HX.out.2.2⟩
end
section
open Go.RowKit
attribute [local go_sem] QcV Qc6 ByteArray.mk_append_mk QcE QcF Qg1
def QfR (root:Bool) (up:Int) (l:List (List UInt8)):List UInt8:=if QaI root up l=true then Qcl root up.toNat l else []
def AAt (w wr:World) (root:Bool) (up:Int) (v:Value) (l:List (List UInt8)) (b:Nat) (x:List UInt8):Prop:=BoxAt w wr root up v l/\Bld wr b b x/\w.heap.size+1<=b
theorem AAt.write {w wr w2:World} {root:Bool} {up:Int} {v:Value} {l:List (List UInt8)} {b:Nat} {x y:List UInt8} (h:AAt w wr root up v l b x) (h1:Bld w2 b b y) (h2:Below b wr w2) (hv:∀ a n c,v = .slice (some a) n c->l≠[]->a.block<b):AAt w w2 root up v l b y :=
 ⟨⟨(h2.block _ (by have:=h.2.2;omega)).trans h.1.1,h.1.2.1.below' h2 hv,h.1.2.2.trans (h2.mono (by have:=h.2.2;omega))⟩,h1,h.2.2⟩
theorem AAt.below {w wr w2:World} {root:Bool} {up:Int} {v:Value} {l:List (List UInt8)} {b:Nat} {x:List UInt8} (h:AAt w wr root up v l b x) (h2:Below wr.heap.size wr w2):AAt w w2 root up v l b x :=
 ⟨h.1.below h2,h.2.1.below h2,h.2.2⟩
theorem AAt.bld {w wr:World} {root:Bool} {up:Int} {v:Value} {l:List (List UInt8)} {b:Nat} {x:List UInt8} (h:AAt w wr root up v l b x):Bld wr b b x:=h.2.1
theorem QeM (B b:Nat) (l:List UInt8) (c:Int) (x:UInt8) (hc:c=x.toNat) (w:World) (h:Bld w B b l) (hlen:l.length+1<=140737488355328) :
  Calls Tryz.prog 37 #[.pointer (some ⟨b,0,none⟩),.int .u8 c] w fun e w'=>e = .returned .nilIface/\Bld w' B b (l++[x])/\Below B w w':=by
 subst hc;exact QqZ B b l x w h hlen
theorem Qq9 (l:List (List UInt8)) (k:Nat) (h:k<l.length) (hs:l[k].length<=4) (h1:1<=l[k].length):(l.take (k+1)).flatMap Qf1=(l.take k).flatMap Qf1++(l[k]++List.replicate (4-l[k].length) 0):=by
 rw [QkH l k h];unfold Qf1
 congr 2
 generalize l[k].length=n at *
 match n,hs,h1 with
 | 1,_,_=>rfl
 | 2,_,_=>rfl
 | 3,_,_=>rfl
 | 4,_,_=>rfl
theorem QpB (bb:List UInt8) (p:Value) (root:Bool) (up:Int) (l:List (List UInt8)) (w:World) (hp:PathV w p root up l) (hx:∀ x∈l,x.length<=9223372036854775000) (hbb:bb.length<=140737488351232) :
  Calls Tryz.prog 130 #[.string ⟨bb.toArray⟩,p] w fun e w'=>e = .returned (.string ⟨(bb++QfR root up l).toArray⟩)/\Below w.heap.size w w':=by
 obtain ⟨v,rfl,hs⟩:=hp;have hvlt:=hs.lt;have HX0:Hid (BoxAt w (w.alloc (.cells #[.bool root,.int .i64 up,v] 128)) root up v l):=Za (BoxAt.start hs);obtain ⟨a,cap,rfl,hl,hdrop⟩:=hs;clear hdrop;have HVL:=Za hvlt;clear hvlt;obtain ⟨p0,p1,p2⟩:=HX0.out.cells;by_cases hval:QaI root up l=true
 ·have HA:Hid (QfR root up l=Qcl root up.toNat l):=Za (if_pos hval);have hpre:Qfs root up l.length=true:=by unfold QaI at hval;simp at hval;exact hval.1
  have hall:∀ x∈l,QaV x=true:=by unfold QaI at hval;simp at hval;exact hval.2
  unfold Qfs at hpre;obtain ⟨hu0,hu1,hrt,hln,hdis⟩:=of_decide_eq_true hpre;clear hrt hdis;have hlen:l.length<=32:=by omega
  have HSZ:Hid (∀ x∈l,1<=x.length/\x.length<=4):=Za (fun x hx=>Qcj (hall x hx));obtain ⟨u,rfl⟩:=Int.eq_ofNat_of_zero_le hu0;rw [Int.toNat_natCast] at HA;clear hpre hall;have HV:=Za hval;clear hval;go_enter Tryz.func130,Tryz.ntmps130;go_wp2_with fail;((with_reducible refine (Qdp _ root _ l _ HX0.out.pathV hx).mono ?_));rintro e w1 ⟨rfl,hb1⟩;rw [HV.out];have HX1:Hid (BoxAt w w1 root u (.slice a l.length cap) l):=Za (HX0.out.below hb1);have hz1:w.heap.size+1<=w1.heap.size:=by have:=hb1.size;simpa using this
  clear HX0 hb1 p0 p1 p2;have HB0:Hid (Bld (w1.alloc (.cells #[.pointer none,.slice none 0 0] 71)) w1.heap.size w1.heap.size []):=Za (Bld.fresh w1);go_wp2_with fail;((with_reducible refine (Qiw w1.heap.size w1.heap.size [] bb _ HB0.out (by simp;omega)).mono ?_));rintro e w2 ⟨rfl,hbl,hbw⟩;obtain ⟨b,hbq⟩:∃ b,w1.heap.size=b:=⟨_,rfl⟩;have HVB:Hid (∀ a' n c,(Value.slice a l.length cap) = .slice (some a') n c->l≠[]->a'.block<b):=Za (fun a' n c h1 h2=>by have:=HVL.out a' n c h1 h2;omega);have HA2:Hid (AAt w w2 root u (.slice a l.length cap) l b bb):=Za (AAt.write (x:=[]) ⟨HX1.out.below (Zb.alloc Zc _),hbq▸HB0.out,by omega⟩ (by rw [<- hbq];exact hbl) (by rw [<- hbq];exact hbw) HVB.out);rw [hbq];clear hbl hbw HB0 HX1 hz1 hbq HVL;obtain ⟨p0,p1,p2⟩:=HA2.out.1.cells;go_upto_if 16 with fail;go_cut [] (fun wx=>∃ x:List UInt8,x.length<=bb.length+1/\Hid (x=bb++QbU root)/\Hid (AAt w wx root u (.slice a l.length cap) l b x))
  case first =>
   cases root
   ·go_wp2_with fail;go_meet;exact ⟨bb,by omega,Za (by simp [QbU]),HA2⟩
   ·go_wp2_with fail;((with_reducible refine (QeM b b bb 92 92 rfl _ HA2.out.bld (by omega)).mono ?_));rintro e w3 ⟨rfl,hbl,hbw⟩;have HA3:Hid (AAt w w3 true u (.slice a l.length cap) l b (bb++[92])):=Za (HA2.out.write hbl hbw HVB.out);clear hbl hbw;go_wp2_with fail;go_meet;exact ⟨bb++[92],by simp,Za rfl,HA3⟩
  case rest =>
   obtain ⟨x,hxl,HXE,HA3⟩:=hcut;obtain ⟨w3,rfl⟩:∃ x:World,x=wc:=⟨_,rfl⟩;clear p0 p1 p2 HA2;obtain ⟨p0,p1,p2⟩:=HA3.out.1.cells;go_wp2_with fail;((with_reducible refine (QiZ 94 u _ (by omega)).mono ?_));rintro e w4 ⟨y,HY,hyl,rfl,hb4⟩;have HYL:=Za hyl;have hyl2:y.length<=32:=by omega
   have HA4:Hid (AAt w w4 root u (.slice a l.length cap) l b x):=Za (HA3.out.below hb4);clear hb4 HA3 p0 p1 p2 hyl;go_wp2_with fail;((with_reducible refine (Qiw b b x y _ HA4.out.bld (by omega)).mono ?_));rintro e w5 ⟨rfl,hbl,hbw⟩;have HA5:Hid (AAt w w5 root u (.slice a l.length cap) l b (x++y)):=Za (HA4.out.write hbl hbw HVB.out);have HXY:Hid (x++y=bb++(QbU root++List.replicate u 94)):=Za (by rw [HXE.out,HY.out,List.append_assoc]);have hxy:(x++y).length<=bb.length+33:=by rw [List.length_append];omega
   clear hbl hbw HA4 HXE HY HYL hxl hyl2;generalize x++y=z at *;obtain ⟨p0,p1,p2⟩:=HA5.out.1.cells;go_upto_block 0 with fail;go_cut [] (fun wx=>∃ x:List UInt8,x.length<=bb.length+35/\Hid (x=bb++(QbU root++List.replicate u 94++Qa8 l.length))/\Hid (AAt w wx root u (.slice a l.length cap) l b x))
   case first =>
    by_cases h0:l.length=0
    ·have h0':((l.length:Int)==0)=true:=by rw [beq_iff_eq];omega
     have HC:Hid (Qa8 l.length=[0]):=Za (if_pos h0);clear h0;go_wp2_with fail;((with_reducible refine (QeM b b z 0 0 rfl _ HA5.out.bld (by omega)).mono ?_));rintro e w6 ⟨rfl,hbl,hbw⟩;have HA6:=Za (HA5.out.write hbl hbw HVB.out);clear hbl hbw;go_wp2_with fail;go_meet;exact ⟨z++[0],by simp;omega,Za (by rw [HC.out,HXY.out];simp),HA6⟩
    ·have h0':((l.length:Int)==0)=false:=by rw [beq_eq_false_iff_ne];omega
     by_cases h1:l.length=1
     ·have h1':((l.length:Int)==1)=true:=by rw [beq_iff_eq];omega
      have HC:Hid (Qa8 l.length=[]):=Za (by rw [h1]<;>rfl);clear h0 h1;go_wp2_with fail;go_meet;exact ⟨z,by omega,Za (by rw [HC.out,List.append_nil];exact HXY.out),HA5⟩
     ·have h1':((l.length:Int)==1)=false:=by rw [beq_eq_false_iff_ne];omega
      by_cases h2:l.length=2
      ·have h2':((l.length:Int)==2)=true:=by rw [beq_iff_eq];omega
       have HC:Hid (Qa8 l.length=[46]):=Za (by rw [Qa8,if_neg h0,if_pos h2]);clear h0 h1 h2;go_wp2_with fail;((with_reducible refine (QeM b b z 46 46 rfl _ HA5.out.bld (by omega)).mono ?_));rintro e w6 ⟨rfl,hbl,hbw⟩;have HA6:=Za (HA5.out.write hbl hbw HVB.out);clear hbl hbw;go_wp2_with fail;go_meet;exact ⟨z++[46],by simp;omega,Za (by rw [HC.out,HXY.out];simp),HA6⟩
      ·have h2':((l.length:Int)==2)=false:=by rw [beq_eq_false_iff_ne];omega
       have HC:Hid (Qa8 l.length=[47,UInt8.ofNat l.length]):=Za (by rw [Qa8,if_neg h0,if_neg h2,if_pos (by omega)];show 47::[UInt8.ofNat (l.length % 256)]=_;rw [Nat.mod_eq_of_lt (by omega)]);have hto:((l.length:Int))=(UInt8.ofNat l.length).toNat:=by rw [UInt8.toNat_ofNat'];omega
       have HTO:=Za hto;clear h0 h1 h2 hto;go_wp2_with fail;((with_reducible refine (QeM b b z 47 47 rfl _ HA5.out.bld (by omega)).mono ?_));rintro e w6 ⟨rfl,hbl,hbw⟩;have HA6:=Za (HA5.out.write hbl hbw HVB.out);clear hbl hbw;go_wp2_with fail;((with_reducible refine (QeM b b (z++[47]) _ (UInt8.ofNat l.length) HTO.out _ HA6.out.bld (by rw [List.length_append,List.length_singleton];omega)).mono ?_));rintro e w7 ⟨rfl,hbl,hbw⟩;have HA7:=Za (HA6.out.write hbl hbw HVB.out);clear hbl hbw;go_wp2_with fail;go_meet;exact ⟨z++[47]++[UInt8.ofNat l.length],by simp;omega,Za (by rw [HC.out,HXY.out];simp),HA7⟩
   case rest =>
    obtain ⟨x,hxl,HXE,HA6⟩:=hcut;obtain ⟨w6,rfl⟩:∃ x:World,x=wc:=⟨_,rfl⟩;clear p0 p1 p2 HA5 HXY hxy;obtain ⟨p0,p1,p2⟩:=HA6.out.1.cells;have HXS:=Za hx;clear hx;go_wp2_with fail;go_loopw [41] (fun i wr=>∃ (k:Nat) (z:List UInt8),i = .int .i64 k/\k<=l.length/\z.length<=bb.length+35+4 * k/\Hid (z=x++(l.take k).flatMap Qf1)/\Hid (AAt w wr root u (.slice a l.length cap) l b z)) (fun i _=>l.length-(intOf i).toNat)
    case atStart=>exact ⟨0,x,rfl,Nat.zero_le _,by omega,Za (by simp),HA6⟩
    case round =>
     obtain ⟨k,z,rfl,hk,hzl,HZ,HA7⟩:=hrel;clear HA6 p0 p1 p2;obtain ⟨p0,p1,p2⟩:=HA7.out.1.cells;by_cases hlt:k<l.length
     ·obtain ⟨b0,off,rfl,hcell⟩:=Qiv HA7.out.1.2.1 k hlt;obtain ⟨hs1,hs4⟩:=HSZ.out _ (List.getElem_mem hlt);have HF:=Za (Qq9 l k hlt hs4 hs1);have hlt':(k:Int)<l.length:=by omega
      generalize l[k]=y at *;go_wp2_with fail;((with_reducible refine (Qiw b b z y _ HA7.out.bld (by omega)).mono ?_));rintro e w8 ⟨rfl,hbl,hbw⟩;have HA8:=Za (HA7.out.write hbl hbw HVB.out);clear hbl hbw hcell p0 p1 p2;have h4y:4-(y.length:Int)=((4-y.length:Nat):Int):=by omega
      have H4Y:=Za h4y;clear h4y;go_wp2_with fail;rw [H4Y.out];((with_reducible refine (QiZ 0 (4-y.length) _ (by omega)).mono ?_));rintro e w9 ⟨t,HT,htl,rfl,hb9⟩;have htl3:t.length<=3:=by omega
      have htl2:y.length+t.length<=4:=by omega
      have HA9:=Za (HA8.out.below hb9);clear hb9 htl;go_wp2_with fail;((with_reducible refine (Qiw b b (z++y) t _ HA9.out.bld (by rw [List.length_append];omega)).mono ?_));rintro e w10 ⟨rfl,hbl,hbw⟩;have HA10:=Za (HA9.out.write hbl hbw HVB.out);clear hbl hbw;go_wp2_with fail;go_roundw
      case rel=>exact ⟨k+1,z++y++t,by go_num,by omega,by rw [List.length_append,List.length_append];omega,Za (by rw [HF.out,HZ.out,HT.out];simp),HA10⟩
      case measure=>simp [intOf];omega
     ·have hlt':¬ (k:Int)<l.length:=by omega
      have HFin:Hid (z=bb++QfR root u l):=Za (by rw [HA.out,HZ.out,HXE.out,List.take_of_length_le (by omega),Qcl];simp);go_wp2_with fail;((with_reducible refine (Qno b b z _ HA7.out.bld).mono ?_));rintro e w8 ⟨rfl,hbw⟩;go_wp2_with fail;go_ret;exact ⟨by rw [<- HFin.out];rfl,HA7.out.1.2.2.trans (hbw.mono (by have:=HA7.out.2.2;omega))⟩
 ·have hval':QaI root up l=false:=by simpa using hval
  have HA:Hid (QfR root up l=[]):=Za (if_neg hval);have HV:=Za hval';clear hval hval';go_enter Tryz.func130,Tryz.ntmps130;go_wp2_with fail;((with_reducible refine (Qdp _ root _ l _ HX0.out.pathV hx).mono ?_));rintro e w1 ⟨rfl,hb1⟩;rw [HV.out];have HX1:Hid (BoxAt w w1 root up (.slice a l.length cap) l):=Za (HX0.out.below hb1);clear HX0 hb1;go_wp2_with fail;go_ret;exact ⟨by rw [HA.out,List.append_nil];rfl,HX1.out.2.2⟩
end
section
open Go.RowKit
attribute [local go_sem] ByteArray.mk_append_mk Qah Qai Qag
def Qdz (s:List UInt8) (m n:Nat):Bool:=QaV (s.take n)&&(List.take (m-n) (List.drop n s)==List.take (m-n) [0,0,0])
def Qbq (s:List UInt8) (m:Nat):Nat->Nat->Option Nat
 | 0,_=>none
 | f+1,n=>if Qdz s m n=true then some n else Qbq s m f (n+1)
def QbP (s:List UInt8):List UInt8×Nat :=
 if 4<=s.length then match Qbq s 4 4 1 with
  | some n=>(s.take n,0)
  | none=>([],3)
 else if s=[] then ([],4) else match Qbq s s.length s.length 1 with
  | some _=>([],4)
  | none=>([],3)
theorem QcM {P:Program} {f:FuncId} {args:Array Value} {w:World} {n:Nat} {v:Value}
  (h:Calls P f args (w.drewN n) fun e w'=>e = .returned v/\w.drewN n=w'):Calls P f args (w.drewN n) fun e w''=>e = .returned v/\∃ m,w''=w.drewN m :=
 h.mono fun _ _ ⟨he,hm⟩=>⟨he,n,hm.symm⟩
theorem QuD (s:List UInt8) (w:World) (hs:s.length<=9223372036854775000) (h4:4<=s.length) :
  Calls Tryz.prog 233 #[.string ⟨s.toArray⟩] w fun e w'=>e = .returned (Qq6 (QbP s))/\Below w.heap.size w w':=by
 have HR:Hid (QbP s=match Qbq s 4 4 1 with
  | some n=>(s.take n,0)
  | none=>([],3)):=Za (if_pos h4)
 have h4':(4:Int)<=s.length:=by omega
 go_enter Tryz.func233,Tryz.ntmps233;go_wp2_with fail;go_loopw [4] (fun v wr=>∃ n:Nat,v = .int .i64 n/\1<=n/\n<=5/\Hid (Qbq s 4 4 1=Qbq s 4 (5-n) n)/\Hid (Below w.heap.size w wr)) (fun v _=>5-(intOf v).toNat)
 case atStart=>exact ⟨1,rfl,by omega,by omega,Za rfl,Za Zb⟩
 case round =>
  obtain ⟨n,rfl,hn1,hn5,HF,HB⟩:=hrel;by_cases h5:n=5
  ·subst h5;have HR2:Hid (QbP s=([],3)):=Za (by rw [HR.out,HF.out]<;>rfl);go_wp2_with fail;go_ret2;exact ⟨by rw [HR2.out];rfl,HB.out⟩
  ·have hn4:n<=4:=by omega
   have HS:Hid (Qbq s 4 (5-n) n=if Qdz s 4 n=true then some n else Qbq s 4 (5-(n+1)) (n+1)):=Za (by rw [show 5-n=(5-(n+1))+1 by omega]<;>rfl);have hl1:(List.take n s).length<=9223372036854775000:=by rw [List.length_take];omega
   have i1:(n:Int)<=4:=by omega
   have i2:(0:Int)<=4-n:=by omega
   have hw1:IntKind.i64.wrap (4-(n:Int))=4-(n:Int):=IntWalk.i64_in _ (by omega);have hw2:(4-(n:Int)).toNat=4-n:=by omega
   by_cases hseg:QaV (List.take n s)=true
   ·by_cases heq:(List.take (4-n) (List.drop n s)==List.take (4-n) [0,0,0])=true
    ·have HR2:Hid (QbP s=(s.take n,0)):=Za (by rw [HR.out,HF.out,HS.out,if_pos (by unfold Qdz;rw [hseg,heq]<;>rfl)]);go_wp2_with fail;go_quiet ((go_at_call 133;with_reducible refine QcM (Qci (List.take n s) _ hl1)));clear hw1 hw2;go_wp2_with fail;go_ret2;exact ⟨by rw [HR2.out];rfl,below_drewN HB.out _⟩
    ·have heq':(List.take (4-n) (List.drop n s)==List.take (4-n) [0,0,0])=false:=by simpa using heq
     have HF2:Hid (Qbq s 4 4 1=Qbq s 4 (5-(n+1)) (n+1)):=Za (by rw [HF.out,HS.out,if_neg (by unfold Qdz;rw [hseg,heq'];decide)]);clear heq HF HS;go_wp2_with fail;go_quiet ((go_at_call 133;with_reducible refine QcM (Qci (List.take n s) _ hl1)));clear hw1 hw2;go_wp2_with fail;go_roundw
     case rel=>exact ⟨n+1,by go_num,by omega,by omega,HF2,Za (below_drewN HB.out _)⟩
     case measure=>simp [intOf];omega
   ·have hseg':QaV (List.take n s)=false:=by simpa using hseg
    have HF2:Hid (Qbq s 4 4 1=Qbq s 4 (5-(n+1)) (n+1)):=Za (by rw [HF.out,HS.out,if_neg (by unfold Qdz;rw [hseg'];simp)]);clear hseg HF HS;go_wp2_with fail;go_quiet ((go_at_call 133;with_reducible refine QcM (Qci (List.take n s) _ hl1)));clear hw1 hw2;go_wp2_with fail;go_roundw
    case rel=>exact ⟨n+1,by go_num,by omega,by omega,HF2,Za (below_drewN HB.out _)⟩
    case measure=>simp [intOf];omega
theorem Qra (w:World) :
  Calls Tryz.prog 233 #[.string ⟨#[]⟩] w fun e w'=>e = .returned (Qq6 (QbP []))/\Below w.heap.size w w':=by
 go_enter Tryz.func233,Tryz.ntmps233;go_wp2_with fail;go_loopw [4] (fun v wr=>∃ n:Nat,v = .int .i64 n/\1<=n/\n<=5/\Hid (Below w.heap.size w wr)) (fun v _=>5-(intOf v).toNat)
 case atStart=>exact ⟨1,rfl,by omega,by omega,Za Zb⟩
 case round =>
  obtain ⟨n,rfl,hn1,hn5,HB⟩:=hrel;by_cases h5:n=5
  ·subst h5;go_wp2_with fail;go_ret2;exact ⟨rfl,HB.out⟩
  ·go_wp2_with fail;go_quiet (fail);go_wp2_with fail;go_roundw
   case rel=>exact ⟨n+1,by go_num,by omega,by omega,Za (below_drewN HB.out _)⟩
   case measure=>simp [intOf];omega
theorem Qrb (s:List UInt8) (w:World) (h4:¬ 4<=s.length) (hne:s.isEmpty=false) :
  Calls Tryz.prog 233 #[.string ⟨s.toArray⟩] w fun e w'=>e = .returned (Qq6 (QbP s))/\Below w.heap.size w w':=by
 have hs:s.length<=3:=by omega
 have h4':¬ (4:Int)<=s.length:=by omega
 have h4'':decide (4<=s.length)=false:=by rw [decide_eq_false_iff_not];exact h4
 have h4i:decide ((4:Int)<=s.length)=false:=by rw [decide_eq_false_iff_not];exact h4'
 have HR : Hid (QbP s = match Qbq s s.length s.length 1 with
         | some _=>([],4)
         | none=>([],3)):=Za (by rw [QbP,if_neg h4,if_neg (by intro h;rw [h] at hne;cases hne)])
 go_enter Tryz.func233,Tryz.ntmps233;go_upto_block 0 with fail;go_cut [] (fun wx=>Hid (Below w.heap.size w wx))
 case first =>
  go_wp2_with fail;go_loopw [4] (fun v wr=>∃ n:Nat,v = .int .i64 n/\1<=n/\n<=5/\Hid (Below w.heap.size w wr)) (fun v _=>5-(intOf v).toNat)
  case atStart=>exact ⟨1,rfl,by omega,by omega,Za Zb⟩
  case round =>
   obtain ⟨n,rfl,hn1,hn5,HB⟩:=hrel;by_cases h5:n=5
   ·subst h5;go_wp2_with fail;go_meet;exact HB
   ·go_wp2_with fail;go_quiet (fail);go_wp2_with fail;go_roundw
    case rel=>exact ⟨n+1,by go_num,by omega,by omega,Za (below_drewN HB.out _)⟩
    case measure=>simp [intOf];omega
 case rest =>
  have HB:=hcut;clear hcut;go_wp2_with fail;go_loopw [5] (fun v w2=>∃ n:Nat,v = .int .i64 n/\1<=n/\n<=s.length+1/\Hid (Qbq s s.length s.length 1=Qbq s s.length (s.length+1-n) n)/\Hid (Below w.heap.size w w2)) (fun v _=>5-(intOf v).toNat)
  case atStart=>exact ⟨1,rfl,by omega,by omega,Za rfl,HB⟩
  case round =>
   obtain ⟨n,rfl,hn1,hn5,HF,HB⟩:=hrel;by_cases hle:n<=s.length
   ·have HS:Hid (Qbq s s.length (s.length+1-n) n=if Qdz s s.length n=true then some n else Qbq s s.length (s.length+1-(n+1)) (n+1)):=Za (by rw [show s.length+1-n=(s.length+1-(n+1))+1 by omega]<;>rfl);have hl1:(List.take n s).length<=9223372036854775000:=by rw [List.length_take];omega
    have i1:(n:Int)<=s.length:=by omega
    have i2:(0:Int)<=s.length-n:=by omega
    have hw1:IntKind.i64.wrap ((s.length:Int)-(n:Int))=(s.length:Int)-(n:Int):=IntWalk.i64_in _ (by omega);have hw2:((s.length:Int)-(n:Int)).toNat=s.length-n:=by omega
    have hw3:(s.length:Int)-(n:Int)<=3:=by omega
    by_cases hseg:QaV (List.take n s)=true
    ·by_cases heq:(List.drop n s==List.take (s.length-n) [0,0,0])=true
     ·have HR2:Hid (QbP s=([],4)):=Za (by rw [HR.out,HF.out,HS.out,if_pos (by unfold Qdz;rw [Qag,hseg,heq]<;>rfl)]);go_wp2_with fail;go_quiet ((go_at_call 133;with_reducible refine QcM (Qci (List.take n s) _ hl1)));clear hw1 hw2;go_wp2_with fail;go_ret2;exact ⟨by rw [HR2.out];rfl,below_drewN HB.out _⟩
     ·have heq':(List.drop n s==List.take (s.length-n) [0,0,0])=false:=by simpa using heq
      have HF2:Hid (Qbq s s.length s.length 1=Qbq s s.length (s.length+1-(n+1)) (n+1)):=Za (by rw [HF.out,HS.out,if_neg (by unfold Qdz;rw [Qag,hseg,heq'];decide)]);clear heq HF HS;go_wp2_with fail;go_quiet ((go_at_call 133;with_reducible refine QcM (Qci (List.take n s) _ hl1)));clear hw1 hw2;go_wp2_with fail;go_roundw
      case rel=>exact ⟨n+1,by go_num,by omega,by omega,HF2,Za (below_drewN HB.out _)⟩
      case measure=>simp [intOf];omega
    ·have hseg':QaV (List.take n s)=false:=by simpa using hseg
     have HF2:Hid (Qbq s s.length s.length 1=Qbq s s.length (s.length+1-(n+1)) (n+1)):=Za (by rw [HF.out,HS.out,if_neg (by unfold Qdz;rw [hseg'];simp)]);have HSG:=Za hseg';clear hseg hseg' HF HS;go_wp2_with fail;go_quiet ((go_at_call 133;with_reducible refine QcM (QcJ (List.take n s) false HSG _ hl1)));clear hw1 hw2;go_wp2_with fail;go_roundw
     case rel=>exact ⟨n+1,by go_num,by omega,by omega,HF2,Za (below_drewN HB.out _)⟩
     case measure=>simp [intOf];omega
   ·have HR2:Hid (QbP s=([],3)):=Za (by rw [HR.out,HF.out,show s.length+1-n=0 by omega]<;>rfl);have hle':¬ (n:Int)<=s.length:=by omega
    go_wp2_with fail;go_ret2;exact ⟨by rw [HR2.out];rfl,HB.out⟩
theorem Qlo (s:List UInt8) (w:World) (hs:s.length<=9223372036854775000) :
  Calls Tryz.prog 233 #[.string ⟨s.toArray⟩] w fun e w'=>e = .returned (Qq6 (QbP s))/\Below w.heap.size w w':=by
 by_cases h4:4<=s.length
 ·exact QuD s w hs h4
 ·match s,h4 with
  | [],_=>exact Qra w
  | c::r,h4=>exact Qrb (c::r) w h4 rfl
end
section
open Go.RowKit
def upB (c:UInt8):Bool:=QgX c.toNat 0
def Qe7 (c:UInt8):Bool:=QgX c.toNat 1
theorem Qca (c:UInt8) (r:List UInt8):QaV (c::r)=(decide (r.length<=3)&&upB c&&r.all Qe7):=by
 have e1:∀ x:UInt8,(idB x&&!Qbx x)=Qe7 x:=by
  intro x;unfold idB QaC Qa7 Qbx Qe7 QgX;rw [Bool.eq_iff_iff];simp only [Bool.and_eq_true,Bool.or_eq_true,decide_eq_true_eq,Bool.not_eq_true',decide_eq_false_iff_not];omega
 have e2:∀ x:UInt8,(QaC x&&(idB x&&!Qbx x))=upB x:=by
  intro x;unfold idB QaC Qa7 Qbx upB QgX;rw [Bool.eq_iff_iff];simp only [Bool.and_eq_true,Bool.or_eq_true,decide_eq_true_eq,Bool.not_eq_true',decide_eq_false_iff_not];omega
 have e3:∀ l:List UInt8,(l.all idB&&!Qb8 l)=l.all Qe7:=by
  intro l;induction l with
  | nil=>rfl
  | cons x t ih =>
    unfold Qb8 at ih |-;rw [List.all_cons,List.any_cons,List.all_cons,<- ih,<- e1];cases idB x<;>cases Qbx x<;>cases t.all idB<;>cases t.any Qbx<;>rfl
 rw [QaV];have h:=e3 r;unfold Qb8 at h |-;rw [List.all_cons,List.any_cons,<- h,<- e2 c];cases idB c<;>cases Qbx c<;>cases QaC c<;>cases r.all idB<;>cases r.any Qbx<;>simp
theorem Qcm:Qe7 0=false:=by decide
theorem Qdb (i n:Nat) (h:0<i):Qbw 0 i n=some n:=QgY rfl h
theorem QbJ (c:UInt8) (i n:Nat) (hc:c≠0) (h:0<i):Qbw c.toNat i n=if n<i then none else if Qe7 c=true then some (i+1) else none:=by
 have h0:¬ (c.toNat=0/\0<i):=fun ⟨h,_⟩=>hc (UInt8.toNat.inj h);have e:QgX c.toNat i=Qe7 c:=by unfold Qe7 QgX;rw [Bool.eq_iff_iff,decide_eq_true_eq,decide_eq_true_eq];omega
 rw [Qbw,if_neg h0,e]
theorem Qnx (c:UInt8):Qbw c.toNat 0 0=if upB c=true then some 1 else none:=by
 rw [Qbw,if_neg (by omega),if_neg (by omega)];rfl
theorem QbD (s:List UInt8) (f i n:Nat) (c:UInt8) (h:s[i]?=some c):QbX s (f+1) i n=match Qbw c.toNat i n with
 | none=>([],3)
 | some m=>QbX s f (i+1) m:=by rw [QbX,h];rfl
theorem Qlp (s:List UInt8) (f i n:Nat) (h:s[i]?=none):QbX s (f+1) i n=([],4):=by rw [QbX,h]
theorem QfS (c:UInt8) (r:List UInt8):Qb5 (c::r)=if upB c=true then QbX (c::r) 3 1 1 else ([],3):=by
 rw [Qb5,QbD _ _ _ _ c rfl,Qnx];split<;>rename_i h<;>split at h<;>simp_all
theorem QkI (s:List UInt8):QbP s=Qb5 s:=by
 match s with
 | []=>rfl
 | [a] =>
   rw [QfS,Qlp _ _ _ _ rfl];simp [QbP,Qbq,Qdz,Qca];cases upB a<;>rfl
 | [a,b] =>
   rw [QfS];by_cases hb:b=0
   ·subst hb;rw [QbD _ _ _ _ (0:UInt8) rfl,show (0:UInt8).toNat=0 from rfl,Qdb _ _ (by omega)];simp only;rw [Qlp _ _ _ _ rfl];simp [QbP,Qbq,Qdz,Qca];cases upB a<;>rfl
   ·rw [QbD _ _ _ _ b rfl,QbJ b _ _ hb (by omega)];simp [QbP,Qbq,Qdz,Qca,hb];cases upB a<;>cases Qe7 b<;>simp [QbX]
 | [a,b,c] =>
   rw [QfS];by_cases hb:b=0
   ·subst hb;rw [QbD _ _ _ _ (0:UInt8) rfl,show (0:UInt8).toNat=0 from rfl,Qdb _ _ (by omega)];simp only;by_cases hc:c=0
    ·subst hc;rw [QbD _ _ _ _ (0:UInt8) rfl,show (0:UInt8).toNat=0 from rfl,Qdb _ _ (by omega)];simp only;rw [Qlp _ _ _ _ rfl];simp [QbP,Qbq,Qdz,Qca,Qcm];cases upB a<;>rfl
    ·rw [QbD _ _ _ _ c rfl,QbJ c _ _ hc (by omega)];simp [QbP,Qbq,Qdz,Qca,hc,Qcm]
   ·rw [QbD _ _ _ _ b rfl,QbJ b _ _ hb (by omega)];by_cases hc:c=0
    ·subst hc;simp [QbP,Qbq,Qdz,Qca,hb,Qcm];cases upB a<;>cases Qe7 b<;>simp [QbX,Qbw]
    ·simp [QbP,Qbq,Qdz,Qca,hb,hc];cases upB a<;>cases hb':Qe7 b<;>simp;rw [QbD _ _ _ _ c rfl,QbJ c _ _ hc (by omega)];cases Qe7 c<;>simp [QbX]
 | a::b::c::d::t =>
   rw [QfS];have h4:4<=(a::b::c::d::t).length:=by simp
   rw [QbP,if_pos h4];by_cases hb:b=0
   ·subst hb;rw [QbD _ _ _ _ (0:UInt8) rfl,show (0:UInt8).toNat=0 from rfl,Qdb _ _ (by omega)];simp only;by_cases hc:c=0
    ·subst hc;rw [QbD _ _ _ _ (0:UInt8) rfl,show (0:UInt8).toNat=0 from rfl,Qdb _ _ (by omega)];simp only;by_cases hd:d=0
     ·subst hd;rw [QbD _ _ _ _ (0:UInt8) rfl,show (0:UInt8).toNat=0 from rfl,Qdb _ _ (by omega)];simp [Qbq,Qdz,Qca,Qcm,QbX];cases upB a<;>rfl
     ·rw [QbD _ _ _ _ d rfl,QbJ d _ _ hd (by omega)];simp [Qbq,Qdz,Qca,Qcm,hd]
    ·rw [QbD _ _ _ _ c rfl,QbJ c _ _ hc (by omega)];simp [Qbq,Qdz,Qca,hc,Qcm]
   ·rw [QbD _ _ _ _ b rfl,QbJ b _ _ hb (by omega)];by_cases hc:c=0
    ·subst hc;by_cases hd:d=0
     ·subst hd;simp [Qbq,Qdz,Qca,hb,Qcm];cases upB a<;>cases Qe7 b<;>simp [QbX,Qbw]
     ·simp [Qbq,Qdz,Qca,hb,hd,Qcm];cases upB a<;>cases hb':Qe7 b<;>simp;rw [QbD _ _ _ _ (0:UInt8) rfl,show (0:UInt8).toNat=0 from rfl,Qdb _ _ (by omega)];simp only;rw [QbD _ _ _ _ d rfl,QbJ d _ _ hd (by omega)];simp
    ·by_cases hd:d=0
     ·subst hd;simp [Qbq,Qdz,Qca,hb,hc,Qcm];cases upB a<;>cases hb':Qe7 b<;>simp;rw [QbD _ _ _ _ c rfl,QbJ c _ _ hc (by omega)];cases Qe7 c<;>simp [QbX,Qbw]
     ·simp [Qbq,Qdz,Qca,hb,hc,hd];cases upB a<;>cases hb':Qe7 b<;>simp;rw [QbD _ _ _ _ c rfl,QbJ c _ _ hc (by omega)];cases hc':Qe7 c<;>simp;rw [QbD _ _ _ _ d rfl,QbJ d _ _ hd (by omega)];cases Qe7 d<;>simp [QbX]
end
end Go.Proofs.YtoohondkpddmcaaGreatDoor
