/- Frpa Flint Finc Prim La Nrp -/
import Derived.Test.YtoohondkpddmcaaGreatDoorYzz
import Derived.Test.YtoohondkpddmcaaGreatDoorYap
import Derived.Test.YtoohondkpddmcaaGreatDoorYan
import Derived.Test.YtoohondkpddmcaaGreatDoorYaq
import Derived.Test.YtoohondkpddmcaaGreatDoorYah
import Derived.Deep.DeepCutAuto
import Derived.Test.YtoohondkpddmcaaGreatDoorYam
import Derived.Test.YtoohondkpddmcaaGreatDoorYaj
namespace Go.Proofs.YtoohondkpddmcaaGreatDoor
set_option maxHeartbeats 32000000
set_option linter.unusedVariables false
set_option linter.unusedSimpArgs false
section
open Go.RowKit
attribute [local go_sem] QcV Qc6 ByteArray.mk_append_mk QcE QcF Qg1
theorem QcO (tmps:Array Value) (w:World) (b:Nat) (c0 c1 c2:Value) (h2:tmps.getD 2 undef = .pointer (some ⟨b,0,none⟩)) (hb:w.heap[b]?=some (.cells #[c0,c1,c2] 128 (0,0))) :
  (results Tryz.f211 tmps).run Tryz.prog w = .ok (.tuple #[.agg #[c0,c1,c2],tmps.getD 3 undef,tmps.getD 4 undef]) w:=by
 have e0:w.cell? ⟨b,0,none⟩=some c0:=(cell_of_row w _ 0 _ _ _ hb).trans rfl;have e1:w.cell? ⟨b,1,none⟩=some c1:=(cell_of_row w _ 1 _ _ _ hb).trans rfl;have e2:w.cell? ⟨b,2,none⟩=some c2:=(cell_of_row w _ 2 _ _ _ hb).trans rfl;have h2':tmps[2]?.getD undef = .pointer (some ⟨b,0,none⟩):=by rw [<- h2];simp
 simp [results];go_simp
theorem QnA (s:List UInt8) (l:List UInt8) (e:Nat) (H:Hid (Qb5 s=(l,e))) (w:World) (hm:s.length<=9223372036854775000) :
  Calls Tryz.prog 233 #[.string ⟨s.toArray⟩] w fun e' w'=>e' = .returned (.tuple #[.string ⟨l.toArray⟩,.int .i64 e])/\Below w.heap.size w w' :=
 (Qlo s w hm).mono fun _ _ ⟨he,hw⟩=>⟨by rw [he,QkI,H.out];rfl,hw⟩
theorem QpC {s:List UInt8} (h:s≠[]):∃ c r,s=c::r:=by
 cases s with
 | nil=>exact absurd rfl h
 | cons c r=>exact ⟨c,r,rfl⟩
theorem PathAt.below {w w1 w2:World} {root:Bool} {up:Int} {v:Value} (h:PathAt w w1 root up v) (hb:Below w1.heap.size w1 w2):PathAt w w2 root up v:=by
 have hl:=h.lt;exact ⟨(hb.block _ (by omega)).trans h.1,(hb.block _ (by omega)).trans h.2.1,h.2.2.trans (hb.mono (by omega))⟩
def Qvq (s:List UInt8) (up pos:Nat) (i v:Value):Prop :=
 ∃ n m:Nat,v = .int .i64 n/\i = .int .i64 ((pos:Int)+m)/\pos+m<=s.length/\n<=255/\Hid (Qa0 (s.drop pos) (32-up) (decide (0<pos))=if 32<up+n\/(n=0/\pos=0) then (0,0,3) else ((n:Int),(m:Int),0))
theorem QsT {s r:List UInt8} {up pos:Nat} (h32:¬ 32<up) (hd:s.drop pos=0::r):Qa0 (s.drop pos) (32-up) (decide (0<pos))=if 32<up+0\/(0=0/\pos=0) then (0,0,3) else (((0:Nat):Int),((1:Nat):Int),0):=by
 rw [hd,Qa0,if_pos (by decide)];by_cases h:pos=0
 ·rw [if_neg (by simp [h]),if_pos (.inr ⟨rfl,h⟩)]
 ·rw [if_pos (by simp;omega),if_neg (by omega)];rfl
theorem QuE {s r:List UInt8} {up pos:Nat} (hd:s.drop pos=46::r):Qa0 (s.drop pos) (32-up) (decide (0<pos))=if 32<up+2\/(2=0/\pos=0) then (0,0,3) else (((2:Nat):Int),((1:Nat):Int),0):=by
 rw [hd,Qa0,if_neg (by decide),if_pos (by decide)];by_cases h:32<up+2
 ·rw [if_pos (by omega),if_pos (.inl h)]
 ·rw [if_neg (by omega),if_neg (by omega)];rfl
theorem QsU {s r:List UInt8} {up pos:Nat} {d:UInt8} (h32:¬ 32<up) (hd:s.drop pos=47::d::r) (h3:¬ d.toNat<3):Qa0 (s.drop pos) (32-up) (decide (0<pos))=if 32<up+d.toNat\/(d.toNat=0/\pos=0) then (0,0,3) else ((d.toNat:Int),((2:Nat):Int),0):=by
 rw [hd,Qa0,if_neg (by decide),if_neg (by decide),if_pos (by decide)];by_cases h:32<up+d.toNat
 ·have e:(if 32<up+d.toNat\/(d.toNat=0/\pos=0) then ((0,0,3):Int×Int×Int) else ((d.toNat:Int),((2:Nat):Int),0))=(0,0,3):=if_pos (.inl h);rw [e];by_cases h5:(32:Int)-up<3
  ·rw [if_pos h5]
  ·rw [if_neg h5,QcG,if_neg h3,if_pos (by omega)]
 ·rw [if_neg (by omega),if_neg (by omega),QcG,if_neg h3,if_neg (by omega)];rfl
theorem QuF {s r:List UInt8} {up pos:Nat} {c:UInt8} (hd:s.drop pos=c::r) (h0:¬ c.toNat=0) (h1:¬ c.toNat=46) (h2:¬ c.toNat=47):Qa0 (s.drop pos) (32-up) (decide (0<pos))=if 32<up+1\/(1=0/\pos=0) then (0,0,3) else (((1:Nat):Int),((0:Nat):Int),0):=by
 rw [hd,Qa0,if_neg h0,if_neg h1,if_neg h2];by_cases h:32<up+1
 ·rw [if_pos (by omega),if_pos (.inl h)]
 ·rw [if_neg (by omega),if_neg (by omega)];rfl
theorem QuG {s:List UInt8} {root:Bool} {up pos:Nat} {d:UInt8} {r:List UInt8} (h32:¬ 32<up) (hd:s.drop pos=47::d::r) (h3:d.toNat<3):QaD s root up pos=Qbi 3:=by
 refine QeL (a:=0) (b:=0) (c:=3) h32 ?_ (by decide);rw [hd,Qa0,if_neg (by decide),if_neg (by decide),if_pos (by decide)];split
 ·rfl
 ·rw [QcG,if_pos h3]
theorem QsV {s:List UInt8} {root:Bool} {up pos:Nat} (h32:¬ 32<up) (hd:s.drop pos=[47]) (h3:32<up+3):QaD s root up pos=Qbi 3:=by
 refine QeL (a:=0) (b:=0) (c:=3) h32 ?_ (by decide);rw [hd,Qa0,if_neg (by decide),if_neg (by decide),if_pos (by decide),if_pos (by omega)]
theorem QsW {s:List UInt8} {root:Bool} {up pos:Nat} (h32:¬ 32<up) (hd:s.drop pos=[47]) (h3:¬ 32<up+3):QaD s root up pos=Qbi 4:=by
 refine QeL (a:=0) (b:=0) (c:=4) h32 ?_ (by decide);rw [hd,Qa0,if_neg (by decide),if_neg (by decide),if_pos (by decide),if_neg (by omega)];rfl
set_option maxRecDepth 100000 in
theorem QpD (s:List UInt8) (w:World) (hm:s.length<=9223372036854774000):Calls Tryz.prog 211 #[.string ⟨s.toArray⟩] w (QgZ w (Qay s)):=by
 have HR:=Za (Qhw s);have hple:=Ql8 s;have hule:=Qoy s (Qbh s);have HU:Hid (Qln s (Qbh s)=if Qbh s=true then 0 else Qbo s):=Za rfl;have HQ:Hid (Qfw s (Qbh s)=if Qbh s=true then 1 else Qbo s):=Za rfl;have HO:Hid (s≠[]->∀ h:0<s.length,Qbh s=((s[0].toNat:Int)==92)):=Za (by
  intro hne h;obtain ⟨c,r,rfl⟩:=QpC hne;show (c==92)=((c.toNat:Int)==92);rw [Bool.eq_iff_iff,beq_iff_eq,beq_iff_eq];constructor
  ·intro h;rw [h];rfl
  ·intro h;exact UInt8.toNat.inj (Int.ofNat.inj h))
 have HO0:Hid (s=[]->Qbh s=false):=Za (by rintro rfl;rfl);generalize Qln s (Qbh s)=up at *;generalize Qfw s (Qbh s)=pos at *;generalize Qbh s=root at *;go_enter Tryz.func211,Tryz.ntmps211;go_upto_region 3 with fail;go_cut [18] (fun z wx=>z = .bool root/\Hid (PathAt w wx false 0 (.slice none 0 0)))
 case first =>
  by_cases hne:s=[]
  ·have h0:=HO0.out hne;subst hne;subst h0;go_wp2_with fail;go_meet;exact ⟨rfl,Za (PathAt.start w)⟩
  ·have hpos:0<s.length:=List.length_pos_iff.2 hne;have h0:=HO.out hne hpos;have hie:s.isEmpty=false:=by cases s with
    | nil=>exact absurd rfl hne
    | cons _ _=>rfl
   have H0:=Za h0;clear h0 hne;go_wp2_with fail;go_meet;exact ⟨by rw [H0.out],Za (PathAt.start w)⟩
 case rest =>
  obtain ⟨rfl,HP⟩:=hcut;obtain ⟨w1,rfl⟩:∃ x:World,x=wc:=⟨_,rfl⟩;clear HO HO0;go_upto_if 18 with fail;go_cut [6] (fun i wx=>i = .int .i64 (if root=true then 1 else 0)/\Hid (PathAt w wx root 0 (.slice none 0 0)))
  case first =>
   have f0:=HP.out.free 0;have c0:=HP.out.cells.1;cases root
   ·go_wp2_with fail;go_meet;exact ⟨rfl,HP⟩
   ·go_wp2_with fail;go_meet;exact ⟨rfl,Za (HP.out.root true)⟩
  case rest =>
   obtain ⟨rfl,HP1⟩:=hcut;clear HP;obtain ⟨w2,rfl⟩:∃ x:World,x=wc:=⟨_,rfl⟩;go_upto_block 0 with fail;go_cut [6] (fun i wx=>i = .int .i64 pos/\Hid (PathAt w wx root up (.slice none 0 0)))
   case first =>
    cases root
    ·have HQ':Hid (pos=Qbo s):=HQ;have HU':Hid (up=Qbo s):=HU;clear HQ HU HR;go_wp2_with fail;go_loopw [6] (fun i wr=>∃ k:Nat,i = .int .i64 k/\k<=s.length/\Hid (Qbo s=k+Qbo (s.drop k))/\Hid (PathAt w wr false k (.slice none 0 0))) (fun i _=>s.length-(intOf i).toNat)
     case atStart=>exact ⟨0,rfl,Nat.zero_le _,Za (by simp),HP1⟩
     case round =>
      obtain ⟨k,rfl,hk,HC,HP⟩:=hrel;obtain ⟨c0,c1,c2⟩:=HP.out.cells;have f1:=HP.out.free 1;by_cases hl:k<s.length
      ·by_cases h94:s[k].toNat=94
       ·have h94':(s[k].toNat:Int)=94:=by omega
        go_wp2_with fail;go_roundw
        case rel=>exact ⟨k+1,by go_num,by omega,Za (by rw [HC.out,Qi9 s k hl h94]),Za (HP.out.up _)⟩
        case measure=>simp [intOf];omega
       ·have h94':¬ (s[k].toNat:Int)=94:=by omega
        have HK:Hid (Qbo s=k):=Za (by rw [HC.out,QkB s k hl h94];omega);go_wp2_with fail;go_meet;exact ⟨by rw [HQ'.out,HK.out],Za (by rw [HU'.out,HK.out];exact HP.out)⟩
      ·have HK:Hid (Qbo s=k):=Za (by rw [HC.out,List.drop_eq_nil_of_le (by omega)]<;>rfl);go_wp2_with fail;go_meet;exact ⟨by rw [HQ'.out,HK.out],Za (by rw [HU'.out,HK.out];exact HP.out)⟩
    ·have HQ':Hid (pos=1):=HQ;have HU':Hid (up=0):=HU;clear HQ HU HR;have c0:=HP1.out.cells.1;go_wp2_with fail;refine wp_loop_rounds 1 ?_;rw [rounds_succ];go_wp2_with fail;go_meet;exact ⟨by rw [HQ'.out];rfl,Za (by rw [HU'.out];exact HP1.out)⟩
   case rest =>
    obtain ⟨rfl,HP⟩:=hcut;obtain ⟨w3,rfl⟩:∃ x:World,x=wc:=⟨_,rfl⟩;have HZ:Hid ((decide (pos=0))=(!root&&decide (up=0))):=Za (by
     rw [HQ.out,HU.out];cases root<;>simp)
    clear HP1 HU HQ;obtain ⟨c0,c1,c2⟩:=HP.out.cells;have f2:=HP.out.free 2;obtain ⟨r0,r1,r2⟩:=HP.out.res;have g0:=HP.out.resFree 0;have g1:=HP.out.resFree 1;have g2:=HP.out.resFree 2;by_cases h32:32<up
    ·have h32':(32:Int)<up:=by omega
     have HR2:Hid (Qay s=Qbi 3):=Za (by rw [HR.out,QaD,if_pos h32]);go_wp2_with fail;exact bodyPost_ret (QcO _ _ _ _ _ _ rfl (HP.out.put _ _ _).1) rfl (Qcu HP.out s 3 HR2.out)
    ·have h32':¬ (32:Int)<up:=by omega
     by_cases hend:pos=s.length
     ·have HR2:Hid (Qay s=Qbi 4):=Za (by rw [HR.out,QeL (a:=0) (b:=0) (c:=4) h32 (by rw [List.drop_eq_nil_of_le (by omega)]<;>rfl) (by decide)]<;>rfl);have hend':((pos:Int)==s.length)=true:=by rw [beq_iff_eq];omega
      clear hend;go_wp2_with fail;exact bodyPost_ret (QcO _ _ _ _ _ _ rfl (HP.out.put _ _ _).1) rfl (Qcu HP.out s 4 HR2.out)
     ·have hend':((pos:Int)==s.length)=false:=by rw [beq_eq_false_iff_ne];omega
      have hlt:pos<s.length:=by omega
      have hdr:Hid (s.drop pos=s[pos]::s.drop (pos+1)):=Za (List.drop_eq_getElem_cons hlt);clear hend;go_upto_block 2 with fail;go_cut [6,7] (fun i v wx=>Qvq s up pos i v/\w3=wx)
      case first =>
       obtain ⟨c,hc⟩:∃ c,s[pos]=c:=⟨_,rfl⟩;have hcl:=c.toNat_lt;have hci:s[pos]'hlt=c:=hc;have HD:Hid (s.drop pos=c::s.drop (pos+1)):=Za (by rw [hdr.out,hc]);clear hdr;by_cases c0:c.toNat=0
       ·obtain rfl:c=0:=UInt8.toNat.inj c0;go_wp2_with fail;go_meet;exact ⟨⟨0,1,rfl,by go_num,by omega,by omega,Za (QsT h32 HD.out)⟩,rfl⟩
       ·by_cases c46:c.toNat=46
        ·obtain rfl:c=46:=UInt8.toNat.inj c46;go_wp2_with fail;go_meet;exact ⟨⟨2,1,rfl,by go_num,by omega,by omega,Za (QuE HD.out)⟩,rfl⟩
        ·by_cases c47:c.toNat=47
         ·obtain rfl:c=47:=UInt8.toNat.inj c47;by_cases he:pos+1=s.length
          ·have HD2:Hid (s.drop pos=[47]):=Za (by rw [HD.out,List.drop_eq_nil_of_le (by omega)]);have he':((pos:Int)+1==s.length)=true:=by rw [beq_iff_eq];omega
           clear he;by_cases h3:32<up+3
           ·have h3':(32:Int)<(up:Int)+3:=by omega
            have HR2:Hid (Qay s=Qbi 3):=Za (HR.out.trans (QsV h32 HD2.out h3));go_wp2_with fail;exact bodyPost_ret (QcO _ _ _ _ _ _ rfl (HP.out.put _ _ _).1) rfl (Qcu HP.out s 3 HR2.out)
           ·have h3':¬ (32:Int)<(up:Int)+3:=by omega
            have HR2:Hid (Qay s=Qbi 4):=Za (HR.out.trans (QsW h32 HD2.out h3));go_wp2_with fail;exact bodyPost_ret (QcO _ _ _ _ _ _ rfl (HP.out.put _ _ _).1) rfl (Qcu HP.out s 4 HR2.out)
          ·have hlt2:pos+1<s.length:=by omega
           have he':((pos:Int)+1==s.length)=false:=by rw [beq_eq_false_iff_ne];omega
           clear he;obtain ⟨d,hd⟩:∃ d,s[pos+1]=d:=⟨_,rfl⟩;have hdl:=d.toNat_lt;have HD2:Hid (s.drop pos=47::d::s.drop (pos+1+1)):=Za (by rw [HD.out,List.drop_eq_getElem_cons hlt2,hd]);by_cases h3:d.toNat<3
           ·have h3':(d.toNat:Int)<3:=by omega
            have HR2:Hid (Qay s=Qbi 3):=Za (HR.out.trans (QuG h32 HD2.out h3));go_wp2_with fail;exact bodyPost_ret (QcO _ _ _ _ _ _ rfl (HP.out.put _ _ _).1) rfl (Qcu HP.out s 3 HR2.out)
           ·have h3':¬ (d.toNat:Int)<3:=by omega
            go_wp2_with fail;go_meet;exact ⟨⟨d.toNat,2,rfl,by go_num,by omega,by omega,Za (QsU h32 HD2.out h3)⟩,rfl⟩
         ·have e0:¬ (c.toNat:Int)=0:=by omega
          have e46:¬ (c.toNat:Int)=46:=by omega
          have e47:¬ (c.toNat:Int)=47:=by omega
          go_wp2_with fail;go_meet;exact ⟨⟨1,0,rfl,by go_num,by omega,by omega,Za (QuF HD.out c0 c46 c47)⟩,rfl⟩
      case rest =>
       obtain ⟨⟨n,m,rfl,rfl,hpm,hn,HC⟩,rfl⟩:=hcut;clear hdr hend' hlt g0 g1 g2 r0 r1 r2 f2 c2;obtain ⟨r0,r1,r2⟩:=HP.out.res;have g0:=HP.out.resFree 0;have g1:=HP.out.resFree 1;have g2:=HP.out.resFree 2;have HB:Hid (decide (32<up+n\/(n=0/\pos=0))=(decide (32<up+n)||(decide (n=0)&&(!root&&decide (up=0))))):=Za (by rw [<- HZ.out];simp);clear HZ;go_upto_region 28 with fail;go_cut [115] (fun z wx=>z = .bool (decide (32<up+n\/(n=0/\pos=0)))/\w3=wx)
       case first =>
        by_cases h1:32<up+n
        ·have h1':(32:Int)<(up:Int)+n:=by omega
         have HB2:Hid (decide (32<up+n\/(n=0/\pos=0))=true):=Za (by rw [HB.out,decide_eq_true h1]<;>rfl);go_wp2_with fail;go_meet;exact ⟨by rw [HB2.out],rfl⟩
        ·have h1':¬ (32:Int)<(up:Int)+n:=by omega
         by_cases hn0:n=0
         ·subst hn0;cases root
          ·by_cases hu:up=0
           ·have hu':((up:Int)==0)=true:=by rw [beq_iff_eq];omega
            have HB2:Hid (decide (32<up+0\/(0=0/\pos=0))=true):=Za (by rw [HB.out,decide_eq_true hu];simp);clear hu;go_wp2_with fail;go_meet;exact ⟨by rw [HB2.out],rfl⟩
           ·have hu':((up:Int)==0)=false:=by rw [beq_eq_false_iff_ne];omega
            have HB2:Hid (decide (32<up+0\/(0=0/\pos=0))=false):=Za (by rw [HB.out,decide_eq_false hu,decide_eq_false h1]<;>rfl);clear hu;go_wp2_with fail;go_meet;exact ⟨by rw [HB2.out],rfl⟩
          ·have HB2:Hid (decide (32<up+0\/(0=0/\pos=0))=false):=Za (by rw [HB.out,decide_eq_false h1]<;>rfl);go_wp2_with fail;go_meet;exact ⟨by rw [HB2.out],rfl⟩
         ·have hn0':((n:Int)==0)=false:=by rw [beq_eq_false_iff_ne];omega
          have HB2:Hid (decide (32<up+n\/(n=0/\pos=0))=false):=Za (by rw [HB.out,decide_eq_false h1,decide_eq_false hn0]<;>rfl);clear hn0;go_wp2_with fail;go_meet;exact ⟨by rw [HB2.out],rfl⟩
       case rest =>
        obtain ⟨rfl,rfl⟩:=hcut;clear HB;by_cases hbad:32<up+n\/(n=0/\pos=0)
        ·have HR2:Hid (Qay s=Qbi 3):=Za (by rw [HR.out,QeL h32 (HC.out.trans (if_pos hbad)) (by decide)]<;>rfl);rw [decide_eq_true hbad];clear hbad;go_wp2_with fail;exact bodyPost_ret (QcO _ _ _ _ _ _ rfl (HP.out.put _ _ _).1) rfl (Qcu HP.out s 3 HR2.out)
        ·have HR2:Hid _:=Za (HR.out.trans (Qoz h32 (HC.out.trans (if_neg hbad))));simp only [Int.toNat_natCast] at HR2;rw [decide_eq_false hbad];clear hbad HR HC c0 c1 r0 r1 r2 g0 g1 g2;go_wp2_with fail;go_loopw [6,8] (fun i6 i62 wr=>Qnw w s root up n (pos+m) i6 i62 wr) (fun _ i _=>n-(intOf i).toNat)
         case atStart=>exact ⟨0,pos+m,[],_,by go_num,rfl,Nat.zero_le _,hpm,rfl,Za rfl,HP,Za (World.ownsRow_nil _ _ _ _)⟩
         case round =>
          obtain ⟨k,p,acc,v,rfl,rfl,hk,hp,hacc,HG,HP2,HO2⟩:=hrel;have HA:=Za hacc;have hal:acc.length<=n:=by omega
          clear hacc HP;by_cases hlt:k<n
          ·obtain ⟨⟨l,e⟩,hsg⟩:∃ x,x=Qb5 (s.drop p):=⟨_,rfl⟩;have HS:Hid (Qb5 (s.drop p)=(l,e)):=Za hsg.symm;clear hsg;go_wp2_with fail;((with_reducible refine (QnA (s.drop p) l e HS _ (by rw [List.length_drop];omega)).mono ?_));rintro e' w4 ⟨rfl,hb4⟩;have HP:Hid (PathAt w w4 root up v):=Za (HP2.out.below hb4);have HO:Hid (w4.ownsRow (w.heap.size+2) 9 1 v acc.length (acc.map QbT)):=Za (QbH HO2.out hb4);clear hb4 HP2 HO2;have c2:=HP.out.cells.2.2;have f2:=HP.out.free 2;obtain ⟨r0,r1,r2⟩:=HP.out.res;have g0:=HP.out.resFree 0;have g1:=HP.out.resFree 1;have g2:=HP.out.resFree 2;by_cases he:e=0
           ·subst he;have h4:p+4<=s.length:=by
             have:=QkE (s.drop p) (by rw [HS.out]);rw [List.length_drop] at this;omega
            obtain ⟨i0,hi,hz0,hz1,hz2⟩:=info_parts QkG;have hba:w.heap.size+2<=(w4.alloc (.cells #[.string ⟨l.toArray⟩] 9)).heap.size:=by have:=HP.out.lt;simp;omega
            go_wp2_with (at_builtin;refine wpList_append_lies _ rfl _ _ 49 rfl (w.heap.size+2) 9 i0 _ 1 16 Tryz.underlying49 hi hz0 hz1 hz2 rfl (by omega) v acc.length _ rfl (HO.out.alloc _) ⟨w4.heap.size,0,none⟩ 1 1 [.string ⟨l.toArray⟩] rfl rfl (World.news_of_block (heap_alloc_new w4 _)) (by intro u hu;simp at hu;subst hu;rfl) (by omega) (by unfold maxLen;omega) (by omega) hba _ rfl ?_;intro g cap w5 hown hgrow hat hlt5;have H1:=Za hown;have H2:=Za hgrow;have HP5:Hid (PathAt w w5 root up v):=Za ((HP.out.alloc _).grown hgrow (fun k hk=>(HO.out.lt k hk).1));have f5:=HP5.out.free 2;have c5:=HP5.out.cells.2.2;clear hown hgrow hat hlt5 r0 r1 r2 g0 g1 g2 c2 f2);go_roundw
            case rel=>exact Ql9 hlt HA.out HG HP HO HS h4 H1 H2
            case measure=>simp [intOf];omega
           ·have he':((e:Int) != 0)=true:=by simpa using he
            have HR3:Hid (Qay s=Qbi e):=Za (by rw [HR2.out,HG.out,show n-k=(n-k-1)+1 by omega,Qjb HS.out he,if_neg he]);go_wp2_with fail;exact bodyPost_ret (QcO _ _ _ _ _ _ rfl (HP.out.put _ _ _).1) rfl (Qcu HP.out s _ HR3.out)
          ·obtain rfl:k=n:=by omega
           have HR3:Hid (Qay s=⟨root,up,acc,p,0⟩):=Za (by rw [HR2.out,HG.out,Nat.sub_self]<;>rfl);obtain ⟨va,vn,vc,rfl⟩:=QfQ HO2.out;obtain ⟨c0,c1,c2⟩:=HP2.out.cells;obtain ⟨r0,r1,r2⟩:=HP2.out.res;have g0:=HP2.out.resFree 0;have g1:=HP2.out.resFree 1;have g2:=HP2.out.resFree 2;go_wp2_with fail;exact bodyPost_ret (QcO _ _ _ _ _ _ rfl (HP2.out.put _ _ _).1) rfl (QkC HP2.out HO2.out s HR3.out)
end
section
open Go.RowKit
attribute [local go_sem] QcV Qc6 ByteArray.mk_append_mk QcE QcF
theorem Qrg (r:List UInt8):Qba (10::r)=Qbt r 1 2:=by
 rw [Qba,if_neg (by decide),if_neg (by decide),if_pos (by decide)]
theorem Qrh (r:List UInt8):Qba (11::r)=Qbt r 2 256:=by
 rw [Qba,if_neg (by decide),if_neg (by decide),if_neg (by decide),if_pos (by decide)]
theorem Qri (r:List UInt8):Qba (12::r)=Qbt r 4 65536:=by
 rw [Qba,if_neg (by decide),if_neg (by decide),if_neg (by decide),if_neg (by decide),if_pos (by decide)]
theorem Qrj (r:List UInt8):Qba (14::r)=Qbt r 8 4294967296:=by
 rw [Qba,if_neg (by decide),if_neg (by decide),if_neg (by decide),if_neg (by decide),if_neg (by decide),if_pos (by decide)]
end
section
open Go.RowKit
attribute [local go_sem] QcV Qc6 ByteArray.mk_append_mk QcE QcF Qg1
theorem Qjj (s:List UInt8):∀ n p acc,(Qbn s n p acc).1.length<=acc.length+n
 | 0,_,_=>Nat.le_refl _
 | n+1,p,acc=>by
   rw [Qbn];split
   ·have:=Qjj s n (p+4) (acc++[(Qb5 (s.drop p)).1]);rw [List.length_append,List.length_singleton] at this;omega
   ·exact Nat.zero_le _
theorem Qgp (s:List UInt8):(Qay s).segs.length<=255:=by
 rw [Qhw];generalize Qbh s=r;generalize Qln s r=u;generalize Qfw s r=p;unfold QaD;have h:=Qgn (s.drop p) (32-u) (decide (0<p));dsimp only;split
 ·simp [Qbi]
 ·split
  ·split
   ·have:=Qjj s (Qa0 (s.drop p) (32-u) (decide (0<p))).1.toNat (p+(Qa0 (s.drop p) (32-u) (decide (0<p))).2.1.toNat) [];simp only [List.length_nil] at this;show (Qbn _ _ _ _).1.length<=255;omega
   ·simp [Qbi]
  ·simp [Qbi]
def Que (w:World) (r:PathR) (e:Ending) (w':World):Prop :=
 ∃ a n c,e = .returned (.tuple #[.agg #[.bool r.root,.int .i64 r.up,.slice a n c],.int .i64 r.pos,.int .i64 r.err])/\Hid (StrsAt w' (.slice a n c) r.segs)/\Hid (Below w.heap.size w w')
theorem QuH (s:List UInt8) (w:World) (hm:s.length<=9223372036854774000):Calls Tryz.prog 152 #[.string ⟨s.toArray⟩] w (Que w (Qay s)) :=
 (Qq7 s w hm).mono fun _ _ ⟨v,he,ho,hb⟩=>by
  obtain ⟨a,n,c,rfl⟩:=QfQ ho;exact ⟨a,n,c,he,Za (StrsAt.of_own ho (by have:=Qgp s;omega)),Za hb⟩
end
section

end
section
open Go.RowKit
def QbL (op:Int):Nat :=
 if 10<=op/\op<=21 then (op+6).toNat else if 30<=op/\op<=42 then (op+82).toNat else if 60<=op/\op<=88 then (op+68).toNat
 else if op=50 then 48 else if op=51 then 49 else if op=5 then 63 else if op=6 then 96 else if op=7 then 104 else 0
def Qcv (op:Int):Bool:=decide (10<=op/\op<=21)||decide (30<=op/\op<=42)||decide (60<=op/\op<=88)||op==50||op==51||op==5||op==6||op==7
def QbQ (s:List UInt8):List UInt8:=Qcl (QaJ s) (Qbp s) (QaG s)
def Qa4 (sub:Nat->List UInt8×Nat):Nat->Nat->List UInt8×Nat
 | 0,i=>([],i)
 | m+1,i=>((sub i).1++(Qa4 sub m (sub i).2).1,(Qa4 sub m (sub i).2).2)
def QaB (p:List Nd):Nat->Nat->List UInt8×Nat
 | 0,i=>([],i)
 | d+1,i=>match p[i]? with
   | none=>([],i)
   | some n =>
     if n.kind=1 then (QaX n.num.toNat,i+1)
     else if n.kind=2 then (Qdy n.str,i+1)
     else if n.kind=3 then (QbQ n.str,i+1)
     else if n.kind=4 then (Qa3 ((Qa4 (QaB p d) n.pos.toNat (i+1)).1.length:Nat)++(Qa4 (QaB p d) n.pos.toNat (i+1)).1,(Qa4 (QaB p d) n.pos.toNat (i+1)).2)
     else if n.kind=6\/n.kind=7 then ([UInt8.ofNat (QbL n.kind+n.num.toNat)],i+1)
     else if n.kind=5 then (63::(QbQ n.str++UInt8.ofNat n.pos.toNat::(Qa4 (QaB p d) n.pos.toNat (i+1)).1),(Qa4 (QaB p d) n.pos.toNat (i+1)).2)
     else if n.kind=33 then (115::UInt8.ofNat n.pos.toNat::(Qa4 (QaB p d) n.pos.toNat (i+1)).1,(Qa4 (QaB p d) n.pos.toNat (i+1)).2)
     else if n.kind=31 then (113::((Qa4 (QaB p d) 2 (i+1)).1++UInt8.ofNat (n.pos-2).toNat::(Qa4 (QaB p d) (n.pos-2).toNat (Qa4 (QaB p d) 2 (i+1)).2).1),(Qa4 (QaB p d) (n.pos-2).toNat (Qa4 (QaB p d) 2 (i+1)).2).2)
     else (UInt8.ofNat (QbL n.kind)::(Qa4 (QaB p d) n.pos.toNat (i+1)).1,(Qa4 (QaB p d) n.pos.toNat (i+1)).2)
def Qdr (p:List Nd):Nat->Nat->List UInt8
 | 0,_=>[]
 | f+1,i=>if p.length<=i then [] else (QaB p 32 i).1++Qdr p f (QaB p 32 i).2
def Qfj (p:List Nd):List UInt8×Int :=
 if Qbk p=false then ([],1) else if 65536<(Qdr p p.length 0).length then ([],11) else (Qdr p p.length 0,0)
def chV (p:List Nd) (d:Nat):Nat->Nat->Nat->Prop
 | 0,i,j=>i=j
 | m+1,i,j=>∃ b k q,Qaz p d b k i=some q/\chV p d m q j
theorem Quf {p:List Nd} {d:Nat} {k:UInt8}:∀ (m i j:Nat),Qb4 (Qaz p d false k) m i=some j->chV p d m i j
 | 0,i,j,h=>by rw [Qb4] at h;injection h
 | m+1,i,j,h=>by
   rw [Qb4] at h;cases hx:Qaz p d false k i with
   | none=>rw [hx] at h;cases h
   | some q=>rw [hx] at h;exact ⟨false,k,q,hx,Quf m q j h⟩
theorem Qug {p:List Nd} {d:Nat}:∀ (ks:List UInt8) (i j:Nat),QbC (fun k j=>Qaz p d (QaZ k) k j) ks i=some j->chV p d ks.length i j
 | [],i,j,h=>by rw [QbC] at h;injection h
 | k::ks,i,j,h=>by
   rw [QbC] at h;cases hx:Qaz p d (QaZ k) k i with
   | none=>rw [hx] at h;cases h
   | some q=>rw [hx] at h;exact ⟨_,k,q,hx,Qug ks q j h⟩
theorem QfU {p:List Nd} {d:Nat}:∀ (a b i j:Nat),chV p d (a+b) i j->∃ q,chV p d a i q/\chV p d b q j
 | 0,b,i,j,h=>⟨i,rfl,by rwa [Nat.zero_add] at h⟩
 | a+1,b,i,j,h=>by
   rw [show a+1+b=(a+b)+1 by omega] at h;obtain ⟨bb,k,q,hq,h⟩:=h;obtain ⟨r,h1,h2⟩:=QfU a b q j h;exact ⟨r,⟨bb,k,q,hq,h1⟩,h2⟩
theorem Qgq {p:List Nd} {d:Nat}:∀ (m i j:Nat),chV p d m i j->i<=p.length->i+m<=j/\j<=p.length
 | 0,i,j,h,hi=>by cases h;omega
 | m+1,i,j,h,hi=>by
   obtain ⟨b,k,q,hq,h⟩:=h;have h1:=Qa5 p d b k i q hq;have:=Qgq m q j h h1.2;omega
theorem Qrk {n:Nd} {ks:List UInt8} (h:Qb3 n=some ks):0<=n.pos/\n.pos.toNat=ks.length/\(n.kind=5->n.pos<=7)/\(n.kind=33->n.pos<=1)/\(n.kind=31->n.pos=2\/n.pos=3)/\((n.kind=1\/n.kind=2\/n.kind=3\/n.kind=4\/n.kind=6\/n.kind=7)->n.pos=0):=by
 unfold Qb3 at h;split at h
 ·next h5 =>
  split at h
  ·next hp=>injection h with h;subst h;rw [List.length_replicate];omega
  ·cases h
 split at h
 ·next h5 h33 =>
  split at h
  ·next hp=>injection h with h;subst h;rw [List.length_replicate];omega
  ·cases h
 split at h
 ·next h3=>injection h with h;subst h;rw [h3.1,h3.2];decide
 split at h
 ·next h5 h33 h31 hp =>
  injection h with h;subst h;refine ⟨by omega,by omega,fun e=>absurd e h5,fun e=>absurd e h33,fun e=>?_,fun e=>?_⟩
  ·rw [e] at hp;have:((Qax 31).2.length:Int)=2:=by decide
   omega
  ·have h0:((Qax n.kind).2.length:Int)=0:=by
    rcases e with e|e|e|e|e|e<;>(rw [e];decide)
   omega
 ·cases h
structure NdV (n:Nd):Prop where
 pos:0<=n.pos
 str:n.kind=2->n.str.length<=255
 path:n.kind=3\/n.kind=5->QaW n.str=true
 loc:n.kind=6->n.num<8
 arg:n.kind=7->n.num<7
 call:n.kind=5->n.pos<=7
 ret:n.kind=33->n.pos<=1
 cond:n.kind=31->n.pos=2\/n.pos=3
 leaf:n.kind=1\/n.kind=2\/n.kind=3\/n.kind=6\/n.kind=7->n.pos=0
theorem Qrl {n:Nd} {k:UInt8} (h:Qbg n k=true):(n.kind=2->n.str.length<=255)/\(n.kind=3\/n.kind=5->QaW n.str=true)/\(n.kind=6->n.num<8)/\(n.kind=7->n.num<7):=by
 unfold Qbg at h;rw [Bool.and_eq_true] at h;obtain ⟨h1,h2⟩:=h;refine ⟨fun e=>?_,fun e=>?_,fun e=>?_,fun e=>?_⟩
 ·rw [if_neg (by omega),if_pos e] at h2;exact of_decide_eq_true h2
 ·rw [if_pos e] at h2;unfold Qek at h2;rw [Bool.and_eq_true] at h2;exact h2.1
 ·rw [if_neg (by omega),if_pos e] at h1;exact of_decide_eq_true h1
 ·rw [if_neg (by omega),if_neg (by omega),if_pos e] at h1;exact of_decide_eq_true h1
theorem Qiy {p:List Nd} {d:Nat} {b:Bool} {k:UInt8} {i j:Nat} (h:Qaz p (d+1) b k i=some j):∃ n,p[i]?=some n/\NdV n/\chV p d n.pos.toNat (i+1) j:=by
 cases b with
 | true =>
   obtain ⟨n,hn,⟨h1,h2,h3,h4⟩,hx⟩:=QsL h;exact ⟨n,hn,⟨h4,fun e=>by omega,fun e=>by omega,fun e=>by omega,fun e=>by omega,fun e=>by omega,fun e=>by omega,fun e=>by omega,fun e=>by omega⟩,Quf _ _ _ hx⟩
 | false =>
   obtain ⟨n,ks,hn,ha,hf,hk,hx⟩:=QsK h;obtain ⟨k0,k1,k2,k3,k4,k5⟩:=Qrk hk;obtain ⟨f1,f2,f3,f4⟩:=Qrl hf;exact ⟨n,hn,⟨k0,f1,f2,f3,f4,k2,k3,k4,fun e=>k5 (by omega)⟩,by rw [k1];exact Qug _ _ _ hx⟩
theorem Qiz {p:List Nd} {d:Nat} {sub:Nat->List UInt8×Nat} (hs:∀ b k i j,Qaz p d b k i=some j->(sub i).2=j):∀ (m i j:Nat),chV p d m i j->(Qa4 sub m i).2=j
 | 0,i,j,h=>by rw [Qa4];exact h
 | m+1,i,j,h=>by
   obtain ⟨b,k,q,hq,h⟩:=h;rw [Qa4];simp only [hs b k i q hq];exact Qiz hs m q j h
theorem Qds (p:List Nd):∀ (d:Nat) (b:Bool) (k:UInt8) (i j:Nat),Qaz p d b k i=some j->(QaB p d i).2=j
 | 0,b,k,i,j,h=>by rw [Qaz] at h;cases h
 | d+1,b,k,i,j,h=>by
   obtain ⟨n,hn,hv,hc⟩:=Qiy h;have H:∀ m i j,chV p d m i j->(Qa4 (QaB p d) m i).2=j:=fun m i j h=>Qiz (fun b k i j h=>Qds p d b k i j h) m i j h;have h0:n.pos=0->i+1=j:=fun e=>by rw [e] at hc;exact hc
   rw [QaB,hn];simp only [];split
   ·exact h0 (hv.leaf (by omega))
   split
   ·exact h0 (hv.leaf (by omega))
   split
   ·exact h0 (hv.leaf (by omega))
   split
   ·exact H _ _ _ hc
   split
   ·exact h0 (hv.leaf (by omega))
   split
   ·exact H _ _ _ hc
   split
   ·exact H _ _ _ hc
   split
   ·next h31 =>
    have hp:=hv.cond h31;obtain ⟨q,h1,h2⟩:=QfU 2 (n.pos-2).toNat (i+1) j (by rw [show 2+(n.pos-2).toNat=n.pos.toNat by omega];exact hc);show (Qa4 (QaB p d) (n.pos-2).toNat (Qa4 (QaB p d) 2 (i+1)).2).2=j;rw [H _ _ _ h1];exact H _ _ _ h2
   ·exact H _ _ _ hc
theorem Qg3:∀ (l:List (List UInt8)),(∀ x∈l,QaV x=true)->(l.flatMap Qf1).length=4 * l.length
 | [],_=>rfl
 | x::r,h=>by
   obtain ⟨h1,h4⟩:=Qcj (h x (by simp));rw [List.flatMap_cons,List.length_append,QoA h1 h4,Qg3 r (fun y hy=>h y (by simp [hy])),List.length_cons];omega
theorem QsX (n:Nat):(Qa8 n).length<=2:=by
 unfold Qa8;split
 ·simp
 split
 ·simp
 split
 ·simp [QaF]
 ·simp
theorem QnB {s:List UInt8} (h:QaW s=true):(QbQ s).length<=3+Qbp s+4 * (QaG s).length:=by
 unfold QbQ Qcl;rw [List.length_append,List.length_append,List.length_append,List.length_replicate,Qg3]
 ·have:=QsX (QaG s).length;have:(QbU (QaJ s)).length<=1:=by cases QaJ s<;>decide
  omega
 ·unfold QaW QaI at h;rw [Bool.and_eq_true,List.all_eq_true] at h;exact h.2
theorem QeN {s:List UInt8} (h:QaW s=true):Qbp s<=32/\(QaG s).length<=32:=by
 unfold QaW QaI Qfs at h;rw [Bool.and_eq_true,decide_eq_true_eq] at h;omega
theorem QfV {s:List UInt8} (h:QaW s=true):(QbQ s).length<=163:=by
 have:=QnB h;have:=QeN h;omega
theorem Qjk (s:List UInt8):(Qdy s).length=s.length+2:=by unfold Qdy;simp
section
variable {p:List Nd}
theorem Qmb {d c:Nat} (hs:∀ b k i j,Qaz p d b k i=some j->(QaB p d i).1.length<=c * (j-i)):∀ (m i j:Nat),chV p d m i j->(Qa4 (QaB p d) m i).1.length<=c * (j-i)
 | 0,i,j,h=>by rw [Qa4];exact Nat.zero_le _
 | m+1,i,j,h=>by
   obtain ⟨b,k,q,hq,h⟩:=h;have h1:=hs b k i q hq;have h2:=Qmb hs m q j h;have hq':=Qa5 p d b k i q hq;have hj:=Qgq m q j h hq'.2;have:c * (j-i)=c * (q-i)+c * (j-q):=by rw [<- Nat.mul_add];congr 1;omega
   rw [Qa4,List.length_append];simp only [Qds p d b k i q hq];omega
theorem QkJ (c:Nat) (h9:10<=c) (hP:∀ n∈p,NdV n->(n.kind=2->n.str.length+2<=c)/\(n.kind=3\/n.kind=5->(QbQ n.str).length+2<=c)):∀ (d:Nat) (b:Bool) (k:UInt8) (i j:Nat),Qaz p d b k i=some j->(QaB p d i).1.length<=c * (j-i)
 | 0,b,k,i,j,h=>by rw [Qaz] at h;cases h
 | d+1,b,k,i,j,h=>by
   have hg:=Qa5 p (d+1) b k i j h;obtain ⟨n,hn,hv,hc⟩:=Qiy h;obtain ⟨hp2,hp3⟩:=hP n (List.mem_of_getElem? hn) hv;have H:=Qmb (c:=c) (fun b k i j h=>QkJ c h9 hP d b k i j h);have hlt:i+1<=p.length:=by have:=(List.getElem?_eq_some_iff.1 hn).1;omega
   have hj:=Qgq _ _ _ hc hlt;have e:c * (j-i)=c+c * (j-(i+1)):=by rw [show j-i=(j-(i+1))+1 by omega,Nat.mul_add,Nat.mul_one];omega
   rw [QaB,hn];simp only [];split
   ·have:=Qgk n.num.toNat
    show (QaX n.num.toNat).length<=_;omega
   split
   ·next h2=>show (Qdy n.str).length<=_;have:=hp2 h2;rw [Qjk];omega
   split
   ·next h3=>show (QbQ n.str).length<=_;have:=hp3 (.inl h3);omega
   split
   ·show (_++_:List UInt8).length<=_;rw [List.length_append];have h1:=H _ _ _ hc;have h2:=Qgo ((Qa4 (QaB p d) n.pos.toNat (i+1)).1.length:Nat);omega
   split
   ·show 1<=_;omega
   split
   ·next h5 =>
    show (_::(_++_::_):List UInt8).length<=_;have h1:=H _ _ _ hc;have:=hp3 (.inr h5);rw [List.length_cons,List.length_append,List.length_cons];omega
   split
   ·show (_::_::_:List UInt8).length<=_;have h1:=H _ _ _ hc;rw [List.length_cons,List.length_cons];omega
   split
   ·next h31 =>
    have hp:=hv.cond h31;obtain ⟨q,h1,h2⟩:=QfU 2 (n.pos-2).toNat (i+1) j (by rw [show 2+(n.pos-2).toNat=n.pos.toNat by omega];exact hc);have hq:(Qa4 (QaB p d) 2 (i+1)).2=q:=Qiz (fun b k i j h=>Qds p d b k i j h) _ _ _ h1;show (_::(_++_::_):List UInt8).length<=_;have l1:=H _ _ _ h1;have l2:=H _ _ _ h2;have hq1:=Qgq _ _ _ h1 hlt;have hq2:=Qgq _ _ _ h2 hq1.2;have e2:c * (j-(i+1))=c * (q-(i+1))+c * (j-q):=by rw [<- Nat.mul_add];congr 1;omega
    rw [List.length_cons,List.length_append,List.length_cons,hq];omega
   ·show (_::_:List UInt8).length<=_;have h1:=H _ _ _ hc;rw [List.length_cons];omega
theorem QoB {d:Nat} {b:Bool} {k:UInt8} {i j:Nat} (h:Qaz p d b k i=some j):(QaB p d i).1.length<=257 * (j-i) :=
 QkJ 257 (by omega) (fun n _ hv=>⟨fun e=>by have:=hv.str e;omega,fun e=>by have:=QfV (hv.path e);omega⟩) d b k i j h
theorem Qjl (c:Nat) (hs:∀ b k i j,Qaz p 32 b k i=some j->(QaB p 32 i).1.length<=c * (j-i)):∀ (f i:Nat),Qdq p f i=true->(Qdr p f i).length<=c * (p.length-i)
 | 0,i,h=>by rw [Qdr];exact Nat.zero_le _
 | f+1,i,h=>by
   rw [Qdr];rw [Qdq] at h;split
   ·exact Nat.zero_le _
   ·next hi =>
    rw [if_neg hi] at h;cases hx:Qaz p 32 false 68 i with
    | none=>rw [hx] at h;cases h
    | some j =>
      rw [hx] at h;have h1:=hs _ _ _ _ hx;have hg:=Qa5 p 32 false 68 i j hx;rw [List.length_append,Qds p 32 false 68 i j hx];have h2:=Qjl c hs f j h;have:c * (p.length-i)=c * (j-i)+c * (p.length-j):=by rw [<- Nat.mul_add];congr 1;omega
      omega
theorem Qmc (h:Qbk p=true):(Qdr p p.length 0).length<=526336:=by
 unfold Qbk at h;rw [Bool.and_eq_true,decide_eq_true_eq] at h;have:=Qjl 257 (fun b k i j h=>QoB h) p.length 0 h.2;have:257 * (p.length-0)<=257 * 2048:=Nat.mul_le_mul_left _ (by omega);omega
end
end
section
open Go.RowKit
theorem QsY {c:UInt8} (h:idB c=true):c≠46/\c≠94/\c≠92:=by
 unfold idB QaC Qa7 at h;simp only [Bool.or_eq_true,decide_eq_true_eq] at h;refine ⟨?_,?_,?_⟩<;>(rintro rfl;simp at h)
theorem Qjm {x:List UInt8} (h:QaV x=true):x≠[]/\∀ c∈x,c≠46/\c≠94/\c≠92:=by
 match x,h with
 | c::r,h =>
   refine ⟨by simp,fun d hd=>?_⟩;unfold QaV at h;simp only [Bool.and_eq_true] at h;exact QsY (List.all_eq_true.1 h.1.2 d hd)
theorem Qg4:∀ (x s:List UInt8),(∀ c∈x,c≠46)->QaE (x++46::s)=x::QaE s
 | [],s,_=>Qc9 s
 | c::x,s,h=>by
   rw [List.cons_append];exact Qbu c _ (h c (by simp)) x _ (Qg4 x s (fun d hd=>h d (by simp [hd])))
theorem Qjn:∀ (x:List UInt8),(∀ c∈x,c≠46)->QaE x=[x]
 | [],_=>rfl
 | c::x,h=>Qbu c _ (h c (by simp)) x _ (Qjn x (fun d hd=>h d (by simp [hd])))
theorem Qh5:∀ (l:List (List UInt8)),l≠[]->(∀ x∈l,∀ c∈x,c≠46)->QaE (QbE l)=l
 | [],h,_=>absurd rfl h
 | [x],_,h=>by rw [QcK];exact Qjn x (h x (by simp))
 | x::y::r,_,h=>by
   rw [Qcc,Qg4 x _ (h x (by simp)),Qh5 (y::r) (by simp) (fun z hz=>h z (by simp [hz]))]
theorem Qgr {l:List (List UInt8)} (h:∀ x∈l,QaV x=true) (hl:l≠[]):∃ c t,QbE l=c::t/\c≠94/\c≠92:=by
 match l,hl with
 | [x],_ =>
   obtain ⟨h1,h2⟩:=Qjm (h x (by simp))
   match x,h1 with
   | c::r,_=>exact ⟨c,r,QcK _,(h2 c (by simp)).2.1,(h2 c (by simp)).2.2⟩
 | x::y::r',_ =>
   obtain ⟨h1,h2⟩:=Qjm (h x (by simp))
   match x,h1 with
   | c::r,_=>exact ⟨c,_,Qcc _ _ _,(h2 c (by simp)).2.1,(h2 c (by simp)).2.2⟩
theorem QoC (n:Nat) (c:UInt8) (t:List UInt8) (h:c≠94):(List.replicate n 94++c::t).dropWhile (·==94)=c::t/\((List.replicate n 94++c::t).takeWhile (·==94)).length=n:=by
 induction n with
 | zero=>simp [h]
 | succ n ih=>rw [List.replicate_succ,List.cons_append];simp [ih.1,h]
theorem Qmd (n:Nat):(List.replicate n (94:UInt8)).dropWhile (·==94)=[]/\((List.replicate n (94:UInt8)).takeWhile (·==94)).length=n:=by
 induction n with
 | zero=>simp
 | succ n ih=>rw [List.replicate_succ];simp [ih.1,ih.2]
theorem QpE {root:Bool} {up:Int} {l:List (List UInt8)} (h:QaI root up l=true):QaW (Qdw root up l)=true/\QaJ (Qdw root up l)=root/\Qbp (Qdw root up l)=up.toNat/\QaG (Qdw root up l)=l:=by
 obtain ⟨h1,h2,h3,h4,h5⟩:=QdR h;have hs:=QbN h;have e:Qdw root up l=QiQ root up l:=by rw [Qdw,if_pos h]
 have key:QaJ (QiQ root up l)=root/\Qbp (QiQ root up l)=up.toNat/\Qbv (QiQ root up l)=QbE l:=by
  unfold Qbp Qbv QiQ;cases root
  ·have hr:QaJ (List.replicate up.toNat 94++QbE l)=false:=by
    unfold QaJ Lib.hasPrefix;cases hn:up.toNat with
    | zero =>
      have hl:l≠[]:=by
       rintro rfl;simp at h5;omega
      obtain ⟨c,t,e,_,e2⟩:=Qgr hs hl;rw [e];simp [List.isPrefixOf,Ne.symm e2]
    | succ n=>rw [List.replicate_succ];simp [List.isPrefixOf]
   simp only [Bool.false_eq_true,if_false,hr,true_and];by_cases hl:l=[]
   ·subst hl;rw [QdQ,List.append_nil];exact ⟨(Qmd _).2,(Qmd _).1⟩
   ·obtain ⟨c,t,e,e1,_⟩:=Qgr hs hl;rw [e];exact ⟨(QoC _ c t e1).2,(QoC _ c t e1).1⟩
  ·have hr:QaJ ([92]++QbE l)=true:=by simp [QaJ,Lib.hasPrefix,List.isPrefixOf]
   simp only [if_true,hr,true_and];refine ⟨by rw [h3 rfl];rfl,by simp⟩
 obtain ⟨k1,k2,k3⟩:=key;have k4:QaG (QiQ root up l)=l:=by
  unfold QaG;rw [k3];by_cases hl:l=[]
  ·subst hl;rw [QdQ];rfl
  ·obtain ⟨c,t,e,_⟩:=Qgr hs hl;rw [if_neg (by rw [e];simp)];exact Qh5 l hl (fun x hx c hc=>((Qjm (hs x hx)).2 c hc).1)
 rw [e];refine ⟨?_,k1,k2,k4⟩;unfold QaW;rw [k1,k2,k4];rw [Int.toNat_of_nonneg h1];exact h
theorem Qrm {root:Bool} {up:Int} {l:List (List UInt8)} (h:QaI root up l=true):(Qdw root up l).length<=1000:=by
 obtain ⟨h1,h2,h3,h4,h5⟩:=QdR h;have:=QhY h;rw [Qdw,if_pos h,QiQ,List.length_append];split<;>simp<;>omega
end
end Go.Proofs.YtoohondkpddmcaaGreatDoor
