/- Lw Ml Rg Rj Rk -/
import Derived.Test.YtoohondkpddmcaaGreatDoorUzz
import Derived.Test.YtoohondkpddmcaaGreatDoorUbb
import Derived.Test.YtoohondkpddmcaaGreatDoorUat
import Derived.Test.YtoohondkpddmcaaGreatDoorUbd
import Derived.Test.YtoohondkpddmcaaGreatDoorUaw
import Derived.Test.YtoohondkpddmcaaGreatDoorUau
import Derived.Test.YtoohondkpddmcaaGreatDoorUav
namespace Go.Proofs.YtoohondkpddmcaaGreatDoor
set_option maxHeartbeats 32000000
set_option linter.unusedVariables false
set_option linter.unusedSimpArgs false
section
open Go.RowKit
attribute [local go_sem] ByteArray.mk_append_mk Qac Qad Qae
set_option maxRecDepth 100000 in
theorem Qvp (B b:Nat) (s:List UInt8) (f:Nat) (hs:s.length<=65536) (w:World) (pos bl:Nat) (o:List Nd) (k:UInt8) (ht:TSt B b w s pos pos bl o) (he:pos<=s.length) :
  Calls Tryz.prog 55 #[.pointer (some ⟨b,0,none⟩),.int .u8 k.toNat] w (TPost B b w s pos bl o (Qbw s (Qaw s f) k (QaN bl) pos pos)):=by
 have HX:Hid (Qbw s (Qaw s f) k (QaN bl) pos pos = .no pos (QeU (QaN bl))):=Za (by unfold Qbw;rw [if_pos rfl]);rw [HX.out];have HSZ:=Za ht.size;have HC:=Za (fun n=>QeW B b (w.drewN n) s pos pos bl o (ht.below (below_drewN Zb n)));obtain ⟨nv,h1,h2⟩:=ht.ex;obtain ⟨c0,c1,c2,c3,c4,c5⟩:=Qa8 h1;have hpe':((pos:Int)==(pos:Int))=true:=by rw [beq_iff_eq]
 clear ht h1 h2 HX;go_enter Tryz.func55,Tryz.ntmps55;go_wp2_with fail;go_quiet (fail);go_wp2_with fail;((with_reducible refine (HC.out _).mono ?_));rintro en w1 ⟨rfl,hb,ht⟩;have HB:=Za hb;have HT:=Za ht;clear hb ht HC;go_wp2_with fail;go_ret;exact ⟨(below_drewN Zb _).trans HB.out,rfl,HT.out⟩
set_option maxRecDepth 100000 in
theorem Qvq (B b:Nat) (s:List UInt8) (f:Nat) (hs:s.length<=65536) (w:World) (pos e bl:Nat) (o:List Nd) (k:UInt8) (ht:TSt B b w s pos e bl o) (hp:pos<e) (he:e<=s.length) (c:UInt8) (hc:s.getD pos 0=c) (ha:Qar k (QaW c)=false) :
  Calls Tryz.prog 55 #[.pointer (some ⟨b,0,none⟩),.int .u8 k.toNat] w (TPost B b w s e bl o (Qbw s (Qaw s f) k (QaN bl) pos e)):=by
 have HX:Hid (Qbw s (Qaw s f) k (QaN bl) pos e = .no pos 3):=Za (by unfold Qbw;rw [if_neg (by omega),hc,if_pos ha]);rw [HX.out];have HSZ:=Za ht.size;have HC:=Za (fun n=>QhD B b (w.drewN n) s pos e bl o (ht.below (below_drewN Zb n)));obtain ⟨nv,h1,h2⟩:=ht.ex;obtain ⟨c0,c1,c2,c3,c4,c5⟩:=Qa8 h1;have hpe':((pos:Int)==(e:Int))=false:=by rw [beq_eq_false_iff_ne];omega
 have hps':(pos:Int)<(s.length:Int):=by omega
 have hps:pos<s.length:=by omega
 have hge:∀ h:pos<s.length,s[pos]=c:=fun h=>by rw [<- hc,List.getD_eq_getElem?_getD,List.getElem?_eq_getElem h];rfl
 obtain ⟨op,hop⟩:∃ op,Hid (QaW c=op):=⟨_,Za rfl⟩;have HOP:=Za (fun w=>Qdn c op hop w);rw [hop.out] at ha;have HAC:=Za (fun w=>Qf8 k op false (Za ha) w);have hc0:(0:Int)<=(c.toNat:Int):=by omega
 have hc256:(c.toNat:Int)<256:=by have:=c.toNat_lt;omega
 clear ht h1 h2 HX hp he hc ha hop;go_enter Tryz.func55,Tryz.ntmps55;go_wp2_with fail;go_quiet (fail);go_wp2_with fail;go_quiet (fail);go_wp2_with fail;((with_reducible refine (HOP.out _).mono ?_));rintro en w1 ⟨rfl,rfl⟩;go_wp2_with fail;((with_reducible refine (HAC.out _).mono ?_));rintro en w1 ⟨rfl,rfl⟩;go_wp2_with fail;((with_reducible refine (HC.out _).mono ?_));rintro en w1 ⟨rfl,hb,ht⟩;have HB:=Za hb;have HT:=Za ht;clear hb ht HC;go_wp2_with fail;go_ret;exact ⟨(below_drewN Zb _).trans HB.out,rfl,HT.out⟩
theorem QrZ (B b:Nat) (s:List UInt8) (f:Nat) (hs:s.length<=65536) (hO:OpT B b s f):QpY B b s (f+1):=by
 intro k w pos e bl o ht hp he hf ho hbl;show Calls Tryz.prog 55 #[.pointer (some ⟨b,0,none⟩),.int .u8 k.toNat] w (TPost B b w s e bl o (Qbw s (Qaw s f) k (QaN bl) pos e));by_cases hpe:pos=e
 ·subst hpe;exact Qvp B b s f hs w pos bl o k ht he
 ·have hlt:pos<e:=by omega
  by_cases ha:Qar k (QaW (s.getD pos 0))=true
  ·by_cases h1:QaW (s.getD pos 0)=1
   ·exact Qvl B b s f hs w pos e bl o k ht hlt he ho _ rfl ha h1
   by_cases h2:QaW (s.getD pos 0)=2
   ·exact Qvm B b s f hs w pos e bl o k ht hlt he ho _ rfl ha h2
   by_cases h3:QaW (s.getD pos 0)=3
   ·exact QtC B b s f hs w pos e bl o k ht hlt he ho _ rfl ha h3
   by_cases h6:QaW (s.getD pos 0)=6
   ·exact Qvn B b s f hs w pos e bl o k ht hlt he ho _ rfl ha h6
   by_cases h7:QaW (s.getD pos 0)=7
   ·exact Qvo B b s f hs w pos e bl o k ht hlt he ho _ rfl ha h7
   exact QtD B b s f hs hO w pos e bl o k ht hlt he ho _ rfl ha h1 h2 h3 h6 h7 hf hbl
  ·exact Qvq B b s f hs w pos e bl o k ht hlt he _ rfl (by simpa using ha)
theorem Qou (B b:Nat) (s:List UInt8) (hs:s.length<=65536):∀ f,QpY B b s f
 | 0=>fun k w pos e bl o ht hp he hf ho hbl=>by omega
 | f+1=>by
   have h:=Qou B b s hs f;exact QrZ B b s f hs (Qlh B b s f hs (Qlg B b s f hs h (Qot B b s f hs h)))
def Qw8 (s:List UInt8) (f:Nat) (ns:List Nd):DR->DR
 | .no q err=>.no q err
 | .ok q ms=>QcW s f (ns++ms) q
theorem Qjc {s:List UInt8} {f pos:Nat} {ns:List Nd} (h:pos≠s.length):QcW s (f+1) ns pos=Qw8 s f ns (Qaw s (s.length+1) 68 false pos s.length):=by
 rw [QcW,if_neg h];cases Qaw s (s.length+1) 68 false pos s.length<;>rfl
set_option maxRecDepth 100000 in
theorem Qr0 (m:Int) (s:List UInt8) (w:World) (hm:SynG m w) (hs:s.length<=9223372036854775000) :
  Calls Tryz.prog 22 #[.string ⟨s.toArray⟩] w fun en w'=>∃ v,en = .returned (.tuple #[v,.int .i64 (QeV s).2.1,.int .i64 (QeV s).2.2])/\NodesI w' w.heap.size v (QeV s).1/\Below w.heap.size w w':=by
 obtain ⟨Z,hZ⟩:∃ Z,Hid (QeV s=Z):=⟨_,Za rfl⟩;rw [hZ.out];have HG:=Za hm;have HN0:=Za (NodesI.nil w w.heap.size);clear hm;by_cases hlen:65536<s.length
 ·have HZ:Hid (Z=([],0,11)):=Za (by rw [<- hZ.out];unfold QeV;rw [if_pos hlen]);rw [HZ.out];have hlen':(65536:Int)<(s.length:Int):=by omega
  clear hZ HZ hlen;go_enter Tryz.func22,Tryz.ntmps22;go_wp2_with fail;go_ret3;exact ⟨_,rfl,NodesI.nil _ _,Zb⟩
 ·obtain ⟨Y,hY⟩:∃ Y,Hid (QcW s (s.length+1) [] 0=Y):=⟨_,Za rfl⟩;have HZ:Hid (Z=QpG Y):=Za (by rw [<- hZ.out];unfold QeV;rw [if_neg hlen,hY.out]);have hlen':¬ (65536:Int)<(s.length:Int):=by omega
  have hs6:s.length<=65536:=by omega
  obtain ⟨B,hB⟩:∃ B,w.heap.size=B:=⟨_,rfl⟩;have HBE:=Za hB;have hal:Below B w (w.alloc (tdO s 0 s.length 0 (.slice none 0 0) 0)):=Zb.alloc (by omega) _;have hsz0:B<=(w.alloc (tdO s 0 s.length 0 (.slice none 0 0) 0)).heap.size:=by rw [<- hB];exact hal.size
  have HP0:Hid (TSt B B (w.alloc (tdO s 0 s.length 0 (.slice none 0 0) 0)) s 0 s.length 0 []):=Za (by
   have h1:=heap_alloc_new w (tdO s 0 s.length 0 (.slice none 0 0) 0);rw [hB] at h1;exact ⟨⟨_,h1,NodesI.nil _ _⟩,Nat.le_refl _,hsz0⟩)
  have HL0:=Za hal;have HLOW:=Za HG.out.low;rw [hB] at HLOW;have HSUB:=Za (Qou B B s hs6 (s.length+1));unfold QpY at HSUB;clear hZ hlen hal hsz0 hB;go_enter Tryz.func22,Tryz.ntmps22;go_wp2_with fail;rw [HBE.out];generalize w.alloc (tdO s 0 s.length 0 (.slice none 0 0) 0)=W0 at *;have HSTART:Hid (∃ (f pq:Nat) (M:List Nd),TSt B B W0 s pq s.length 0 M/\Y=QcW s f M pq/\(pq<=s.length/\s.length<pq+f/\M.length<=pq)/\(∀ n∈M,NdD n)/\Below B w W0):=Za
   ⟨s.length+1,0,[],HP0.out,hY.out.symm,⟨by omega,by omega,by simp⟩,by simp,HL0.out⟩
  clear HP0 HL0 hY;go_loopw [33] (fun z wr=>∃ u:Value,u=z/\Hid (∃ (f pq:Nat) (M:List Nd),TSt B B wr s pq s.length 0 M/\Y=QcW s f M pq/\(pq<=s.length/\s.length<pq+f/\M.length<=pq)/\(∀ n∈M,NdD n)/\Below B w wr)) (fun _ wr=>s.length-Qqy wr B)
  case atStart=>exact ⟨_,rfl,HSTART⟩
  case round =>
   obtain ⟨u,rfl,HREL⟩:=hrel;obtain ⟨w7,rfl⟩:∃ y:World,y=wr:=⟨_,rfl⟩;clear HSTART;obtain ⟨f,pq,M,ht7,hx7,hi7,hm7,hb7⟩:=HREL.out;have HT:=Za ht7;have HX:=Za hx7;have HJ:=Za hi7;have HND:=Za hm7;have HBW:=Za hb7;clear ht7 hx7 hi7 hm7 hb7 HREL;have HM7:=Za HT.out.posIs;obtain ⟨nv7,h1,h2⟩:=HT.out.ex;obtain ⟨c0,c1,c2,c3,c4,c5⟩:=Qa8 h1;have HN7:=Za h2;clear h1 h2;by_cases hlt:pq<s.length
   ·have hlt':(pq:Int)<(s.length:Int):=by omega
    obtain ⟨F',hF⟩:∃ F',f=F'+1:=⟨f-1,by have:=HJ.out;omega⟩;obtain ⟨Y1,hY⟩:∃ Y1,Qaw s (s.length+1) 68 false pq s.length=Y1:=⟨_,rfl⟩;have HDG:=Za (Qbj s (s.length+1) 68 false pq s.length (Nat.le_of_lt hlt) Zc);rw [hY] at HDG;have HC:Hid (∀ q,Calls Tryz.prog 55 #[.pointer (some ⟨B,0,none⟩),.int .u8 68] (w7.drewN q) (TPost B B (w7.drewN q) s s.length 0 M Y1)):=Za (fun q=>by
     have h:=HSUB.out 68 (w7.drewN q) pq s.length 0 M (HT.out.below (below_drewN Zb q)) (Nat.le_of_lt hlt) Zc (by omega) HJ.out.2.2 (Nat.zero_le _);rw [show QaN 0=false from rfl,hY] at h;exact h)
    have HXE:Hid (Y=Qw8 s F' M Y1):=Za (by rw [HX.out,hF,Qjc (by omega),hY]);have HFF:=Za hF;clear hY hlt hF HT;cases Y1 with
    | no r err =>
      have HXX:Hid (Y = .no r err):=HXE;have HZZ:Hid (Z=([],((r:Nat):Int),err)):=Za (by rw [HZ.out,HXX.out]<;>rfl);go_wp2_with fail;go_quiet (fail);go_wp2_with fail;((with_reducible refine (HC.out _).mono ?_));rintro en w8 ⟨hb8,rfl,ht8⟩;have HB8:=Za (HBW.out.trans ((below_drewN Zb _).trans hb8));obtain ⟨s8,e8,bl8,nv8,h8⟩:=ht8;clear c0 c1 c2 c3 c4 c5;obtain ⟨c0,c1,c2,c3,c4,c5⟩:=Qa8 h8;clear hb8 h8 HC;go_wp2_with fail;go_quiet (fail);go_wp2_with fail;go_ret3;rw [HZZ.out,HBE.out];exact ⟨_,rfl,NodesI.nil _ _,below_drewN HB8.out _⟩
    | ok r ms =>
      have HXX:Hid (Y=QcW s F' (M++ms) r):=HXE;have HJ2:Hid (r<=s.length/\s.length<r+F'/\(M++ms).length<=r):=Za (by
       have:=HJ.out;obtain ⟨d1,d2,d3,_⟩:=HDG.out;have:=HFF.out;rw [List.length_append];omega)
      have HND2:Hid (∀ n∈M++ms,NdD n):=Za (fun n hn=>by
       rcases List.mem_append.1 hn with h|h
       ·exact HND.out n h
       ·exact HDG.out.2.2.2.2 n h)
      have HPR:Hid (pq<r/\r<=s.length):=Za ⟨HDG.out.1,HDG.out.2.1⟩;go_wp2_with fail;go_quiet (fail);go_wp2_with fail;((with_reducible refine (HC.out _).mono ?_));rintro en w8 ⟨hb8,rfl,ht8⟩;have HB8:=Za (HBW.out.trans ((below_drewN Zb _).trans hb8));have HT8:=Za ht8;clear c0 c1 c2 c3 c4 c5 hb8 ht8 HC HXE HX HJ HBW HDG;have HNEW:Hid (∃ (f pq:Nat) (M:List Nd),TSt B B w8 s pq s.length 0 M/\Y=QcW s f M pq/\(pq<=s.length/\s.length<pq+f/\M.length<=pq)/\(∀ n∈M,NdD n)/\Below B w w8):=Za ⟨F',r,M++ms,HT8.out,HXX.out,HJ2.out,HND2.out,HB8.out⟩;have HM8:=Za HT8.out.posIs;go_wp2_with fail;go_roundw
      case rel=>first|exact ⟨_,rfl,HNEW⟩|exact ⟨_,_,rfl,HNEW⟩
      case measure=>rw [HM8.out,HM7.out];have:=HPR.out;omega
   ·have hlt':¬ (pq:Int)<(s.length:Int):=by omega
    have hpE:pq=s.length:=by have:=HJ.out;omega
    have HXX:Hid (Y = .ok pq M):=Za (by
     obtain ⟨F',hF⟩:∃ F',f=F'+1:=⟨f-1,by have:=HJ.out;omega⟩;rw [HX.out,hF,QcW,if_pos hpE])
    have HZ3:Hid (Z=if QaS M=true then (M,0,0) else ([],0,11)):=Za (by rw [HZ.out,HXX.out]<;>rfl);have HLM:Hid (M.length<=65536):=Za (by have:=HJ.out;omega);have HVA:=Za (fun q=>Qmr m M nv7 (w7.drewN q) ((HN7.out.below (below_drewN Zb q)).sl (fun t ht=>by have:=HND.out t ht;unfold NdD at this;omega)) (HG.out.below (below_drewN HBW.out q) HLOW.out) (by have:=HLM.out;omega));obtain ⟨vb,hvb⟩:∃ z,QaS M=z:=⟨_,rfl⟩;rw [hvb] at HVA HZ3;clear hlt hpE HX HM7 hvb HT;have e4:∀ q w',Below (w7.drewN q).heap.size (w7.drewN q) w'->w'.cell? ⟨B,4,none⟩=some nv7:=fun q w' hb=>(hb.cell (p:=⟨B,4,none⟩) (World.block_lt_of_cell? w7 ⟨B,4,none⟩ c4)).trans c4;have HS7:Hid (B<=w7.heap.size):=Za (by have:=World.block_lt_of_cell? w7 ⟨B,4,none⟩ c4;exact Nat.le_of_lt this);go_upto_region 7 with fail;go_quiet (fail);go_wp2_with fail;((with_reducible refine (HVA.out _).mono ?_));rintro en w8 ⟨rfl,hb8⟩;have e8:=e4 _ _ hb8;have HB8:Hid (Below B w w8):=Za ((below_drewN HBW.out _).trans (hb8.mono HS7.out));have HN8:=Za ((HN7.out.below (below_drewN Zb _)).below hb8);clear hb8 c0 c1 c2 c3 c4 c5 e4;cases vb with
    | false =>
      have HZ4:Hid (Z=([],0,11)):=Za (by rw [HZ3.out]<;>rfl);go_wp2_with fail;go_ret3;rw [HZ4.out,HBE.out];exact ⟨_,rfl,NodesI.nil _ _,HB8.out⟩
    | true =>
      have HZ4:Hid (Z=(M,0,0)):=Za (by rw [HZ3.out]<;>rfl);go_wp2_with fail;go_ret3;rw [HZ4.out,HBE.out];exact ⟨_,rfl,HN8.out,HB8.out⟩
end
section
open Go.RowKit
attribute [local go_sem] ByteArray.mk_append_mk Qac Qad Qae
def DlR (B:Nat) (w:World) (s:List UInt8) (Y:DR) (wr:World):Prop :=
 (∃ (f pq:Nat) (M:List Nd),RdSt B B wr s pq s.length false M/\Y=QcW s f M pq/\(pq<=s.length/\s.length<pq+f/\M.length<=pq)/\(∀ n∈M,NdD n)/\Below B w wr)
 \/ (∃ (q:Nat) (err:Int),RdBad B B q err wr []/\Y = .no q err/\Below B w wr)
theorem DlR.next {B:Nat} {w w8 w9:World} {s:List UInt8} {Y:DR} {f pq:Nat} {M:List Nd} (hlt:pq<s.length) (hY:Y=QcW s f M pq) (hj:pq<=s.length/\s.length<pq+f/\M.length<=pq) (hm:∀ n∈M,NdD n) (hw:Below B w w8) (hb:Below B w8 w9)
  (hn:match Qaw s (s.length+1) 68 false pq s.length with
   | .no q err=>RdBad B B q err w9 M
   | .ok q ns=>RdSt B B w9 s q s.length false (M++ns)):DlR B w s Y w9/\Qjb w9 B s.length<s.length+1-pq:=by
 obtain ⟨j1,j2,j3⟩:=hj;obtain ⟨F',hF⟩:∃ F',f=F'+1:=⟨f-1,by omega⟩;have hdg:=Qbj s (s.length+1) 68 false pq s.length (Nat.le_of_lt hlt) Zc;rw [hF,Qjc (by omega)] at hY;cases hX:Qaw s (s.length+1) 68 false pq s.length with
 | no q err =>
   rw [hX] at hn hY;have hn2:RdBad B B q err w9 ([]++M):=hn;refine ⟨.inr ⟨q,err,hn2.less,hY,hw.trans hb⟩,?_⟩;rw [RdBad.meas hn];omega
 | ok q ns =>
   rw [hX] at hn hY hdg;obtain ⟨d1,d2,d3,_,d5⟩:=hdg;refine ⟨.inl ⟨F',q,M++ns,hn,hY,⟨d2,by omega,by rw [List.length_append];omega⟩,?_,hw.trans hb⟩,?_⟩
   ·intro n h;rcases List.mem_append.1 h with h|h
    ·exact hm n h
    ·exact d5 n h
   ·rw [RdSt.meas hn];omega
end
section
open Go.RowKit
attribute [local go_sem] ByteArray.mk_append_mk Qac Qad Qae
theorem RSt.kids {m F:Int} {B b i:Nat} {w:World} {L:List TokI} {o ns:List Nd} {a n:Int} {s:List UInt8} {p:Int} (h:RSt m B b w L i F (o++⟨a,n,s,p⟩::ns)) :
  ∃ tv g c,w.heap[b]?=some (Qeg tv i (.slice (some ⟨g,0,none⟩) (o++⟨a,n,s,p⟩::ns).length c) F)/\w.cell? ⟨g,o.length * 4+3,none⟩=some (.int .i64 p)/\w.frozen? ⟨g,o.length * 4+3,none⟩=false /\
    ∀ u:Int,RSt m B b (w.setCell ⟨g,o.length * 4+3,none⟩ (.int .i64 u)) L i F (o++⟨a,n,s,u⟩::ns)/\Below B w (w.setCell ⟨g,o.length * 4+3,none⟩ (.int .i64 u)):=by
 obtain ⟨⟨tv,nv,h1,h2,h3⟩,h4,h5,h6,h7,h8,h9,ha,hc,hd⟩:=h;have hne:=Qeh h3 h1;obtain ⟨g,c,hnv,hB⟩:∃ g c,nv = .slice (some ⟨g,0,none⟩) (o++⟨a,n,s,p⟩::ns).length c/\B<=g:=by
  rcases h3.2 with ⟨_,h0⟩|⟨g,cap,cur,e,hb,_⟩
  ·simp at h0
  ·exact ⟨g,cap,e,hb⟩
 subst hnv;refine ⟨tv,g,c,h1,?_,World.ownsRow.frozenAt h3 _,fun u=>?_⟩
 ·rw [World.ownsRow.cellAt h3 _ (by simp;omega)];exact QkW o ns a n s p
 ·obtain ⟨k1,k2⟩:=World.ownsRow.stored h3 (o.length * 4+3) (.int .i64 u);rw [Qnd] at k1;have hL:(o++⟨a,n,s,p⟩::ns).length=(o++(⟨a,n,s,u⟩:Nd)::ns).length:=by simp
  have hb:Below B w (w.setCell ⟨g,o.length * 4+3,none⟩ (.int .i64 u)):=Zb.setCell hB _;rw [hL] at k1 h1 hd;refine ⟨⟨⟨tv,_,QbF h1 _ _ (fun e=>hne (by simp [Value.ownBlock,e])),h2.below hb,k1⟩,h4,Nat.le_trans h5 hb.size,h6.below hb h7,h7,h8,h9,ha,hc,hd⟩,hb⟩
def QhE (w:World) (b:Nat):Nat:=match w.cell? ⟨b,3,none⟩,w.cell? ⟨b,0,none⟩,w.cell? ⟨b,1,none⟩ with
 | some (.int _ F),some (.slice _ n _),some (.int _ i)=>if 0<=F then 0 else 1+(n-i.toNat)
 | _,_,_=>0
theorem RSt.left {m F:Int} {B b i:Nat} {w:World} {L:List TokI} {o:List Nd} (h:RSt m B b w L i F o):QhE w b=if 0<=F then 0 else 1+(L.length-i):=by
 obtain ⟨tv,nv,h1,⟨a,cap,rfl,_⟩,h3⟩:=h.ex;unfold QhE;obtain ⟨c0,c1,c2,c3⟩:=Qaa h1;rw [c0,c1,c3];simp only [Int.toNat_natCast]
def QhF (m:Int) (B b:Nat) (L:List TokI) (w:World) (o:List Nd) (x:PR) (e:Ending) (w':World):Prop :=
 e = .returned (.tuple #[])/\Below B w w'/\match x with
 | .no y=>∃ (i j:Nat) (o':List Nd),y=L.drop j/\RSt m B b w' L i j o'
 | .ok y ns=>∃ i:Nat,y=L.drop i/\RSt m B b w' L i (-1) (o++ns)
def Qr1 (m:Int) (B b:Nat) (L:List TokI) (sub:UInt8->List TokI->PR) (n:Nat):Prop :=
 ∀ (k:UInt8) (i:Nat) (o:List Nd) (w:World),RSt m B b w L i (-1) o->L.length-i<=n ->
   Calls Tryz.prog 98 #[.pointer (some ⟨b,0,none⟩),.int .u8 k.toNat] w (QhF m B b L w o (sub k (L.drop i)))
section
variable (sub:UInt8->List TokI->PR)
def Qfv (text:List UInt8) (m:Nat) (ns:List Nd) (r:List TokI):PR :=
 if atT 6 r=true then .ok r.tail (⟨5,0,text,m⟩::ns)
 else if m=0 then Qgr sub text 7 0 ns r
 else if m=7\/atT 9 r=false then .no r
 else Qgr sub text (7-m) m ns r.tail
theorem Qov (text:List UInt8) (r:List TokI):Qfv sub text 0 [] r=QeI sub text r:=by
 unfold Qfv QeI;rw [if_pos rfl]<;>rfl
theorem Qli (text:List UInt8) (m:Nat) (hm:m<7) (ns:List Nd) (r:List TokI):Qgr sub text (7-m) m ns r=match sub 101 r with
  | .no x=>.no x
  | .ok r1 n1=>Qfv sub text (m+1) (ns++n1) r1:=by
 obtain ⟨f,hf⟩:∃ f,7-m=f+1:=⟨6-m,by omega⟩;rw [hf,Qgr];cases sub 101 r with
 | no x=>rfl
 | ok r1 n1 =>
   simp only [];unfold Qfv;rw [if_neg (show ¬ m+1=0 by omega)];by_cases h6:atT 6 r1=true
   ·have h9:atT 9 r1=false:=by
     cases r1 with
     | nil=>rfl
     | cons t q =>
       have e:t.kind=6:=by simpa [atT] using h6
       simp [atT,e]
    rw [if_pos (.inr h9),if_pos h6,if_pos h6]
   ·rw [if_neg h6,if_neg h6];by_cases h:m+1=7\/atT 9 r1=false
    ·rw [if_pos h,if_pos h]
    ·rw [if_neg h,if_neg h,show 7-(m+1)=f by omega]
end
end
section
open Go.RowKit
attribute [local go_sem] ByteArray.mk_append_mk Qac Qad Qae
def Qa9:List TokI->Nd
 | []=>⟨0,0,[],0⟩
 | t::_=>if t.kind=3 then ⟨1,t.num,[],0⟩ else if t.kind=4 then ⟨2,0,t.str,0⟩
   else if t.kind=1 then (if QaY t.str=true then ⟨3,0,t.str,0⟩ else ⟨0,0,[],0⟩)
   else if t.kind=2 then (match Qkn t.str with|some (op,n)=>⟨op,n,[],0⟩|none=>⟨opW t.str,0,[],0⟩)
   else ⟨0,0,[],0⟩
theorem Qxo {w:World} {p:Nat} {o:Obj} (h:w.heap[p]?=some o) (b:Nat) (hb:p≠b) (a0 a1 a2 a3:Value):((((w.setCell ⟨b,0,none⟩ a0).setCell ⟨b,1,none⟩ a1).setCell ⟨b,2,none⟩ a2).setCell ⟨b,3,none⟩ a3).heap[p]?=some o :=
 QbF (QbF (QbF (QbF h _ _ hb) _ _ hb) _ _ hb) _ _ hb
theorem Qc6 (tmps:Array Value) (w:World) (b:Nat) (c0 c1 c2 c3:Value) (h2:tmps.getD 2 undef = .pointer (some ⟨b,0,none⟩)) (hb:w.heap[b]?=some (.cells #[c0,c1,c2,c3] 46 (0,0))) :
  (results Tryz.f138 tmps).run Tryz.prog w = .ok (.agg #[c0,c1,c2,c3]) w:=by
 obtain ⟨e0,e1,e2,e3⟩:=Qaa hb;have h2':tmps[2]?.getD undef = .pointer (some ⟨b,0,none⟩):=by rw [<- h2];simp
 simp [results];go_simp
set_option maxRecDepth 100000 in
theorem Qlj (m F:Int) (B b i:Nat) (w:World) (L:List TokI) (o:List Nd) (h:RSt m B b w L i F o) (hL:L.length<=1000000) :
  Calls Tryz.prog 138 #[.pointer (some ⟨b,0,none⟩)] w fun e w'=>e = .returned (QbB (Qa9 (L.drop i)).kind (Qa9 (L.drop i)).num (Qa9 (L.drop i)).str (Qa9 (L.drop i)).pos)/\Below w.heap.size w w':=by
 obtain ⟨X,hX⟩:∃ X,Hid (Qa9 (L.drop i)=X):=⟨_,Za rfl⟩;rw [hX.out];have HB0:Hid (Below w.heap.size w (w.alloc (Qaj 0 0 [] 0))):=Za (Zb.alloc Zc _);have HE0:Hid ((w.alloc (Qaj 0 0 [] 0)).heap[w.heap.size]?=some (Qaj 0 0 [] 0)):=Za (heap_alloc_new _ _);have H0:=Za (h.alloc (Qaj 0 0 [] 0));obtain ⟨P,hP⟩:∃ P,w.heap.size=P:=⟨_,rfl⟩;have HPE:=Za hP;have hgood:=h.good;clear h;unfold QbB;go_enter Tryz.func138,Tryz.ntmps138;go_upto_region 1 with fail;(try simp only [hP]);rw [hP] at HB0 HE0;generalize w.alloc (Qaj 0 0 [] 0)=W0 at *;clear hP;have hszP:P<W0.heap.size:=lt_of_block HE0.out;cases hd:L.drop i with
 | nil =>
   obtain ⟨⟨tv,nv,h1,⟨a,cap,rfl,hl,hc⟩,h3⟩,h4,h5,h6,h7,h8,h9,ha,hc',hd'⟩:=H0.out;have HX:Hid (X=⟨0,0,[],0⟩):=Za (by rw [<- hX.out,hd]<;>rfl);have hi:(i:Int)>=(L.length:Int):=by
    have:=congrArg List.length hd;rw [List.length_drop] at this;simp only [List.length_nil] at this;omega
   obtain ⟨c0,c1,c2,c3⟩:=Qaa h1;clear hc h3 h6 h8 h1 hd h7 hX hgood hd' hc' H0;obtain ⟨p0,p1,p2,p3⟩:=Qaa HE0.out;have f0:=Qay HE0.out 0;have f1:=Qay HE0.out 1;have f2:=Qay HE0.out 2;have f3:=Qay HE0.out 3;go_quiet (fail);go_wp2_with fail;exact bodyPost_ret (Qc6 _ _ _ _ _ _ _ rfl (QjP (QqJ HE0.out _) _ _ _ _)) rfl ⟨by rw [HX.out],by rw [HPE.out];exact QjQ (below_drewN HB0.out _) Zc _ _ _ _⟩
 | cons t q =>
   obtain ⟨⟨tv,nv,h1,h2,h3⟩,h4,h5,h6,h7,h8,h9,ha,hc',hd'⟩:=H0.out;obtain ⟨g,off,cap,rfl,hgB,hi,t0,t1,t2,t3⟩:=h2.drop_cells hd;have hgt:=hgood t (List.mem_of_mem_drop (by rw [hd];exact List.mem_cons_self ..));have HX0:Hid (X=Qa9 (t::q)):=Za (by rw [<- hX.out,hd]);obtain ⟨c0,c1,c2,c3⟩:=Qaa h1;have hi1:¬ (i:Int)>=(L.length:Int):=by omega
   have hi2:(i:Int)<(L.length:Int):=by omega
   clear h3 h6 h8 h1 hd h7 h2 hX hgood hd' hc' h9 H0 ha;obtain ⟨tk,tn,ts,tp⟩:=t;simp only at t0 t1 t2 t3 hgt;have HTS:=Za hgt.1;go_quiet (fail);go_upto_region 3 with fail;have b0:=Za c0;have b1:=Za c1;have HD1:Hid (Below P w (W0.drewN nq)):=Za (below_drewN HB0.out _);have HE1:Hid ((W0.drewN nq).heap[P]?=some (Qaj 0 0 [] 0)):=Za HE0.out;have k0:∀ x,Grows (W0.drewN nq) x->x.cell? ⟨b,0,none⟩=some _:=fun x hx=>(hx.cell (p:=⟨b,0,none⟩) (World.block_lt_of_cell? _ ⟨b,0,none⟩ c0)).trans c0;have k1:∀ x,Grows (W0.drewN nq) x->x.cell? ⟨b,1,none⟩=some _:=fun x hx=>(hx.cell (p:=⟨b,1,none⟩) (World.block_lt_of_cell? _ ⟨b,1,none⟩ c1)).trans c1;have q0:∀ x,Grows (W0.drewN nq) x->x.cell? ⟨g,off+i * 4,none⟩=some _:=fun x hx=>(hx.cell (p:=⟨g,off+i * 4,none⟩) (World.block_lt_of_cell? _ ⟨g,off+i * 4,none⟩ t0)).trans t0;have q1:∀ x,Grows (W0.drewN nq) x->x.cell? ⟨g,off+i * 4+1,none⟩=some _:=fun x hx=>(hx.cell (p:=⟨g,off+i * 4+1,none⟩) (World.block_lt_of_cell? _ ⟨g,off+i * 4+1,none⟩ t1)).trans t1;have q2:∀ x,Grows (W0.drewN nq) x->x.cell? ⟨g,off+i * 4+2,none⟩=some _:=fun x hx=>(hx.cell (p:=⟨g,off+i * 4+2,none⟩) (World.block_lt_of_cell? _ ⟨g,off+i * 4+2,none⟩ t2)).trans t2;have q3:∀ x,Grows (W0.drewN nq) x->x.cell? ⟨g,off+i * 4+3,none⟩=some _:=fun x hx=>(hx.cell (p:=⟨g,off+i * 4+3,none⟩) (World.block_lt_of_cell? _ ⟨g,off+i * 4+3,none⟩ t3)).trans t3;generalize W0.drewN nq=W at *;refine QaI (Grows W) 11 [.reads [0,1,2,3,4,5,6,7,8,9],.act 10,.act 11] (by kernel_rfl) (by kernel_rfl) (by kernel_rfl) (by kernel_rfl) (by kernel_rfl) (fun _ _ d _ _ h=>by cases d<;>exact h) (Grows.self _) ?_;refine Qas ?_;simp only [Qaf,pQ1,pQ2,pQ3,pQ4,pQ5,pQ6]
   repeat (go_big_quiet_step (first|(intro hb;rw [q0 _ hb];simp only [Result.andThen];rw [q1 _ hb];simp only;rw [q2 _ hb];simp only;rw [q3 _ hb];exact ⟨rfl,rfl⟩)|(intro hb;rw [k0 _ hb];exact ⟨rfl,rfl⟩)|(intro hb;rw [k1 _ hb];exact ⟨rfl,rfl⟩)))
   refine wpQuiet_nil ?_;clear k0 k1 q0 q1 q2 q3 t0 t1 t2 t3 c0 c1 c2 c3 b0 b1;refine Qai rfl ?_;simp only [Qaf,pQ1,pQ2,pQ3,pQ4,pQ5,pQ6];go_wp2_with fail;have hg:Grows W (W.alloc (QsA 0 0 [] 0)).drew:=Below.drew (Zb.alloc Zc _);have HTB:Hid ((W.alloc (QsA 0 0 [] 0)).drew.heap[W.heap.size]?=some (QsA 0 0 [] 0)):=Za (heap_alloc_new _ _);have HE2:=Za (Qab HE1.out hg);have hPT:P<W.heap.size:=lt_of_block HE1.out;have HBV:Hid (Below P w (W.alloc (QsA 0 0 [] 0)).drew):=Za (HD1.out.trans (hg.mono (by omega)));refine ⟨hg,?_⟩;clear hg HE0 HE1 HD1 HB0 hszP;generalize (W.alloc (QsA 0 0 [] 0)).drew=V at *;obtain ⟨T,hT⟩:∃ T,W.heap.size=T:=⟨_,rfl⟩;simp only [hT] at HTB hPT |-;clear hT;refine Qai rfl ?_;simp only [Qaf,pQ1,pQ2,pQ3,pQ4,pQ5,pQ6];have g0:=Qay HTB.out 0;have g1:=Qay HTB.out 1;have g2:=Qay HTB.out 2;have g3:=Qay HTB.out 3;obtain ⟨c0,c1,c2,c3⟩:=Qaa HTB.out;go_wp2_with fail;refine ⟨fun h=>absurd h (by decide),Qbb ?_⟩;have HTV:=Za (QjP HTB.out (.int .i64 tk) (.int .u64 tn) (.string ⟨ts.toArray⟩) (.int .i64 tp));have HEV:=Za (Qxo HE2.out T (by omega) (.int .i64 tk) (.int .u64 tn) (.string ⟨ts.toArray⟩) (.int .i64 tp));have HBX:Hid (Below P w ((((V.setCell ⟨T,0,none⟩ (.int .i64 tk)).setCell ⟨T,1,none⟩ (.int .u64 tn)).setCell ⟨T,2,none⟩ (.string ⟨ts.toArray⟩)).setCell ⟨T,3,none⟩ (.int .i64 tp))):=Za (QjQ HBV.out (by omega) _ _ _ _);clear c0 c1 c2 c3 g0 g1 g2 g3 HTB HE2 HBV;generalize ((((V.setCell ⟨T,0,none⟩ (.int .i64 tk)).setCell ⟨T,1,none⟩ (.int .u64 tn)).setCell ⟨T,2,none⟩ (.string ⟨ts.toArray⟩)).setCell ⟨T,3,none⟩ (.int .i64 tp))=V2 at *;obtain ⟨t0,t1,t2,t3⟩:=Qaa HTV.out;obtain ⟨p0,p1,p2,p3⟩:=Qaa HEV.out;have f0:=Qay HEV.out 0;have f1:=Qay HEV.out 1;have f2:=Qay HEV.out 2;have f3:=Qay HEV.out 3;have hgt2:=hgt.2;have HKS:=Za hgt2;clear hgt hgt2 hi1 hi2 hi;by_cases c3:tk=3
   ·subst c3;have HX:Hid (X=⟨1,tn,[],0⟩):=Za HX0.out;go_wp2_with fail;exact bodyPost_ret (Qc6 _ _ _ _ _ _ _ rfl (QjP HEV.out _ _ _ _)) rfl ⟨by rw [HX.out],by rw [HPE.out];exact QjQ HBX.out Zc _ _ _ _⟩
   have e3:(tk==3)=false:=Zd c3;by_cases c4:tk=4
   ·subst c4;have HX:Hid (X=⟨2,0,ts,0⟩):=Za HX0.out;go_wp2_with fail;exact bodyPost_ret (Qc6 _ _ _ _ _ _ _ rfl (QjP HEV.out _ _ _ _)) rfl ⟨by rw [HX.out],by rw [HPE.out];exact QjQ HBX.out Zc _ _ _ _⟩
   have e4:(tk==4)=false:=Zd c4;by_cases c1:tk=1
   ·subst c1;have HX1:Hid (X=if QaY ts=true then ⟨3,0,ts,0⟩ else ⟨0,0,[],0⟩):=Za HX0.out;have HPA:=Za (Qga ts V2 (by have:=HTS.out;omega));unfold Qct Qjt at HPA;obtain ⟨O,hO⟩:∃ O,QaY ts=O:=⟨_,rfl⟩;obtain ⟨R,hR⟩:∃ R,(QaY ts&&QaO ts)=R:=⟨_,rfl⟩;obtain ⟨U,hU⟩:∃ U:Int,(if QaY ts=true then (Qbm ts:Int) else 0)=U:=⟨_,rfl⟩;obtain ⟨S,hS⟩:∃ S,(if QaY ts=true then QaF ts else [])=S:=⟨_,rfl⟩;rw [hR,hU,hS,hO] at HPA;rw [hO] at HX1;clear hR hU hS hO;have hVP:P<V2.heap.size:=lt_of_block HEV.out;go_wp2_with fail;((with_reducible refine HPA.out.mono ?_));rintro e w1 ⟨v,rfl,hv,hb1⟩;obtain ⟨va,vc,rfl⟩:=QcG hv;have hal:Below w1.heap.size w1 (w1.alloc (QjR R U (.slice va S.length vc))):=Zb.alloc Zc _;have HB1:Hid (Below P w w1):=Za (HBX.out.trans (hb1.mono (by omega)));have hVP1:P<w1.heap.size:=Nat.lt_of_lt_of_le hVP hb1.size;have HB2:Hid (Below P w (w1.alloc (QjR R U (.slice va S.length vc)))):=Za (HB1.out.trans (hal.mono (by omega)));have HE2:=Za (Qab (Qab HEV.out hb1) hal);have HT2:=Za (Qab (Qab HTV.out hb1) hal);clear hv hb1 hal HPA t0 t1 t2 t3 p0 p1 p2 p3 f0 f1 f2 f3;go_upto_region 11 with fail;generalize w1.alloc (QjR R U (.slice va S.length vc))=V3 at *;obtain ⟨t0,t1,t2,t3⟩:=Qaa HT2.out;obtain ⟨p0,p1,p2,p3⟩:=Qaa HE2.out;have f0:=Qay HE2.out 0;have f1:=Qay HE2.out 1;have f2:=Qay HE2.out 2;have f3:=Qay HE2.out 3;cases O with
    | true =>
      have HX:Hid (X=⟨3,0,ts,0⟩):=Za HX1.out;go_wp2_with fail;exact bodyPost_ret (Qc6 _ _ _ _ _ _ _ rfl (QjP HE2.out _ _ _ _)) rfl ⟨by rw [HX.out],by rw [HPE.out];exact QjQ HB2.out Zc _ _ _ _⟩
    | false =>
      have HX:Hid (X=⟨0,0,[],0⟩):=Za HX1.out;go_wp2_with fail;exact bodyPost_ret (Qc6 _ _ _ _ _ _ _ rfl (QjP HE2.out _ _ _ _)) rfl ⟨by rw [HX.out],by rw [HPE.out];exact QjQ HB2.out Zc _ _ _ _⟩
   have e1:(tk==1)=false:=Zd c1;by_cases c2:tk=2
   ·subst c2;have HX1:Hid (X=match Qkn ts with|some (op,n)=>⟨op,n,[],0⟩|none=>⟨opW ts,0,[],0⟩):=Za HX0.out;rw [Qoj] at HX1;have hn8:=Qqu ts [76,111,99,97,108] 8 (by omega);have hn7:=Qqu ts [65,114,103] 7 (by omega);have HN8:=Za (fun w=>QiD ts [76,111,99,97,108] 8 w (by have:=HTS.out;omega) (by simp));have HN7:=Za (fun w=>QiD ts [65,114,103] 7 w (by have:=HTS.out;omega) (by simp));generalize Qgt ts [76,111,99,97,108] 8=a8 at *;generalize Qgt ts [65,114,103] 7=a7 at *;have HWO:=Za (QpV ts V2 (by have:=HTS.out;omega));have hop:=Qms ts;obtain ⟨R,hR⟩:∃ R,QiB ts=R:=⟨_,rfl⟩;rw [hR] at HWO hop;obtain ⟨ra,rb,rc,hab⟩:∃ a b c,QgP R=(a,b,c):=⟨(QgP R).1,(QgP R).2.1,(QgP R).2.2,rfl⟩;obtain ⟨ok,hok⟩:∃ ok,R.isSome=ok:=⟨_,rfl⟩;rw [hab] at hop;rw [hab,hok] at HWO;have hop2:ra=opW ts:=hop;rw [<- hop2] at HX1;clear hR hab hok hop hop2;by_cases h8:0<=a8
    ·have HX:Hid (X=⟨6,a8,[],0⟩):=Za (by rw [HX1.out,if_pos h8];simp only [];congr 1;omega);go_wp2_with fail;((with_reducible refine (HN8.out _).mono ?_));rintro e w1 ⟨rfl,rfl⟩;go_wp2_with fail;exact bodyPost_ret (Qc6 _ _ _ _ _ _ _ rfl (QjP HEV.out _ _ _ _)) rfl ⟨by rw [HX.out],by rw [HPE.out];exact QjQ HBX.out Zc _ _ _ _⟩
    ·rw [if_neg h8] at HX1;by_cases h7:0<=a7
     ·have HX:Hid (X=⟨7,a7,[],0⟩):=Za (by rw [HX1.out,if_pos h7];simp only [];congr 1;omega);go_wp2_with fail;((with_reducible refine (HN8.out _).mono ?_));rintro e w1 ⟨rfl,rfl⟩;go_wp2_with fail;((with_reducible refine (HN7.out _).mono ?_));rintro e w1 ⟨rfl,rfl⟩;go_wp2_with fail;exact bodyPost_ret (Qc6 _ _ _ _ _ _ _ rfl (QjP HEV.out _ _ _ _)) rfl ⟨by rw [HX.out],by rw [HPE.out];exact QjQ HBX.out Zc _ _ _ _⟩
     ·have HX:Hid (X=⟨ra,0,[],0⟩):=Za (by rw [HX1.out,if_neg h7]);have hVP:P<V2.heap.size:=lt_of_block HEV.out;go_wp2_with fail;((with_reducible refine (HN8.out _).mono ?_));rintro e w1 ⟨rfl,rfl⟩;go_wp2_with fail;((with_reducible refine (HN7.out _).mono ?_));rintro e w1 ⟨rfl,rfl⟩;go_wp2_with fail;((with_reducible refine HWO.out.mono ?_));rintro e w1 ⟨rfl,hb1⟩;have hal:Below w1.heap.size w1 (w1.alloc (QbN ra rb rc)):=Zb.alloc Zc _;have HB1:Hid (Below P w w1):=Za (HBX.out.trans (hb1.mono (by omega)));have hVP1:P<w1.heap.size:=Nat.lt_of_lt_of_le hVP hb1.size;have HB2:Hid (Below P w (w1.alloc (QbN ra rb rc))):=Za (HB1.out.trans (hal.mono (by omega)));have HE2:=Za (Qab (Qab HEV.out hb1) hal);have HR2:=Za (heap_alloc_new w1 (QbN ra rb rc));clear hb1 hal HWO t0 t1 t2 t3 p0 p1 p2 p3 f0 f1 f2 f3;go_upto_region 21 with fail;generalize w1.alloc (QbN ra rb rc)=V3 at *;obtain ⟨r0,r1,r2⟩:=Qa4 HR2.out;obtain ⟨p0,p1,p2,p3⟩:=Qaa HE2.out;have f0:=Qay HE2.out 0;have f1:=Qay HE2.out 1;have f2:=Qay HE2.out 2;have f3:=Qay HE2.out 3;go_wp2_with fail;exact bodyPost_ret (Qc6 _ _ _ _ _ _ _ rfl (QjP HE2.out _ _ _ _)) rfl ⟨by rw [HX.out],by rw [HPE.out];exact QjQ HB2.out Zc _ _ _ _⟩
   have e2:(tk==2)=false:=Zd c2;have HX:Hid (X=⟨0,0,[],0⟩):=Za (by rw [HX0.out];unfold Qa9;simp only [c1,c2,c3,c4,if_false]);go_wp2_with fail;exact bodyPost_ret (Qc6 _ _ _ _ _ _ _ rfl (QjP HEV.out _ _ _ _)) rfl ⟨by rw [HX.out],by rw [HPE.out];exact QjQ HBX.out Zc _ _ _ _⟩
end
section
open Go.RowKit
attribute [local go_sem] ByteArray.mk_append_mk Qac Qad Qae
theorem Qem (m k:Int) (B b i:Nat) (w:World) (L:List TokI) (o:List Nd) (h:RSt m B b w L i (-1) o) (hL:L.length<=1000000) (hk0:k≠0) :
  Calls Tryz.prog 203 #[.pointer (some ⟨b,0,none⟩),.int .i64 k] w fun e w'=>e = .returned (.tuple #[])/\Below B w w'/\if atT k (L.drop i)=true then RSt m B b w' L (i+1) (-1) o else RSt m B b w' L i i o:=by
 cases hk:atT k (L.drop i) with
 | true=>exact (Qk2 m k B b i w L o h hL hk0 hk).mono (fun e w' h=>⟨h.1,h.2.2,by rw [if_pos rfl];exact h.2.1⟩)
 | false=>exact (Qu4 m k B b i w L o h hL hk0 hk).mono (fun e w' h=>⟨h.1,h.2.2,by rw [if_neg (by decide)];exact h.2.1⟩)
set_option maxRecDepth 100000 in
theorem Qlk (m F:Int) (B b i:Nat) (kd:UInt8) (w:World) (L:List TokI) (o:List Nd) (h:RSt m B b w L i F o) (hF:0<=F) (hL:L.length<=1000000) :
  Calls Tryz.prog 98 #[.pointer (some ⟨b,0,none⟩),.int .u8 kd.toNat] w fun e w'=>e = .returned (.tuple #[])/\Below w.heap.size w w':=by
 have HLK:=Za (Qlj m F B b i w L o h hL);have H0:=Za h;obtain ⟨⟨op,num,str,pos⟩,hx⟩:∃ x,Qa9 (L.drop i)=x:=⟨_,rfl⟩;have HXX:=Za hx;rw [hx] at HLK;unfold QbB at HLK;simp only at HLK;clear h hx;go_enter Tryz.func98,Tryz.ntmps98;go_wp2_with fail;((with_reducible refine HLK.out.mono ?_));rintro e w1 ⟨rfl,hb1⟩;have hal:Below w1.heap.size w1 (w1.alloc (Qaj op num str pos)):=Zb.alloc Zc _;have hg2:Below w.heap.size w (w1.alloc (Qaj op num str pos)):=Qah hb1 Zc hal;have H2:=Za (H0.out.below hg2);have HB2:Hid (Below B w (w1.alloc (Qaj op num str pos))):=Za (hg2.mono H0.out.size);have HG2:=Za hg2;have HQ2:=Za (heap_alloc_new w1 (Qaj op num str pos));have hbQ:b<w1.heap.size:=by
  obtain ⟨tv,nv,k1,_⟩:=(H0.out.below hb1).ex;exact lt_of_block k1
 have hwQ:w.heap.size<=w1.heap.size:=hb1.size;clear hb1 hal hg2 HLK;go_upto_region 1 with fail;generalize w1.alloc (Qaj op num str pos)=W2 at *;generalize w1.heap.size=Q at *;go_cut [5] (fun z wx=>∃ nq,z = .bool (op==3&&atT 5 (L.drop (i+1)))/\wx=W2.drewN nq)
 case first =>
  obtain ⟨q0,q1,q2,q3⟩:=Qaa HQ2.out;obtain ⟨⟨tv,nv,h1,h2,h3⟩,h4,h5,h6,h7,h8,h9,ha,hc',hd'⟩:=H2.out;obtain ⟨c0,c1,c2,c3⟩:=Qaa h1;by_cases e3:op=3
  ·subst e3;cases hd:L.drop (i+1) with
   | nil =>
     obtain ⟨a,cap,rfl,hl,hc⟩:=h2;have hi1:¬ (i:Int)+1<(L.length:Int):=by
      have:=congrArg List.length hd;rw [List.length_drop] at this;simp only [List.length_nil] at this;omega
     have HD:=Za hd;clear hc h3 h6 h8 h1 hd h7 ha hc' hd';go_quiet (fail);go_wp2_with fail;go_meet;exact ⟨_,by rw [HD.out];simp [atT],rfl⟩
   | cons t q =>
     obtain ⟨g,off,cap,rfl,hgB,hi,t0,t1,t2,t3⟩:=h2.drop_cells hd;have hi1:(i:Int)+1<(L.length:Int):=by omega
     have HD:=Za hd;clear h3 h6 h8 h1 hd h7 h9 ha hc' hd' h2 hi;obtain ⟨tk,tn,ts,tp⟩:=t;simp only at t0;go_quiet (fail);go_wp2_with fail;go_meet;exact ⟨_,by rw [HD.out];simp [atT],rfl⟩
  ·have e3':(op==3)=false:=Zd e3;clear h3 h6 h8 h1 h7 h9 ha hc' hd' h2;go_quiet (fail);go_wp2_with fail;go_meet;exact ⟨_,by simp [e3'],rfl⟩
 case rest =>
 obtain ⟨nq,rfl,rfl⟩:=hcut;have H3:Hid (RSt m B b (W2.drewN nq) L i F o):=Za (H2.out.below (below_drewN Zb _));have HB3:Hid (Below B w (W2.drewN nq)):=Za (below_drewN HB2.out _);have HG3:Hid (Below w.heap.size w (W2.drewN nq)):=Za (below_drewN HG2.out _);have HQ3:Hid ((W2.drewN nq).heap[Q]?=some (Qaj op num str pos)):=HQ2;obtain ⟨op2,hop2⟩:∃ z,(if (op==3&&(kd==83||(kd==101&&atT 5 (L.drop (i+1)))))=true then (5:Int) else op)=z:=⟨_,rfl⟩;have HOP2:=Za hop2;generalize W2.drewN nq=W3 at *;obtain ⟨cl,hcl⟩:∃ z,atT 5 (L.drop (i+1))=z:=⟨_,rfl⟩;rw [hcl] at hop2 |-;clear H2 HB2 HG2 HQ2 hcl;have hk83:=Qao kd 83;have hk101:=Qao kd 101;obtain ⟨b83,hb83⟩:∃ z,(kd==83)=z:=⟨_,rfl⟩;obtain ⟨b101,hb101⟩:∃ z,(kd==101)=z:=⟨_,rfl⟩;obtain ⟨b3,hb3⟩:∃ z,(op==3)=z:=⟨_,rfl⟩;rw [hb83] at hk83 hop2;rw [hb101] at hk101 hop2;rw [hb3] at hop2 |-;have hk83':((kd.toNat:Int)==83)=b83:=hk83;have hk101':((kd.toNat:Int)==101)=b101:=hk101;clear hb83 hb101 hk83 hk101;obtain ⟨q0,q1,q2,q3⟩:=Qaa HQ3.out;have fq:=Qay HQ3.out 0;go_upto_region 2 with fail;go_cut [55] (fun z wx=>z = .bool (b3&&(b83||(b101&&(b3&&cl))))/\W3=wx)
 case first =>
  cases b3
  ·go_wp2_with fail;go_meet;exact ⟨by simp,rfl⟩
  ·cases b83
   ·cases b101
    ·go_wp2_with fail;go_meet;exact ⟨by simp,rfl⟩
    ·go_wp2_with fail;go_meet;exact ⟨by simp,rfl⟩
   ·go_wp2_with fail;go_meet;exact ⟨by simp,rfl⟩
 case rest =>
 obtain ⟨rfl,rfl⟩:=hcut;obtain ⟨W3,rfl⟩:∃ y:World,y=W3:=⟨_,rfl⟩;go_upto_if 55 with fail;go_cut [56] (fun z wx=>Hid (wx.heap[Q]?=some (Qaj op2 num str pos))/\Hid (Below w.heap.size w wx))
 case first =>
  have HS5:Hid ((W3.setCell ⟨Q,0,none⟩ (.int .i64 5)).heap[Q]?=some (Qaj 5 num str pos)):=Za (heap_setCell_same _ _ 0 _ _ _ HQ3.out);have HG5:Hid (Below w.heap.size w (W3.setCell ⟨Q,0,none⟩ (.int .i64 5))):=Za (HG3.out.setCell hwQ _);cases hcb:(b3&&(b83||(b101&&(b3&&cl)))) with
  | true =>
    have e2:op2=5:=by
     rw [<- hop2];refine if_pos ?_;revert hcb;cases b3<;>cases b83<;>cases b101<;>cases cl<;>decide
    have E2:=Za e2;clear e2;go_wp2_with fail;go_meet;rw [E2.out];exact ⟨HS5,HG5⟩
  | false =>
    have e2:op2=op:=by
     rw [<- hop2];refine if_neg ?_;revert hcb;cases b3<;>cases b83<;>cases b101<;>cases cl<;>decide
    have E2:=Za e2;clear e2;go_wp2_with fail;go_meet;rw [E2.out];exact ⟨HQ3,HG3⟩
 case rest =>
 obtain ⟨HQ5,HG5⟩:=hcut;obtain ⟨W5,rfl⟩:∃ y:World,y=wc:=⟨_,rfl⟩;have H5:Hid (RSt m B b W5 L i F o):=Za (H0.out.below HG5.out);clear H3 HB3 HG3 HQ3 q0 q1 q2 q3 fq hop2 hb3 hk83' hk101';obtain ⟨⟨tv,nv,k1,k2,k3⟩,_⟩:=H5.out;obtain ⟨c0,c1,c2,c3⟩:=Qaa k1;have hF2:F>=0:=hF;have HFO:=Za (Qoi m F B b i W5 L o H5.out hF);clear k1 k2 k3;go_wp2_with fail;((with_reducible refine HFO.out.mono ?_));rintro e w6 ⟨rfl,rfl⟩;go_wp2_with fail;(try simp only [Exit.inBlock,Exit.then]);refine bodyPost_ret (results_none rfl _ _ _) rfl ?_;exact ⟨rfl,HG5.out⟩
end
end Go.Proofs.YtoohondkpddmcaaGreatDoor
