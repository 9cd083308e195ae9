/- Rr Rs -/
import Derived.Test.YtoohondkpddmcaaGreatDoorYzz
import Derived.Test.YtoohondkpddmcaaGreatDoorYba
import Derived.Test.YtoohondkpddmcaaGreatDoorYau
import Derived.Test.YtoohondkpddmcaaGreatDoorYax
namespace Go.Proofs.YtoohondkpddmcaaGreatDoor
set_option maxHeartbeats 32000000
set_option linter.unusedVariables false
set_option linter.unusedSimpArgs false
section
open Go.RowKit
attribute [local go_sem] ByteArray.mk_append_mk Qah Qai Qag
def wI:Option Nat->Int
 | some j=>j
 | none=>-1
def Qd6 (w:World) (x:Option Nat) (e:Ending) (w':World):Prop:=e = .returned (.int .i64 (wI x))/\Below w.heap.size w w'
structure WalkOk (p:List Nd) (d:Nat) (dep:Int):Prop where
 blk:∀ (kd:UInt8) (i:Nat) (v:Value) (w:World),Qf2 kd=true->NSl w v p->i<=p.length ->
  Calls Tryz.prog 54 #[v,.int .i64 i,.int .u8 kd.toNat,.int .i64 dep] w (Qd6 w (Qaz p d true kd i))
 one:∀ (kd:UInt8) (i:Nat) (v:Value) (w:World),Qf2 kd=false->kd≠120->NSl w v p->i<=p.length ->
  Calls Tryz.prog 54 #[v,.int .i64 i,.int .u8 kd.toNat,.int .i64 dep] w (Qd6 w (Qaz p d false kd i))
 el:∀ (kq:UInt8) (i:Nat) (v:Value) (w:World),kq≠115->NSl w v p->(h:i<p.length)->Qaq kq p[i].kind=true ->
  Calls Tryz.prog 54 #[v,.int .i64 i,.int .u8 120,.int .i64 dep] w (Qd6 w (Qaz p d false kq i))
theorem NSl.tat {w:World} {g off n c:Nat} {l:List Nd} (h:NSl w (.slice (some ⟨g,off,none⟩) n c) l) (i:Nat) (hi:i<l.length):TAt w g (off+i * 4) l[i]:=by
 obtain ⟨⟨a,cap,hv,hc⟩,_⟩:=h;injection hv with e1 _ _;obtain ⟨b,o,ha,hk⟩:=hc (by rintro rfl;simp at hi);rw [<- e1] at ha;injection ha with ha;injection ha with h1 h2 _;subst h1 h2;exact hk i hi
theorem QjE {f:Nat->Option Nat} {L:Nat} (h:∀ i j,f i=some j->i<j/\j<=L):∀ (m i:Nat),i<=L->L<i+m->Qb4 f m i=none
 | 0,i,h1,h2=>by omega
 | m+1,i,h1,h2=>by
   rw [Qb4];cases hf:f i with
   | none=>rfl
   | some j =>
     have:=h i j hf;exact QjE h m j this.2 (by omega)
theorem Qp2 (n:Nd) (k:UInt8) (h:k≠115):Qbg n k=Qbg n 120:=by
 unfold Qbg Qek;rw [show (k != 115)=true from bne_iff_ne.2 h];rfl
theorem Qp3:∀ n:Fin 100,∀ k∈(Qax (n.val:Int)).2,Qf2 k=QaZ k/\k≠120:=by decide +kernel
theorem QjF (op kids:Int):(Qc0 op kids).1.length<=10:=by
 unfold Qc0;split
 ·simp
 split
 ·split
  ·simp
  ·simp only [List.length_replicate];omega
 split
 ·simp
 split
 ·simp
 ·cases hf:QhA op with
  | none=>simp [Qec]
  | some t=>exact Nat.le_trans (QjC t (List.mem_of_find?_eq_some hf)) (by omega)
theorem Qic {op kids:Int} (h:inR op=true):∀ k∈(Qc0 op kids).1,Qf2 k=QaZ k/\k≠120:=by
 unfold Qc0;split
 ·intro k hk;cases hk
 split
 ·split
  ·intro k hk;cases hk
  ·intro k hk;rw [List.eq_of_mem_replicate hk];decide
 split
 ·decide
 split
 ·decide
 ·rename_i h1 h2 h3 h4
  have ht:QeS op=true:=by
   unfold inR at h;simp only [Bool.or_eq_true,beq_iff_eq] at h;rcases h with h|h
   ·omega
   ·exact h
  rw [QjA ht];obtain ⟨z,rfl⟩:=QfB ht;exact Qp3 z
theorem QjG (p:List Nd) (hp:p.length<=1000000) (kd:UInt8) (dep:Int) (i:Nat) (v:Value) (w:World) (hv:NSl w v p) (hi:p.length<=i) (hi2:i<=1000000) :
  Calls Tryz.prog 54 #[v,.int .i64 i,.int .u8 kd.toNat,.int .i64 dep] w (Qd6 w none):=by
 obtain ⟨⟨a,cap,rfl,hc⟩,hs⟩:=hv;have hi':(i:Int)>=(p.length:Int):=by omega
 clear hc hs;go_enter Tryz.func54,Tryz.ntmps54;go_wp2_with fail;go_ret;exact ⟨rfl,Zb⟩
theorem QhE (p:List Nd) (hp:p.length<=1000000) (kd:UInt8) (dep:Int) (hd:dep>32) (i:Nat) (v:Value) (w:World) (hv:NSl w v p) (hi2:i<=1000000) :
  Calls Tryz.prog 54 #[v,.int .i64 i,.int .u8 kd.toNat,.int .i64 dep] w (Qd6 w none):=by
 by_cases hi:p.length<=i
 ·exact QjG p hp kd dep i v w hv hi hi2
 obtain ⟨⟨a,cap,rfl,hc⟩,hs⟩:=hv;have hi':¬ (i:Int)>=(p.length:Int):=by omega
 clear hc hs;go_enter Tryz.func54,Tryz.ntmps54;go_wp2_with fail;go_ret;exact ⟨rfl,Zb⟩
set_option maxRecDepth 100000 in
theorem QrS (p:List Nd) (hp:p.length<=1000000) (d:Nat) (dep:Int) (hd0 : -1000<=dep) (hd1:dep<=32) (ih:WalkOk p d (dep+1)) (kd:UInt8) (hkb:Qf2 kd=true) (i:Nat) (v:Value) (w:World) (hv:NSl w v p) (hi:i<p.length) :
  Calls Tryz.prog 54 #[v,.int .i64 i,.int .u8 kd.toNat,.int .i64 dep] w (Qd6 w (Qaz p (d+1) true kd i)):=by
 have IH:=Za ih;have HI:=Za (fun w=>QfX kd true (Za hkb) w);have hk115:kd≠115:=by rintro rfl;cases hkb
 obtain ⟨X,hX⟩:∃ X,Hid (Qaz p (d+1) true kd i=X):=⟨_,Za rfl⟩;have HX0:Hid (X=if p[i].kind=4/\p[i].num=0/\p[i].str=[]/\0<=p[i].pos then Qb4 (Qaz p d false kd) p[i].pos.toNat (i+1) else none):=Za (by rw [<- hX.out,Qaz,List.getElem?_eq_getElem hi]);rw [hX.out];clear ih hkb hX;have HV0:=Za hv;obtain ⟨hts,htn⟩:=hv.2 p[i] (List.getElem_mem hi);obtain ⟨a,cap,rfl,hc⟩:=hv.1;obtain ⟨g,off,rfl,hk⟩:=hc (by rintro rfl;simp at hi);obtain ⟨d0,d1,d2,d3⟩:=hk i hi;have hi':¬ (i:Int)>=(p.length:Int):=by omega
 have hi2:(i:Int)<(p.length:Int):=by omega
 have hd1':¬ dep>32:=by omega
 clear hc hk hv;obtain ⟨T,hT⟩:∃ T,p[i]=T:=⟨_,rfl⟩;have HT:=Za hT;rw [hT] at d0 d1 d2 d3 hts htn HX0;obtain ⟨nk,nn,ns,np⟩:=T;simp only at d0 d1 d2 d3 hts htn HX0;obtain ⟨L,hL⟩:∃ L,p.length=L:=⟨_,rfl⟩;have HL:=Za hL;rw [hL] at hi hi' hi2 hp HV0 |-;have HBA:Hid (Below w.heap.size w (w.alloc (Qae nk nn ns np))):=Za (Zb.alloc Zc _);have HE:=Za (heap_alloc_new w (Qae nk nn ns np));have HV:=Za (HV0.out.below HBA.out);have hsz:w.heap.size<=(w.alloc (Qae nk nn ns np)).heap.size:=HBA.out.size;obtain ⟨P,hP⟩:∃ P,w.heap.size=P:=⟨_,rfl⟩;have HPE:=Za hP;have HSZ:=Za hsz;clear hT HV0 hsz hL;go_enter Tryz.func54,Tryz.ntmps54;go_upto_region 4 with fail;generalize w.alloc (Qae nk nn ns np)=W at *;(try simp only [hP]);rw [hP] at HBA HE HSZ;clear hP d0 d1 d2 d3;obtain ⟨e0,e1,e2,e3⟩:=Qac HE.out;by_cases h4:nk=4/\nn=0/\ns=[]/\0<=np
 ·obtain ⟨rfl,rfl,rfl,hn0⟩:=h4;obtain ⟨N,rfl⟩:∃ N:Nat,np=N:=⟨np.toNat,by omega⟩;have HX2:Hid (Qb4 (Qaz p d false kd) N (i+1)=X):=Za (by rw [HX0.out,if_pos ⟨rfl,rfl,rfl,hn0⟩]<;>rfl);have hn0':¬ (N:Int)<0:=by omega
  clear HX0;by_cases hNL:N>L
  ·have hNL':(N:Int)>(L:Int):=by omega
   have HX:Hid (X=none):=Za (by
    rw [<- HX2.out];exact QjE (fun i j=>Qa5 p d false kd i j) N (i+1) (by rw [HL.out];omega) (by rw [HL.out];omega))
   go_wp2_with fail;((with_reducible refine (HI.out _).mono ?_));rintro e w1 ⟨rfl,rfl⟩;go_wp2_with fail;go_ret;rw [HX.out];exact ⟨rfl,by rw [HPE.out];exact HBA.out⟩
  ·have hNL':¬ (N:Int)>(L:Int):=by omega
   have HEQ:=Za HE.out;go_wp2_with fail;((with_reducible refine (HI.out _).mono ?_));rintro e w1 ⟨rfl,rfl⟩;go_wp2_with fail;go_loopw [1,10] (fun x y wr=>∃ (j q:Nat),x = .int .i64 q/\y = .int .i64 j/\j<=N/\q<=L/\Hid (Qb4 (Qaz p d false kd) (N-j) q=X)/\Hid (NSl wr (.slice (some ⟨g,off,none⟩) L cap) p)/\Hid (wr.heap[P]?=some (Qae 4 0 [] N))/\Hid (Below P w wr)/\Hid (P<=wr.heap.size)) (fun _ y _=>N-(intOf y).toNat)
   case atStart=>exact ⟨0,i+1,by simp,rfl,by omega,by omega,HX2,HV,HEQ,HBA,HSZ⟩
   case round =>
    clear HX2 HV HBA HSZ HE e0 e1 e2 e3 HEQ;obtain ⟨j,q,rfl,rfl,hj,hq,HXJ,HV,HE,HB,HS⟩:=hrel;obtain ⟨w4,rfl⟩:∃ y:World,y=wr:=⟨_,rfl⟩;obtain ⟨e0,e1,e2,e3⟩:=Qac HE.out;by_cases hlt:j<N
    ·have hlt':(j:Int)<(N:Int):=by omega
     have HXK:Hid (X=match Qaz p d false kd q with|none=>none|some z=>Qb4 (Qaz p d false kd) (N-(j+1)) z):=Za (by
      rw [<- HXJ.out,show N-j=(N-(j+1))+1 by omega,Qb4]<;>rfl)
     by_cases hqL:q<L
     ·have hqL':¬ (q:Int)>=(L:Int):=by omega
      have hqL2:(q:Int)<(L:Int):=by omega
      have hqp:q<p.length:=by rw [HL.out];exact hqL
      obtain ⟨c0,c1,c2,c3⟩:=HV.out.tat q hqp;obtain ⟨qk,hqk⟩:∃ z,p[q].kind=z:=⟨_,rfl⟩;rw [hqk] at c0;obtain ⟨ab,hab⟩:∃ z,Hid (Qaq kd qk=z):=⟨_,Za rfl⟩;have HPER:=Za (fun w=>Qdc kd qk ab hab w);clear c1 c2 c3;cases ab with
      | false =>
        have HX:Hid (X=none):=Za (by
         rw [HXK.out];have:Qaz p d false kd q=none:=by
          cases d with
          | zero=>rfl
          | succ d=>rw [Qaz,List.getElem?_eq_getElem hqp];simp only [];rw [if_neg (by rw [hqk,hab.out];simp)]
         rw [this])
        clear HXK HXJ;go_wp2_with fail;((with_reducible refine (HPER.out _).mono ?_));rintro e w5 ⟨rfl,rfl⟩;go_wp2_with fail;go_ret;rw [HX.out];exact ⟨rfl,by rw [HPE.out];exact HB.out⟩
      | true =>
        have HC:=Za (IH.out.el kd q _ w4 hk115 HV.out hqp (by rw [hqk];exact hab.out));unfold Qd6 at HC;cases hx:Qaz p d false kd q with
        | none =>
          rw [hx] at HC HXK;have HX:Hid (X=none):=HXK;clear hx HXJ HXK;unfold wI at HC;go_wp2_with fail;((with_reducible refine (HPER.out _).mono ?_));rintro e w5 ⟨rfl,rfl⟩;go_wp2_with fail;((with_reducible refine HC.out.mono ?_));rintro e w5 ⟨rfl,hb5⟩;have HB5:Hid (Below P w w5):=Za (HB.out.trans (hb5.mono HS.out));clear hb5;go_wp2_with fail;go_ret;rw [HX.out];exact ⟨rfl,by rw [HPE.out];exact HB5.out⟩
        | some z =>
          rw [hx] at HC HXK;have hz:=(Qa5 p d false kd q z hx).2;rw [HL.out] at hz;have HX5:Hid (Qb4 (Qaz p d false kd) (N-(j+1)) z=X):=Za HXK.out.symm;clear hx HXJ HXK;unfold wI at HC;have hz0:¬ (z:Int)<0:=by omega
          go_wp2_with fail;((with_reducible refine (HPER.out _).mono ?_));rintro e w5 ⟨rfl,rfl⟩;go_wp2_with fail;((with_reducible refine HC.out.mono ?_));rintro e w5 ⟨rfl,hb5⟩;have HB5:Hid (Below P w w5):=Za (HB.out.trans (hb5.mono HS.out));have HV5:=Za (HV.out.below hb5);have HE5:=Za (Qad HE.out hb5);have HS5:Hid (P<=w5.heap.size):=Za (Nat.le_trans HS.out hb5.size);clear hb5 HC;go_wp2_with fail;go_roundw
          case rel=>exact ⟨j+1,z,by go_num,by go_num,by omega,hz,HX5,HV5,HE5,HB5,HS5⟩
          case measure=>simp [intOf];omega
     ·have hqL':(q:Int)>=(L:Int):=by omega
      have HX:Hid (X=none):=Za (by rw [HXK.out,Qmh p d false kd q (by rw [HL.out];omega)]);clear HXK HXJ;go_wp2_with fail;go_ret;rw [HX.out];exact ⟨rfl,by rw [HPE.out];exact HB.out⟩
    ·have hlt':¬ (j:Int)<(N:Int):=by omega
     have HX5:Hid (X=some q):=Za (by rw [<- HXJ.out,show N-j=0 by omega,Qb4]);clear HXJ;go_wp2_with fail;go_ret;rw [HX5.out];exact ⟨rfl,by rw [HPE.out];exact HB.out⟩
 ·have HX:Hid (X=none):=Za (by rw [HX0.out,if_neg h4]);have HN4:=Za h4;clear HX0 h4;by_cases g1:nk=4
  ·subst g1;by_cases g2:nn=0
   ·subst g2;cases ns with
    | nil =>
      have g3:np<0:=by
       by_cases h:np<0
       ·exact h
       ·exact absurd ⟨rfl,rfl,rfl,by omega⟩ HN4.out
      go_wp2_with fail;((with_reducible refine (HI.out _).mono ?_));rintro e w1 ⟨rfl,rfl⟩;go_wp2_with fail;go_ret;rw [HX.out];exact ⟨rfl,by rw [HPE.out];exact HBA.out⟩
    | cons c r =>
      go_wp2_with fail;((with_reducible refine (HI.out _).mono ?_));rintro e w1 ⟨rfl,rfl⟩;go_wp2_with fail;go_ret;rw [HX.out];exact ⟨rfl,by rw [HPE.out];exact HBA.out⟩
   ·have f2:(nn != 0)=true:=bne_iff_ne.2 g2;clear g2;go_wp2_with fail;((with_reducible refine (HI.out _).mono ?_));rintro e w1 ⟨rfl,rfl⟩;go_wp2_with fail;go_ret;rw [HX.out];exact ⟨rfl,by rw [HPE.out];exact HBA.out⟩
  ·have f1:(nk != 4)=true:=bne_iff_ne.2 g1;clear g1;go_wp2_with fail;((with_reducible refine (HI.out _).mono ?_));rintro e w1 ⟨rfl,rfl⟩;go_wp2_with fail;go_ret;rw [HX.out];exact ⟨rfl,by rw [HPE.out];exact HBA.out⟩
set_option maxRecDepth 100000 in
theorem QrT (p:List Nd) (hp:p.length<=1000000) (d:Nat) (dep:Int) (hd0 : -1000<=dep) (hd1:dep<=32) (ih:WalkOk p d (dep+1)) (kd:UInt8) (hkb:Qf2 kd=false) (hkx:kd≠120) (i:Nat) (v:Value) (w:World) (hv:NSl w v p) (hi:i<p.length) (hps:p[i].str.length<=1048576) :
  Calls Tryz.prog 54 #[v,.int .i64 i,.int .u8 kd.toNat,.int .i64 dep] w (Qd6 w (Qaz p (d+1) false kd i)):=by
 have IH:=Za ih;have HI:Hid (∀ w,Calls Tryz.prog 64 #[.int .u8 kd.toNat] w fun e w'=>e = .returned (.bool false)/\w=w'):=Za (fun w=>QfX kd false (Za hkb) w);obtain ⟨X,hX⟩:∃ X,Hid (Qaz p (d+1) false kd i=X):=⟨_,Za rfl⟩;have HX0:Hid (X=if Qaq kd p[i].kind=true/\Qbg p[i] kd=true then (match Qb3 p[i] with
  | none=>none
  | some ks=>QbC (fun k j=>Qaz p d (QaZ k) k j) ks (i+1)) else none):=Za (by rw [<- hX.out,Qaz,List.getElem?_eq_getElem hi]<;>rfl)
 rw [hX.out];clear ih hX;have HV0:=Za hv;obtain ⟨hts,htn⟩:=hv.2 p[i] (List.getElem_mem hi);obtain ⟨a,cap,rfl,hc⟩:=hv.1;obtain ⟨g,off,rfl,hk⟩:=hc (by rintro rfl;simp at hi);obtain ⟨d0,d1,d2,d3⟩:=hk i hi;have hi':¬ (i:Int)>=(p.length:Int):=by omega
 have hi2:(i:Int)<(p.length:Int):=by omega
 have hd1':¬ dep>32:=by omega
 clear hc hk hv;obtain ⟨T,hT⟩:∃ T,p[i]=T:=⟨_,rfl⟩;have HT:=Za hT;rw [hT] at d0 d1 d2 d3 hts htn HX0 hps;obtain ⟨nk,nn,ns,np⟩:=T;simp only at d0 d1 d2 d3 hts htn HX0 hps;obtain ⟨L,hL⟩:∃ L,p.length=L:=⟨_,rfl⟩;have HL:=Za hL;rw [hL] at hi hi' hi2 hp HV0 |-;have HBA:Hid (Below w.heap.size w (w.alloc (Qae nk nn ns np))):=Za (Zb.alloc Zc _);have HE:=Za (heap_alloc_new w (Qae nk nn ns np));have HV:=Za (HV0.out.below HBA.out);have hsz:w.heap.size<=(w.alloc (Qae nk nn ns np)).heap.size:=HBA.out.size;obtain ⟨P,hP⟩:∃ P,w.heap.size=P:=⟨_,rfl⟩;have HPE:=Za hP;have HSZ:=Za hsz;clear hT HV0 hsz hL;go_enter Tryz.func54,Tryz.ntmps54;go_upto_region 4 with fail;generalize w.alloc (Qae nk nn ns np)=W at *;(try simp only [hP]);rw [hP] at HBA HE HSZ;clear hP d0 d1 d2 d3;obtain ⟨e0,e1,e2,e3⟩:=Qac HE.out;obtain ⟨⟨ks,ok⟩,hkv⟩:∃ z,Qc0 nk np=z:=⟨_,rfl⟩;obtain ⟨ab,hab⟩:∃ z,Hid (Qaq kd nk=z):=⟨_,Za rfl⟩;obtain ⟨fb,hfb⟩:∃ z,Hid (Qbg ⟨nk,nn,ns,np⟩ kd=z):=⟨_,Za rfl⟩;have HFB:Hid (Qbg ⟨nk,nn,ns,np⟩ kd=fb):=Za (hfb.out);have HKN:=Za (Qmr nk np ks ok (Za hkv) W);have HKV:=Za hkv;have HXS:Hid (X=if ab=true/\fb=true/\ok=true then QbC (fun k j=>Qaz p d (QaZ k) k j) ks (i+1) else none):=Za (by
  rw [HX0.out,hab.out,HFB.out];cases hab2:ab with
  | false=>simp
  | true =>
    rw [hab2] at hab;rw [Qib ⟨nk,nn,ns,np⟩ (Qhc hab.out)];simp only [hkv];cases fb<;>cases ok<;>simp)
 have hgood:ab=true->∀ k∈ks,Qf2 k=QaZ k/\k≠120:=fun h=>by
  rw [h] at hab;have:=Qic (kids:=np) (Qhc hab.out);rw [hkv] at this;exact this
 have HGD:=Za hgood;have hkl:ok=true->ks.length<=10:=fun h=>by
  have:=QjF nk np;rw [hkv] at this;exact this
 have HKL:=Za hkl;clear HX0 hkv hgood hkl;go_wp2_with fail;((with_reducible refine (HI.out _).mono ?_));rintro e w1 ⟨rfl,rfl⟩;go_wp2_with fail;((with_reducible refine HKN.out.mono ?_));rintro e w2 ⟨rfl,hb2⟩;have HE2:=Za (Qad HE.out hb2);have HV2:=Za (HV.out.below hb2);have HB2:Hid (Below P w w2):=Za (HBA.out.trans (hb2.mono HSZ.out));have HS2:Hid (P<=w2.heap.size):=Za (Nat.le_trans HSZ.out hb2.size);have HPER:=Za (fun w=>Qdc kd nk (Qaq kd nk) (Za rfl) w);have HFI:=Za (fun w=>QjD ⟨nk,nn,ns,np⟩ htn kd fb hfb w hps);unfold Qbz at HFI;simp only at HFI;clear hb2 HE HV HBA HSZ e0 e1 e2 e3 HKN;obtain ⟨e0,e1,e2,e3⟩:=Qac HE2.out;obtain ⟨tb,htb⟩:∃ tb,Hid (tb=!(ok&&ab&&fb)):=⟨_,Za rfl⟩;go_upto_region 18 with fail;go_cut [109] (fun z wx=>z = .bool tb/\Hid (Below w2.heap.size w2 wx))
 case first =>
  obtain ⟨pb,hpb⟩:∃ z,Qaq kd nk=z:=⟨_,rfl⟩;have hpa:pb=ab:=by rw [<- hpb,hab.out]
  rw [hpb] at HPER;subst hpa;have hk120:((kd.toNat:Int) != 120)=true:=by
   have:=Qao kd 120;rw [bne,show (120:Int)=((120:UInt8).toNat:Int) from rfl,this,Zd hkx];rfl
  have HTB:=Za htb.out;clear hpb;cases ok with
  | false =>
    have e:tb=true:=by rw [HTB.out];rfl
    subst e;go_wp2_with fail;go_meet;exact ⟨rfl,Za Zb⟩
  | true =>
    cases pb with
    | false =>
      have e:tb=true:=by rw [HTB.out];rfl
      subst e;go_wp2_with fail;((with_reducible refine (HPER.out _).mono ?_));rintro e w5 ⟨rfl,rfl⟩;go_wp2_with fail;go_meet;exact ⟨rfl,Za Zb⟩
    | true =>
      have e:tb=!fb:=by rw [HTB.out];rfl
      subst e;go_wp2_with fail;((with_reducible refine (HPER.out _).mono ?_));rintro e w5 ⟨rfl,rfl⟩;go_wp2_with fail;((with_reducible refine (HFI.out _).mono ?_));rintro e w5 ⟨rfl,hb5⟩;have HG5:=Za hb5;clear hb5;go_wp2_with fail;go_meet;exact ⟨rfl,HG5⟩
 case rest =>
 obtain ⟨rfl,HG3⟩:=hcut;obtain ⟨w3,rfl⟩:∃ y:World,y=wc:=⟨_,rfl⟩;have HV3:=Za (HV2.out.below HG3.out);have HB3:Hid (Below P w w3):=Za (HB2.out.trans (HG3.out.mono HS2.out));have HS3:Hid (P<=w3.heap.size):=Za (Nat.le_trans HS2.out HG3.out.size);clear HE2 HV2 HB2 HS2 HG3 e0 e1 e2 e3 HPER HFI;cases tb with
 | true =>
   have HX:Hid (X=none):=Za (by
    rw [HXS.out];refine if_neg (fun e=>?_);have:=htb.out;rw [e.1,e.2.1,e.2.2] at this;cases this)
   go_wp2_with fail;go_ret;rw [HX.out];exact ⟨rfl,by rw [HPE.out];exact HB3.out⟩
 | false =>
   have hall:ab=true/\fb=true/\ok=true:=by
    have:=htb.out;revert this;cases ab<;>cases fb<;>cases ok<;>decide
   have HX1:Hid (QbC (fun k j=>Qaz p d (QaZ k) k j) ks (i+1)=X):=Za (by rw [HXS.out,if_pos hall]);have HGK:=Za (HGD.out hall.1);have hkl:=HKL.out hall.2.2;obtain ⟨K,hK⟩:∃ K,ks.length=K:=⟨_,rfl⟩;have HK:=Za hK;rw [hK] at hkl;clear HXS hall HGD HKL htb hab hfb HFB;go_wp2_with fail;(try simp only [hK]);clear hK;go_loopw [1,13] (fun x y wr=>∃ (j q:Nat),x = .int .i64 q/\y = .int .i64 j/\j<=K/\q<=L/\Hid (QbC (fun k j=>Qaz p d (QaZ k) k j) (ks.drop j) q=X)/\Hid (NSl wr (.slice (some ⟨g,off,none⟩) L cap) p)/\Hid (Below P w wr)/\Hid (P<=wr.heap.size)) (fun _ y _=>K-(intOf y).toNat)
   case atStart=>exact ⟨0,i+1,by simp,rfl,by omega,by omega,HX1,HV3,HB3,HS3⟩
   case round =>
    clear HX1 HV3 HB3 HS3;obtain ⟨j,q,rfl,rfl,hj,hq,HXJ,HV,HB,HS⟩:=hrel;obtain ⟨w4,rfl⟩:∃ y:World,y=wr:=⟨_,rfl⟩;have HKK:=HK.out;by_cases hlt:j<K
    ·have hlt':(j:Int)<(K:Int):=by omega
     have hjk:j<ks.length:=by omega
     obtain ⟨kj,hkj⟩:∃ x,ks[j]=x:=⟨_,rfl⟩;have hgk:=HGK.out kj (by rw [<- hkj];exact List.getElem_mem hjk);have HXK:Hid (X=match Qaz p d (QaZ kj) kj q with|none=>none|some z=>QbC (fun k j=>Qaz p d (QaZ k) k j) (ks.drop (j+1)) z):=Za (by
      rw [<- HXJ.out,List.drop_eq_getElem_cons hjk,hkj,QbC]<;>rfl)
     have HC:Hid (Calls Tryz.prog 54 #[.slice (some ⟨g,off,none⟩) L cap,.int .i64 q,.int .u8 kj.toNat,.int .i64 (dep+1)] w4 (Qd6 w4 (Qaz p d (QaZ kj) kj q))):=Za (by
      cases hb:QaZ kj with
      | true=>exact IH.out.blk kj q _ w4 (by rw [hgk.1,hb]) HV.out (by rw [HL.out];exact hq)
      | false=>exact IH.out.one kj q _ w4 (by rw [hgk.1,hb]) hgk.2 HV.out (by rw [HL.out];exact hq))
     unfold Qd6 at HC;clear hgk HKK;cases hx:Qaz p d (QaZ kj) kj q with
     | none =>
       rw [hx] at HC HXK;have HX:Hid (X=none):=HXK;clear hx HXJ HXK;unfold wI at HC;go_wp2_with fail;((with_reducible refine HC.out.mono ?_));rintro e w5 ⟨rfl,hb5⟩;have HB5:Hid (Below P w w5):=Za (HB.out.trans (hb5.mono HS.out));clear hb5;go_wp2_with fail;go_ret;rw [HX.out];exact ⟨rfl,by rw [HPE.out];exact HB5.out⟩
     | some z =>
       rw [hx] at HC HXK;have hz:=(Qa5 p d (QaZ kj) kj q z hx).2;rw [HL.out] at hz;have HX5:Hid (QbC (fun k j=>Qaz p d (QaZ k) k j) (ks.drop (j+1)) z=X):=Za HXK.out.symm;clear hx HXJ HXK;unfold wI at HC;have hz0:¬ (z:Int)<0:=by omega
       go_wp2_with fail;((with_reducible refine HC.out.mono ?_));rintro e w5 ⟨rfl,hb5⟩;have HB5:Hid (Below P w w5):=Za (HB.out.trans (hb5.mono HS.out));have HV5:=Za (HV.out.below hb5);have HS5:Hid (P<=w5.heap.size):=Za (Nat.le_trans HS.out hb5.size);clear hb5 HC;go_wp2_with fail;go_roundw
       case rel=>exact ⟨j+1,z,by go_num,by go_num,by omega,hz,HX5,HV5,HB5,HS5⟩
       case measure=>simp [intOf];omega
    ·have hlt':¬ (j:Int)<(ks.length:Int):=by omega
     have HX5:Hid (X=some q):=Za (by rw [<- HXJ.out,List.drop_eq_nil_of_le (by omega),QbC]);clear HXJ HKK;go_wp2_with fail;go_ret;rw [HX5.out];exact ⟨rfl,by rw [HPE.out];exact HB.out⟩
set_option maxRecDepth 100000 in
theorem Qtz (p:List Nd) (hp:p.length<=1000000) (d:Nat) (dep:Int) (hd0 : -1000<=dep) (hd1:dep<=32) (ih:WalkOk p d (dep+1)) (kq:UInt8) (hkq:kq≠115) (i:Nat) (v:Value) (w:World) (hv:NSl w v p) (hi:i<p.length) (hps:p[i].str.length<=1048576) (hacc:Qaq kq p[i].kind=true) :
  Calls Tryz.prog 54 #[v,.int .i64 i,.int .u8 120,.int .i64 dep] w (Qd6 w (Qaz p (d+1) false kq i)):=by
 have IH:=Za ih;have HI:Hid (∀ w,Calls Tryz.prog 64 #[.int .u8 120] w fun e w'=>e = .returned (.bool false)/\w=w'):=Za (fun w=>QfX 120 false (Za rfl) w);obtain ⟨X,hX⟩:∃ X,Hid (Qaz p (d+1) false kq i=X):=⟨_,Za rfl⟩;have HX0:Hid (X=if Qaq kq p[i].kind=true/\Qbg p[i] kq=true then (match Qb3 p[i] with
  | none=>none
  | some ks=>QbC (fun k j=>Qaz p d (QaZ k) k j) ks (i+1)) else none):=Za (by rw [<- hX.out,Qaz,List.getElem?_eq_getElem hi]<;>rfl)
 rw [hX.out];clear ih hX;have HV0:=Za hv;obtain ⟨hts,htn⟩:=hv.2 p[i] (List.getElem_mem hi);obtain ⟨a,cap,rfl,hc⟩:=hv.1;obtain ⟨g,off,rfl,hk⟩:=hc (by rintro rfl;simp at hi);obtain ⟨d0,d1,d2,d3⟩:=hk i hi;have hi':¬ (i:Int)>=(p.length:Int):=by omega
 have hi2:(i:Int)<(p.length:Int):=by omega
 have hd1':¬ dep>32:=by omega
 clear hc hk hv;obtain ⟨T,hT⟩:∃ T,p[i]=T:=⟨_,rfl⟩;have HT:=Za hT;rw [hT] at d0 d1 d2 d3 hts htn HX0 hps hacc;obtain ⟨nk,nn,ns,np⟩:=T;simp only at d0 d1 d2 d3 hts htn HX0 hps hacc;obtain ⟨L,hL⟩:∃ L,p.length=L:=⟨_,rfl⟩;have HL:=Za hL;rw [hL] at hi hi' hi2 hp HV0 |-;have HBA:Hid (Below w.heap.size w (w.alloc (Qae nk nn ns np))):=Za (Zb.alloc Zc _);have HE:=Za (heap_alloc_new w (Qae nk nn ns np));have HV:=Za (HV0.out.below HBA.out);have hsz:w.heap.size<=(w.alloc (Qae nk nn ns np)).heap.size:=HBA.out.size;obtain ⟨P,hP⟩:∃ P,w.heap.size=P:=⟨_,rfl⟩;have HPE:=Za hP;have HSZ:=Za hsz;clear hT HV0 hsz hL;go_enter Tryz.func54,Tryz.ntmps54;go_upto_region 4 with fail;generalize w.alloc (Qae nk nn ns np)=W at *;(try simp only [hP]);rw [hP] at HBA HE HSZ;clear hP d0 d1 d2 d3;obtain ⟨e0,e1,e2,e3⟩:=Qac HE.out;obtain ⟨⟨ks,ok⟩,hkv⟩:∃ z,Qc0 nk np=z:=⟨_,rfl⟩;obtain ⟨ab,hab⟩:∃ z,Hid (Qaq kq nk=z):=⟨_,Za rfl⟩;obtain ⟨fb,hfb⟩:∃ z,Hid (Qbg ⟨nk,nn,ns,np⟩ 120=z):=⟨_,Za rfl⟩;have HFB:Hid (Qbg ⟨nk,nn,ns,np⟩ kq=fb):=Za ((Qp2 _ kq hkq).trans hfb.out);have HKN:=Za (Qmr nk np ks ok (Za hkv) W);have HKV:=Za hkv;have HXS:Hid (X=if ab=true/\fb=true/\ok=true then QbC (fun k j=>Qaz p d (QaZ k) k j) ks (i+1) else none):=Za (by
  rw [HX0.out,hab.out,HFB.out];cases hab2:ab with
  | false=>simp
  | true =>
    rw [hab2] at hab;rw [Qib ⟨nk,nn,ns,np⟩ (Qhc hab.out)];simp only [hkv];cases fb<;>cases ok<;>simp)
 have hgood:ab=true->∀ k∈ks,Qf2 k=QaZ k/\k≠120:=fun h=>by
  rw [h] at hab;have:=Qic (kids:=np) (Qhc hab.out);rw [hkv] at this;exact this
 have HGD:=Za hgood;have hkl:ok=true->ks.length<=10:=fun h=>by
  have:=QjF nk np;rw [hkv] at this;exact this
 have HKL:=Za hkl;clear HX0 hkv hgood hkl;go_wp2_with fail;((with_reducible refine (HI.out _).mono ?_));rintro e w1 ⟨rfl,rfl⟩;go_wp2_with fail;((with_reducible refine HKN.out.mono ?_));rintro e w2 ⟨rfl,hb2⟩;have HE2:=Za (Qad HE.out hb2);have HV2:=Za (HV.out.below hb2);have HB2:Hid (Below P w w2):=Za (HBA.out.trans (hb2.mono HSZ.out));have HS2:Hid (P<=w2.heap.size):=Za (Nat.le_trans HSZ.out hb2.size);have HPER:=Za (fun w=>Qdc 120 nk (Qaq 120 nk) (Za rfl) w);have HFI:=Za (fun w=>QjD ⟨nk,nn,ns,np⟩ htn 120 fb hfb w hps);unfold Qbz at HFI;simp only at HFI;clear hb2 HE HV HBA HSZ e0 e1 e2 e3 HKN;obtain ⟨e0,e1,e2,e3⟩:=Qac HE2.out;obtain ⟨tb,htb⟩:∃ tb,Hid (tb=!(ok&&ab&&fb)):=⟨_,Za rfl⟩;go_upto_region 18 with fail;go_cut [109] (fun z wx=>z = .bool tb/\Hid (Below w2.heap.size w2 wx))
 case first =>
  have e3:ab=true:=by rw [<- hab.out];exact hacc
  subst e3;have HTB:=Za htb.out;cases ok with
  | false =>
    have e:tb=true:=by rw [HTB.out];rfl
    subst e;go_wp2_with fail;go_meet;exact ⟨rfl,Za Zb⟩
  | true =>
    have e:tb=!fb:=by rw [HTB.out];rfl
    subst e;have HFI2:Hid (∀ w,Calls Tryz.prog 99 #[.agg #[.int .i64 nk,.int .u64 nn,.string ⟨ns.toArray⟩,.int .i64 np],.int .u8 120] w fun e w'=>e = .returned (.bool fb)/\Below w.heap.size w w'):=HFI;clear HFI;go_wp2_with fail;((with_reducible refine (HFI2.out _).mono ?_));rintro e w5 ⟨rfl,hb5⟩;have HG5:=Za hb5;clear hb5;go_wp2_with fail;go_meet;exact ⟨rfl,HG5⟩
 case rest =>
 obtain ⟨rfl,HG3⟩:=hcut;obtain ⟨w3,rfl⟩:∃ y:World,y=wc:=⟨_,rfl⟩;have HV3:=Za (HV2.out.below HG3.out);have HB3:Hid (Below P w w3):=Za (HB2.out.trans (HG3.out.mono HS2.out));have HS3:Hid (P<=w3.heap.size):=Za (Nat.le_trans HS2.out HG3.out.size);clear HE2 HV2 HB2 HS2 HG3 e0 e1 e2 e3 HPER HFI;cases tb with
 | true =>
   have HX:Hid (X=none):=Za (by
    rw [HXS.out];refine if_neg (fun e=>?_);have:=htb.out;rw [e.1,e.2.1,e.2.2] at this;cases this)
   go_wp2_with fail;go_ret;rw [HX.out];exact ⟨rfl,by rw [HPE.out];exact HB3.out⟩
 | false =>
   have hall:ab=true/\fb=true/\ok=true:=by
    have:=htb.out;revert this;cases ab<;>cases fb<;>cases ok<;>decide
   have HX1:Hid (QbC (fun k j=>Qaz p d (QaZ k) k j) ks (i+1)=X):=Za (by rw [HXS.out,if_pos hall]);have HGK:=Za (HGD.out hall.1);have hkl:=HKL.out hall.2.2;obtain ⟨K,hK⟩:∃ K,ks.length=K:=⟨_,rfl⟩;have HK:=Za hK;rw [hK] at hkl;clear HXS hall HGD HKL htb hab hfb HFB;go_wp2_with fail;(try simp only [hK]);clear hK;go_loopw [1,13] (fun x y wr=>∃ (j q:Nat),x = .int .i64 q/\y = .int .i64 j/\j<=K/\q<=L/\Hid (QbC (fun k j=>Qaz p d (QaZ k) k j) (ks.drop j) q=X)/\Hid (NSl wr (.slice (some ⟨g,off,none⟩) L cap) p)/\Hid (Below P w wr)/\Hid (P<=wr.heap.size)) (fun _ y _=>K-(intOf y).toNat)
   case atStart=>exact ⟨0,i+1,by simp,rfl,by omega,by omega,HX1,HV3,HB3,HS3⟩
   case round =>
    clear HX1 HV3 HB3 HS3;obtain ⟨j,q,rfl,rfl,hj,hq,HXJ,HV,HB,HS⟩:=hrel;obtain ⟨w4,rfl⟩:∃ y:World,y=wr:=⟨_,rfl⟩;have HKK:=HK.out;by_cases hlt:j<K
    ·have hlt':(j:Int)<(K:Int):=by omega
     have hjk:j<ks.length:=by omega
     obtain ⟨kj,hkj⟩:∃ x,ks[j]=x:=⟨_,rfl⟩;have hgk:=HGK.out kj (by rw [<- hkj];exact List.getElem_mem hjk);have HXK:Hid (X=match Qaz p d (QaZ kj) kj q with|none=>none|some z=>QbC (fun k j=>Qaz p d (QaZ k) k j) (ks.drop (j+1)) z):=Za (by
      rw [<- HXJ.out,List.drop_eq_getElem_cons hjk,hkj,QbC]<;>rfl)
     have HC:Hid (Calls Tryz.prog 54 #[.slice (some ⟨g,off,none⟩) L cap,.int .i64 q,.int .u8 kj.toNat,.int .i64 (dep+1)] w4 (Qd6 w4 (Qaz p d (QaZ kj) kj q))):=Za (by
      cases hb:QaZ kj with
      | true=>exact IH.out.blk kj q _ w4 (by rw [hgk.1,hb]) HV.out (by rw [HL.out];exact hq)
      | false=>exact IH.out.one kj q _ w4 (by rw [hgk.1,hb]) hgk.2 HV.out (by rw [HL.out];exact hq))
     unfold Qd6 at HC;clear hgk HKK;cases hx:Qaz p d (QaZ kj) kj q with
     | none =>
       rw [hx] at HC HXK;have HX:Hid (X=none):=HXK;clear hx HXJ HXK;unfold wI at HC;go_wp2_with fail;((with_reducible refine HC.out.mono ?_));rintro e w5 ⟨rfl,hb5⟩;have HB5:Hid (Below P w w5):=Za (HB.out.trans (hb5.mono HS.out));clear hb5;go_wp2_with fail;go_ret;rw [HX.out];exact ⟨rfl,by rw [HPE.out];exact HB5.out⟩
     | some z =>
       rw [hx] at HC HXK;have hz:=(Qa5 p d (QaZ kj) kj q z hx).2;rw [HL.out] at hz;have HX5:Hid (QbC (fun k j=>Qaz p d (QaZ k) k j) (ks.drop (j+1)) z=X):=Za HXK.out.symm;clear hx HXJ HXK;unfold wI at HC;have hz0:¬ (z:Int)<0:=by omega
       go_wp2_with fail;((with_reducible refine HC.out.mono ?_));rintro e w5 ⟨rfl,hb5⟩;have HB5:Hid (Below P w w5):=Za (HB.out.trans (hb5.mono HS.out));have HV5:=Za (HV.out.below hb5);have HS5:Hid (P<=w5.heap.size):=Za (Nat.le_trans HS.out hb5.size);clear hb5 HC;go_wp2_with fail;go_roundw
       case rel=>exact ⟨j+1,z,by go_num,by go_num,by omega,hz,HX5,HV5,HB5,HS5⟩
       case measure=>simp [intOf];omega
    ·have hlt':¬ (j:Int)<(ks.length:Int):=by omega
     have HX5:Hid (X=some q):=Za (by rw [<- HXJ.out,List.drop_eq_nil_of_le (by omega),QbC]);clear HXJ HKK;go_wp2_with fail;go_ret;rw [HX5.out];exact ⟨rfl,by rw [HPE.out];exact HB.out⟩
theorem QoM (p:List Nd) (hp:p.length<=1000000) (hps:∀ t∈p,t.str.length<=1048576):∀ (d:Nat) (dep:Int),dep+d=33->-900<=dep->WalkOk p d dep
 | 0,dep,h,h0=>{
  blk:=fun kd i v w hb hv hi=>QhE p hp kd dep (by omega) i v w hv (by omega)
  one:=fun kd i v w hb hx hv hi=>QhE p hp kd dep (by omega) i v w hv (by omega)
  el:=fun kq i v w hb hv hi ha=>QhE p hp 120 dep (by omega) i v w hv (by omega) }
 | d+1,dep,h,h0=>by
   have ih:=QoM p hp hps d (dep+1) (by omega) (by omega);refine { blk:=fun kd i v w hb hv hi=>?_,one:=fun kd i v w hb hx hv hi=>?_,el:=fun kq i v w hb hv hi ha=>?_ }
   ·rcases Nat.lt_or_ge i p.length with h2|h2
    ·exact QrS p hp d dep (by omega) (by omega) ih kd hb i v w hv h2
    ·rw [Qmh p (d+1) true kd i h2];exact QjG p hp kd dep i v w hv h2 (by omega)
   ·rcases Nat.lt_or_ge i p.length with h2|h2
    ·exact QrT p hp d dep (by omega) (by omega) ih kd hb hx i v w hv h2 (hps _ (List.getElem_mem h2))
    ·rw [Qmh p (d+1) false kd i h2];exact QjG p hp kd dep i v w hv h2 (by omega)
   ·exact Qtz p hp d dep (by omega) (by omega) ih kq hb i v w hv hi (hps _ (List.getElem_mem hi)) ha
end
section
open Go.RowKit
attribute [local go_sem] ByteArray.mk_append_mk Qah Qai Qag
set_option maxRecDepth 100000 in
theorem Qgy (p:List Nd) (hps:∀ t∈p,t.str.length<=1048576) (v:Value) (w:World) (hv:NSl w v p) (hl:p.length<=9223372036854775000) :
  Calls Tryz.prog 21 #[v] w fun e w'=>e = .returned (.bool (Qbk p))/\Below w.heap.size w w':=by
 obtain ⟨X,hX⟩:∃ X,Hid (Qbk p=X):=⟨_,Za rfl⟩;have HV0:=Za hv;have HB0:=Za (Below.refl w.heap.size w);obtain ⟨a,cap,rfl,hc⟩:=hv.1;rw [hX.out];clear hc hv;by_cases h2:p.length<=2048
 ·have h2':¬ (p.length:Int)>2048:=by omega
  have HX0:Hid (Qdq p p.length 0=X):=Za (by rw [<- hX.out];unfold Qbk;rw [decide_eq_true h2,Bool.true_and]);have HEL:=Za (QoM p (by omega) hps 32 1 (by omega) (by omega)).el;obtain ⟨L,hL⟩:∃ L,p.length=L:=⟨_,rfl⟩;have HL:=Za hL;rw [hL] at h2 h2' hl HV0 HX0 |-;clear hL hX;go_enter Tryz.func21,Tryz.ntmps21;go_wp2_with fail;go_loopw [3] (fun x wr=>∃ (f q:Nat),x = .int .i64 q/\q<=L/\L<=f+q/\Hid (Qdq p f q=X)/\Hid (NSl wr (.slice a L cap) p)/\Hid (Below w.heap.size w wr)) (fun x _=>L-(intOf x).toNat)
  case atStart=>exact ⟨L,0,rfl,by omega,by omega,HX0,HV0,HB0⟩
  case round =>
   clear HX0 HV0 HB0;obtain ⟨f,q,rfl,hq,hf,HX,HV,HB⟩:=hrel;obtain ⟨w4,rfl⟩:∃ y:World,y=wr:=⟨_,rfl⟩;by_cases hlt:q<L
   ·have hlt':(q:Int)<(L:Int):=by omega
    have hqp:q<p.length:=by rw [HL.out];exact hlt
    obtain ⟨f,rfl⟩:∃ g,f=g+1:=⟨f-1,by omega⟩;have HXK:Hid (X=match Qaz p 32 false 68 q with|none=>false|some j=>Qdq p f j):=Za (by rw [<- HX.out,Qdq,if_neg (by rw [HL.out];omega)]<;>rfl);have hne:p≠[]:=by rintro rfl;simp at hqp
    obtain ⟨⟨a2,cap2,hva,hc⟩,_⟩:=HV.out;obtain ⟨g,off,hga,_⟩:=hc hne;have hag:a=some ⟨g,off,none⟩:=by
     injection hva with e1 _ _;rw [e1,hga]
    subst hag;obtain ⟨c0,c1,c2,c3⟩:=HV.out.tat q hqp;obtain ⟨qk,hqk⟩:∃ z,p[q].kind=z:=⟨_,rfl⟩;rw [hqk] at c0;obtain ⟨ab,hab⟩:∃ z,Hid (Qaq 68 qk=z):=⟨_,Za rfl⟩;have HPER:Hid (∀ w,Calls Tryz.prog 53 #[.int .u8 68,.int .i64 qk] w fun e w'=>e = .returned (.bool ab)/\w=w'):=Za (fun w=>Qdc 68 qk ab hab w);clear hc hva hga c1 c2 c3 HX;cases ab with
    | false =>
      have HX2:Hid (X=false):=Za (by
       rw [HXK.out];have:Qaz p 32 false 68 q=none:=by
        rw [Qaz,List.getElem?_eq_getElem hqp];simp only [];rw [if_neg (by rw [hqk,hab.out];simp)]
       rw [this])
      clear HXK;go_wp2_with fail;((with_reducible refine (HPER.out _).mono ?_));rintro e w5 ⟨rfl,rfl⟩;go_wp2_with fail;go_ret;rw [HX2.out];exact ⟨rfl,HB.out⟩
    | true =>
      have HC:Hid (Calls Tryz.prog 54 #[.slice (some ⟨g,off,none⟩) L cap,.int .i64 q,.int .u8 120,.int .i64 1] w4 (Qd6 w4 (Qaz p 32 false 68 q))):=Za (HEL.out 68 q _ w4 (by decide) HV.out hqp (by rw [hqk];exact hab.out));unfold Qd6 at HC;cases hx:Qaz p 32 false 68 q with
      | none =>
        rw [hx] at HC HXK;have HX2:Hid (X=false):=HXK;clear hx HXK;unfold wI at HC;go_wp2_with fail;((with_reducible refine (HPER.out _).mono ?_));rintro e w5 ⟨rfl,rfl⟩;go_wp2_with fail;((with_reducible refine HC.out.mono ?_));rintro e w5 ⟨rfl,hb5⟩;have HB5:Hid (Below w.heap.size w w5):=Za (Qar HB.out Zc hb5);clear hb5;go_wp2_with fail;go_ret;rw [HX2.out];exact ⟨rfl,HB5.out⟩
      | some z =>
        rw [hx] at HC HXK;have hz:=Qa5 p 32 false 68 q z hx;rw [HL.out] at hz;obtain ⟨hz1,hz2⟩:=hz;have HX5:Hid (Qdq p f z=X):=Za HXK.out.symm;clear hx HXK;unfold wI at HC;have hz0:¬ (z:Int)<0:=by omega
        go_wp2_with fail;((with_reducible refine (HPER.out _).mono ?_));rintro e w5 ⟨rfl,rfl⟩;go_wp2_with fail;((with_reducible refine HC.out.mono ?_));rintro e w5 ⟨rfl,hb5⟩;have HB5:Hid (Below w.heap.size w w5):=Za (Qar HB.out Zc hb5);have HV5:=Za (HV.out.below hb5);clear hb5 HC;go_wp2_with fail;go_roundw
        case rel=>exact ⟨f,z,rfl,hz2,by omega,HX5,HV5,HB5⟩
        case measure=>simp [intOf];omega
   ·have hlt':¬ (q:Int)<(L:Int):=by omega
    have HX5:Hid (X=true):=Za (by
     rw [<- HX.out];cases f with
     | zero=>rw [Qdq];exact decide_eq_true (by rw [HL.out];omega)
     | succ f=>rw [Qdq,if_pos (by rw [HL.out];omega)])
    clear HX;go_wp2_with fail;go_ret;rw [HX5.out];exact ⟨rfl,HB.out⟩
 ·have h2':(p.length:Int)>2048:=by omega
  have HX0:Hid (X=false):=Za (by rw [<- hX.out];unfold Qbk;rw [decide_eq_false h2,Bool.false_and]);go_enter Tryz.func21,Tryz.ntmps21;go_wp2_with fail;go_ret;rw [HX0.out];exact ⟨rfl,HB0.out⟩
theorem QhF (p:List Nd) (hps:∀ t∈p,t.str.length<=1048576) (b:Bool) (H:Hid (Qbk p=b)) (v:Value) (w:World) (hv:NSl w v p) (hl:p.length<=9223372036854775000) :
  Calls Tryz.prog 21 #[v] w fun e w'=>e = .returned (.bool b)/\Below w.heap.size w w':=by
 have:=Qgy p hps v w hv hl;rw [H.out] at this;exact this
end
end Go.Proofs.YtoohondkpddmcaaGreatDoor
