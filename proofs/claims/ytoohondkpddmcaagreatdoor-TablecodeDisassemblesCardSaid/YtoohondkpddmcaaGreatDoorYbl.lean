/- Mk Lw Ml -/
import Derived.Test.YtoohondkpddmcaaGreatDoorYzz
import Derived.Test.YtoohondkpddmcaaGreatDoorYbk
import Derived.Test.YtoohondkpddmcaaGreatDoorYbi
import Derived.Test.YtoohondkpddmcaaGreatDoorYax
import Derived.Test.YtoohondkpddmcaaGreatDoorYbb
namespace Go.Proofs.YtoohondkpddmcaaGreatDoor
set_option maxHeartbeats 32000000
set_option linter.unusedVariables false
set_option linter.unusedSimpArgs false
section
open Go.RowKit
attribute [local go_sem] ByteArray.mk_append_mk Qah Qai Qag SameN.some SameN.all
def KsR (B b:Nat) (w:World) (s:List UInt8) (f:Nat) (op:Int) (inner:Bool) (e:Nat) (o:List Nd) (X:DR) (v:Value) (wx:World):Prop :=
 ∃ (t ks:List UInt8) (K:DR),v = .string ⟨ks.toArray⟩/\ks.length<=7/\Hid (∀ k∈ks,QjO k)/\Hid (X=QgB s (Qas s f) op inner e t ks.length K)/\Hid (op=31->t=[]/\ks.length=2)/\Hid (KlR B b w s f op inner e o t ks K 0 wx)
theorem KsR.ok {B b:Nat} {w wx:World} {s:List UInt8} {f:Nat} {op:Int} {inner:Bool} {e pq:Nat} {o:List Nd} {X:DR} {t ks:List UInt8} (hk:ks.length<=7) (hko:∀ k∈ks,QjO k) (hX:X=QgB s (Qas s f) op inner e t ks.length (QaM (Qap s (Qas s f) inner e) ks pq)) (h31:op=31->t=[]/\ks.length=2)
  (ht:RdSt B b wx s pq e inner (o++[⟨op,0,t,0⟩])) (h1:pq<=e) (h2:s.length<pq+f) (h3:o.length+1<=pq) (hb:Below B w wx):KsR B b w s f op inner e o X (.string ⟨ks.toArray⟩) wx :=
 ⟨t,ks,_,rfl,hk,Za hko,Za hX,Za h31,Za (.inl ⟨pq,[],ht,by rw [Qmy,List.drop_zero],⟨h1,h2,by simpa using h3⟩,hb⟩)⟩
theorem KsR.bad {B b:Nat} {w wx:World} {s:List UInt8} {f:Nat} {op:Int} {inner:Bool} {e q:Nat} {err:Int} {o:List Nd} {X:DR} {t:List UInt8} (hX:X = .no q err) (ht:RdBad B b q err wx (o++[⟨op,0,t,0⟩])) (hb:Below B w wx) (h31:op≠31):KsR B b w s f op inner e o X (.string ⟨([]:List UInt8).toArray⟩) wx :=
 ⟨t,[],.no q err,rfl,by simp,Za (fun k hk=>by simp at hk),Za (by rw [hX]<;>rfl),Za (fun h=>absurd h h31),Za (.inr ⟨q,err,ht,rfl,hb⟩)⟩
theorem QjR {s:List UInt8} {most q e c:Nat} {inner:Bool} (h:QaK s most inner q e = .ok c):c<=most:=by
 unfold QaK at h;split at h
 ·cases h
 ·split at h
  ·cases h
  ·injection h with h;omega
theorem QjS {s:List UInt8} {most q e c:Nat} {inner:Bool} (h:QaK s most inner q e = .ok c) (hq:q<=e):q+1<=e:=by
 unfold QaK at h;split at h
 ·cases h
 ·omega
set_option maxRecDepth 100000 in
theorem QmE (B b:Nat) (s:List UInt8) (f:Nat) (hs:s.length<=65536) (hC:ChR B b s f):QtL B b s f:=by
 intro op w pos e inner o hop ht hp he hf ho;have HI:=Za (show pos<=e/\e<=s.length/\s.length<pos+f/\o.length+1<=pos from ⟨hp,he,hf,ho⟩);have HSL:=Za hs;have HS:=Za hC;unfold ChR at HS;have HOP:=Za hop;obtain ⟨X,hX⟩:∃ X,Hid (Qcb s (Qas s f) op inner pos e=X):=⟨_,Za rfl⟩;rw [hX.out];have HT0:=Za ht;obtain ⟨nv,h1,h2⟩:=HT0.out.ex;obtain ⟨na,nc,rfl⟩:=h2.form;obtain ⟨c0,c1,c2,c3,c4,c5,c6⟩:=Qaj h1;have hal:Below w.heap.size w (w.alloc (Qae op 0 [] 0)):=Zb.alloc Zc _;have HO2:=Za (h2.below hal);have HP2:=Za (Qad h1 hal);have H1:=Za ((HT0.out.below hal).gen);have HNN:=Za (heap_alloc_new w (Qae op 0 [] 0));have HB7:Hid (Below B w (w.alloc (Qae op 0 [] 0))):=Za (hal.mono HT0.out.size);have hol0:(0:Int)<=(o.length:Int):=by omega
 clear h1 h2 hal c0 c1 c2 c3 c5 c6 ht hp he hf ho hs hC hop;go_enter Tryz.func163,Tryz.ntmps163;go_upto_region 2 with (at_builtin;refine Qav rfl _ _ rfl B _ o rfl HO2.out w.heap.size ⟨op,0,[],0⟩ rfl HNN.out (by have:=HI.out;have:=HSL.out;omega) H1.out.size ?_;intro v2 w8 ho hg;obtain ⟨a2,c2,rfl⟩:=NodesI.form ho;have HO3:=Za ho;have HG3:=Za hg;clear ho hg;have hb3:=(HG3.out.block b (lt_of_block HP2.out) (fun e=>Qa6 HO2.out HP2.out e.symm)).trans HP2.out;have f3:=Qam hb3 4;have c3:=(Qaj hb3).2.2.2.2.1;clear hb3);obtain ⟨hr,hlw⟩:=H1.out.grown HP2.out HO2.out HG3.out HO3.out;have HT9:=Za hr.st;have HB9:=Za (HB7.out.trans hlw);have hOl:(o++[(⟨op,0,[],0⟩:Nd)]).length=o.length+1:=by simp
 rw [hOl] at HT9 HB9;clear hOl;clear hr hlw HG3 HO3 HO2 HP2 H1 HNN HB7 c3 f3 c4;generalize w8.setCell ⟨b,4,none⟩ (.slice a2 (o.length+1) c2)=W at HT9 HB9 |-;go_upto_block 0 with fail;go_cut [5] (fun z wx=>KsR B b w s f op inner e o X z wx)
 case first =>
  by_cases h5:op=5
  ·subst h5;have HXC:Hid (X=(match QbR s false inner pos e with
    | .no err=>.no pos err
    | .ok q t=>match QaK s 7 inner q e with
      | .no err=>.no q err
      | .ok c=>QgB s (Qas s f) 5 inner e t c (QaM (Qap s (Qas s f) inner e) (List.replicate c 101) (q+1)))):=Za (by rw [<- hX.out];exact Qn7 s (Qas s f) inner pos e)
   obtain ⟨PR,hPR⟩:∃ PR,QbR s false inner pos e=PR:=⟨_,rfl⟩;have HPK:=Za hPR;have HCP:=Za (Qmw B b false W.drew s pos e inner (o++[⟨5,0,[],0⟩]) (HT9.out.below (Below.drew Zb)) HI.out.1 HI.out.2.1 (by have:=HSL.out;omega));rw [hPR] at HXC HCP;obtain ⟨g,cp,hblk,_,_,_,_⟩:=HT9.out.gen.kids;obtain ⟨d0,d1,d2,d3,d4,d5,d6⟩:=Qaj hblk;have HBK:=Za hblk;obtain ⟨nl,hnl⟩:∃ nl:Nat,(o++[(⟨5,0,[],0⟩:Nd)]).length=nl:=⟨_,rfl⟩;have HNL:=Za hnl;rw [hnl] at d4;have hnl2:(o.length:Int)<(nl:Int):=by rw [<- hnl];simp only [List.length_append,List.length_cons,List.length_nil];omega
   rw [hnl] at HBK;have k4:∀ y,SameN W b y->y.cell? ⟨b,4,none⟩=some (.slice (some ⟨g,0,none⟩) nl cp):=fun y hy=>Eq.trans hy d4;clear hPR hblk hnl d0 d1 d2 d3 d5 d6;go_upto_region 7 with fail;refine Qak (SameN W b) 9 [.reads [0,1,2,3,4,5],.act 6,.reads [7,8],.act 9] (by kernel_rfl) (by kernel_rfl) (by kernel_rfl) (by kernel_rfl) (by kernel_rfl) (fun _ _ d _ _ h=>by cases d<;>exact h) rfl ?_;refine Qaf ?_;simp only [Qab,pQ1,pQ2,pQ3,pQ4,pQ5,pQ6]
   repeat (go_big_quiet_step ((intro hb;rw [k4 _ hb];exact ⟨rfl,rfl⟩)))
   refine wpQuiet_nil ?_;cases PR with
   | no err =>
     have HXX:Hid (X = .no pos err):=HXC;refine Qaa rfl ?_;simp only [Qab,pQ1,pQ2,pQ3,pQ4,pQ5,pQ6];go_wp2_with fail;((with_reducible refine HCP.out.mono ?_));rintro en w4 ⟨hl4,hq4,rfl,hb4⟩;obtain ⟨s4,z4,e4,i4,hg4,h34⟩:=hb4.gen;obtain ⟨g4,cp4,hblk4,_,_,_,hcell,hfr,hst⟩:=hg4.kids;have hgg:=hq4.2.2.same HBK.out hblk4;have HSN:Hid (SameN W b w4):=Za ((Qaj hblk4).2.2.2.2.1.trans ((congrArg some hgg).trans d4.symm));obtain rfl:g4=g:=by
      injection hgg with q1 _ _;injection q1 with q1;injection q1
     have HST:=Za (hst []);have HB4:=Za ((Below.drew HB9.out).trans hl4);clear hst;go_wp2_with fail;refine ⟨fun _=>HSN.out,?_⟩;clear hblk4 hq4 hl4;refine Qaf ?_;simp only [Qab,pQ1,pQ2,pQ3,pQ4,pQ5,pQ6]
     repeat (go_big_quiet_step (fail))
     refine wpQuiet_nil ?_;refine Qaa rfl ?_;simp only [Qab,pQ1,pQ2,pQ3,pQ4,pQ5,pQ6];go_wp2_with fail;refine ⟨fun h=>absurd h (by decide),Qat ?_⟩;have HBD:Hid (RdBad B b pos err (w4.setCell ⟨g4,o.length * 4+2,none⟩ (.string ⟨#[]⟩)) (o++[⟨5,0,[],0⟩])):=Za (RdG.bad (ms:=[]) (by rw [List.append_nil];exact HST.out.1) h34);have HBX:Hid (Below B w (w4.setCell ⟨g4,o.length * 4+2,none⟩ (.string ⟨#[]⟩))):=Za (HB4.out.trans HST.out.2);clear HST hcell hfr HB4 HBK hnl2 d4 k4;generalize w4.setCell ⟨g4,o.length * 4+2,none⟩ (.string ⟨#[]⟩)=W5 at HBD HBX |-;have HCB:=Za (QjQ B b 7 W5 pos err _ HBD.out);rw [show ((7:Nat):Int)=7 from rfl] at HCB;go_wp2_with fail;((with_reducible refine HCB.out.mono ?_));rintro en w6 ⟨rfl,n6,rfl⟩;have HKS:=Za (KsR.bad (s:=s) (f:=f) (inner:=inner) (e:=e) (t:=[]) HXX.out (HBD.out.below (below_drewN Zb n6)) (below_drewN HBX.out n6) (by decide));clear HCB HBD HBX;go_wp2_with fail;go_meet
     first|exact HKS.out|simpa using HKS.out
   | ok q t =>
     have HXX:=HXC;simp only [] at HXX;have HPQ:=Za (QiB HI.out.1 HI.out.2.1 HPK.out);refine Qaa rfl ?_;simp only [Qab,pQ1,pQ2,pQ3,pQ4,pQ5,pQ6];go_wp2_with fail;((with_reducible refine HCP.out.mono ?_));rintro en w4 ⟨hl4,hq4,rfl,ht4⟩;obtain ⟨g4,cp4,hblk4,_,_,_,hcell,hfr,hst⟩:=ht4.gen.kids;have hgg:=hq4.2.2.same HBK.out hblk4;have HSN:Hid (SameN W b w4):=Za ((Qaj hblk4).2.2.2.2.1.trans ((congrArg some hgg).trans d4.symm));obtain rfl:g4=g:=by
      injection hgg with q1 _ _;injection q1 with q1;injection q1
     have HST:=Za (hst t);have HB4:=Za ((Below.drew HB9.out).trans hl4);clear hst;go_wp2_with fail;refine ⟨fun _=>HSN.out,?_⟩;clear hblk4 hq4 hl4;refine Qaf ?_;simp only [Qab,pQ1,pQ2,pQ3,pQ4,pQ5,pQ6]
     repeat (go_big_quiet_step (fail))
     refine wpQuiet_nil ?_;refine Qaa rfl ?_;simp only [Qab,pQ1,pQ2,pQ3,pQ4,pQ5,pQ6];go_wp2_with fail;refine ⟨fun h=>absurd h (by decide),Qat ?_⟩;have HT5:Hid (RdSt B b (w4.setCell ⟨g4,o.length * 4+2,none⟩ (.string ⟨t.toArray⟩)) s q e inner (o++[⟨5,0,t,0⟩])):=Za HST.out.1.st;have HB5:Hid (Below B w (w4.setCell ⟨g4,o.length * 4+2,none⟩ (.string ⟨t.toArray⟩))):=Za (HB4.out.trans HST.out.2);clear HST hcell hfr HB4 HBK hnl2 d4 k4;generalize w4.setCell ⟨g4,o.length * 4+2,none⟩ (.string ⟨t.toArray⟩)=W5 at HT5 HB5 |-;have HCN:=Za (Qgz B b 7 W5 s q e inner _ HT5.out HPQ.out.2.1 HI.out.2.1 (by have:=HSL.out;omega));rw [show ((7:Nat):Int)=7 from rfl] at HCN;obtain ⟨CR,hCR⟩:∃ CR,QaK s 7 inner q e=CR:=⟨_,rfl⟩;have HCK:=Za hCR;rw [hCR] at HXX HCN;clear hCR;cases CR with
     | no err =>
       have HXE:Hid (X = .no q err):=HXX;go_wp2_with fail;((with_reducible refine HCN.out.mono ?_));rintro en w6 ⟨hb6,rfl,hbd⟩;have HKS:=Za (KsR.bad (s:=s) (f:=f) (inner:=inner) (e:=e) (t:=t) HXE.out hbd (HB5.out.trans hb6) (by decide));clear hb6 hbd HCN;go_wp2_with fail;go_meet;exact HKS.out
     | ok c =>
       have HXE:Hid (X=QgB s (Qas s f) 5 inner e t c (QaM (Qap s (Qas s f) inner e) (List.replicate c 101) (q+1))):=HXX;have hc7:c<=7:=QjR HCK.out;have HQE:Hid (q+1<=e):=Za (QjS HCK.out HPQ.out.2.1);have hcz:(c:Int)<=7:=by omega
       have hcz0:0<=(c:Int):=by omega
       have HTK:Hid (List.take c ([101,101,101,101,101,101,101]:List UInt8)=List.replicate c 101):=Za (by
        rcases (show c=0\/c=1\/c=2\/c=3\/c=4\/c=5\/c=6\/c=7 by omega) with rfl|rfl|rfl|rfl|rfl|rfl|rfl|rfl<;>rfl)
       go_wp2_with fail;((with_reducible refine HCN.out.mono ?_));rintro en w6 ⟨hb6,rfl,ht6⟩;have HKS:=Za (KsR.ok (f:=f) (op:=5) (t:=t) (ks:=List.replicate c 101) (X:=X) (by rw [List.length_replicate];omega) (fun k hk=>by rw [List.eq_of_mem_replicate hk];exact Qr4) (by rw [List.length_replicate];exact HXE.out) (fun h=>by cases h) ht6 HQE.out (by have:=HI.out;have:=HPQ.out.1;omega) (by have:=HI.out;have:=HPQ.out.1;omega) (HB5.out.trans hb6));clear hb6 ht6 HCN;go_wp2_with fail;go_meet;rw [HTK.out];exact HKS.out
  by_cases h33:op=33
  ·subst h33;have HXX:Hid (X=(match QaK s 1 inner pos e with
    | .no err=>.no pos err
    | .ok c=>QgB s (Qas s f) 33 inner e [] c (QaM (Qap s (Qas s f) inner e) (List.replicate c 101) (pos+1)))):=Za (by rw [<- hX.out];exact Qqd s (Qas s f) inner pos e)
   obtain ⟨q,hq⟩:∃ q,pos=q:=⟨_,rfl⟩;rw [hq] at HXX HT9;have HPQ:Hid (pos<=q):=Za (by omega);have hqe:q<=e:=by have:=HI.out;omega
   clear hq hX;obtain ⟨W5,hW5⟩:∃ W5,W=W5:=⟨_,rfl⟩;subst hW5;have HT5:=HT9;have HB5:=HB9;have HCN:=Za (Qgz B b 1 W s q e inner _ HT5.out hqe HI.out.2.1 (by have:=HSL.out;omega));rw [show ((1:Nat):Int)=1 from rfl] at HCN;obtain ⟨CR,hCR⟩:∃ CR,QaK s 1 inner q e=CR:=⟨_,rfl⟩;have HCK:=Za hCR;rw [hCR] at HXX HCN;clear hCR;cases CR with
   | no err =>
     have HXE:Hid (X = .no q err):=HXX;go_wp2_with fail;((with_reducible refine HCN.out.mono ?_));rintro en w6 ⟨hb6,rfl,hbd⟩;have HKS:=Za (KsR.bad (s:=s) (f:=f) (inner:=inner) (e:=e) (t:=[]) HXE.out hbd (HB5.out.trans hb6) (by decide));clear hb6 hbd HCN;go_wp2_with fail;go_meet;exact HKS.out
   | ok c =>
     have HXE:Hid (X=QgB s (Qas s f) 33 inner e [] c (QaM (Qap s (Qas s f) inner e) (List.replicate c 101) (q+1))):=HXX;have hc7:c<=1:=QjR HCK.out;have HQE:Hid (q+1<=e):=Za (QjS HCK.out hqe);have hcz:(c:Int)<=1:=by omega
     have hcz0:0<=(c:Int):=by omega
     have HTK:Hid (List.take c ([101]:List UInt8)=List.replicate c 101):=Za (by
      rcases (show c=0\/c=1 by omega) with rfl|rfl<;>rfl)
     go_wp2_with fail;((with_reducible refine HCN.out.mono ?_));rintro en w6 ⟨hb6,rfl,ht6⟩;have HKS:=Za (KsR.ok (f:=f) (op:=33) (t:=[]) (ks:=List.replicate c 101) (X:=X) (by rw [List.length_replicate];omega) (fun k hk=>by rw [List.eq_of_mem_replicate hk];exact Qr4) (by rw [List.length_replicate];exact HXE.out) (fun h=>by cases h) ht6 HQE.out (by have:=HI.out;have:=HPQ.out;omega) (by have:=HI.out;have:=HPQ.out;omega) (HB5.out.trans hb6));clear hb6 ht6 HCN;go_wp2_with fail;go_meet;rw [HTK.out];exact HKS.out
  ·
   have HXX:Hid (X=QgB s (Qas s f) op inner e [] (Qax op).2.length (QaM (Qap s (Qas s f) inner e) (Qax op).2 pos)):=Za (by rw [<- hX.out];exact Qqe s (Qas s f) op h5 h33 inner pos e);obtain ⟨hk1,hk2⟩:=Qqf op HOP.out h5 h33;have HRK:=Za (QuZ op HOP.out);have HRO:=Za (QhD op W);have HF31:Hid (op=31->(Qax op).2.length=2):=Za (fun h=>by rw [h];decide);obtain ⟨R,hR⟩:∃ R,QhA op=R:=⟨_,rfl⟩;rw [hR] at HRO hk1;obtain ⟨ra,rb,rc,hab⟩:∃ a b c,Qec R=(a,b,c):=⟨(Qec R).1,(Qec R).2.1,(Qec R).2.2,rfl⟩;rw [hab] at HRO hk1;simp only [] at hk1;rw [<- hk1] at HXX HRK HF31 hk2;obtain ⟨RS,hRS⟩:∃ b,R.isSome=b:=⟨_,rfl⟩;rw [hRS] at HRO;have b5:(op==5)=false:=Zd h5;have b33:(op==33)=false:=Zd h33;clear hX hR hab hk1 hRS h5 h33;go_wp2_with fail;((with_reducible refine HRO.out.mono ?_));rintro en w4 ⟨rfl,hb4⟩;have HB4:=Za (HB9.out.trans (hb4.mono HT9.out.size));have HT4:=Za (HT9.out.below hb4);have hal4:∀ o,Below w4.heap.size w4 (w4.alloc o):=fun o=>Zb.alloc Zc o;have HKS:=Za (fun ob=>KsR.ok (f:=f) (op:=op) (t:=[]) (ks:=rc) (X:=X) (w:=w) hk2 (fun k hk hb=>HRK.out k hk hb) HXX.out (fun h=>⟨rfl,HF31.out h⟩) (HT4.out.below (hal4 ob)) HI.out.1 (by have:=HI.out;omega) (by have:=HI.out;omega) (HB4.out.trans ((hal4 ob).mono HT4.out.size)));clear hb4 hal4 HRO;go_wp2_with fail;go_meet;exact (HKS.out _)
 case rest =>
  obtain ⟨t,ks,K,rfl,hk7,HKO,HXF,H31,HKL⟩:=hcut;obtain ⟨w2,rfl⟩:∃ y:World,y=wc:=⟨_,rfl⟩;obtain ⟨N,hN⟩:∃ N,ks.length=N:=⟨_,rfl⟩;have HN:=Za hN;rw [hN] at hk7 HXF H31;clear HT9 HB9 hX hN;go_upto_block 1 with fail;go_cut [] (fun wx=>Hid (KlE B b w s f op inner e o t K wx))
  case first =>
   go_wp2_with fail;go_loopw [8] (fun z wr=>∃ q:Nat,z = .int .i64 q/\q<=N/\Hid (KlR B b w s f op inner e o t ks K q wr)) (fun z _=>N-(intOf z).toNat)
   case atStart=>exact ⟨0,rfl,Nat.zero_le _,HKL⟩
   case round =>
    obtain ⟨q,rfl,hq,HKR⟩:=hrel;obtain ⟨w3,rfl⟩:∃ y:World,y=wr:=⟨_,rfl⟩;clear HKL;rcases HKR.out with ⟨pq,M,ht,hK,hj,hb⟩|⟨r,err,hbad,hK,hb⟩
    ·have HT:=Za ht;have HK:=Za hK;have HJ:=Za hj;have HBW:=Za hb;obtain ⟨nv7,h1,h2⟩:=HT.out.ex;obtain ⟨c0,c1,c2,c3,c4,c5,c6⟩:=Qaj h1;clear ht hK hj hb HKR h1 h2 c0 c1 c2 c3 c4 c6;by_cases hlt:q<N
     ·have hqk:q<ks.length:=by rw [HN.out];exact hlt
      have hqk':(q:Int)<(ks.length:Int):=by omega
      obtain ⟨k,hk⟩:∃ k,ks[q]=k:=⟨_,rfl⟩;have HD:Hid (ks.drop q=k::ks.drop (q+1)):=Za (by rw [List.drop_eq_getElem_cons hqk,hk]);have hidx:∀ h:q<ks.length,ks[q]=k:=fun _=>hk;have HC:=Za (HS.out k (HKO.out k (by rw [<- hk];exact List.getElem_mem hqk)) w3 pq e inner _ HT.out HJ.out.1 HI.out.2.1 HJ.out.2.1 (by have:=HJ.out;simp only [List.length_append,List.length_cons];omega));clear hk;go_wp2_with fail;((with_reducible refine HC.out.mono ?_));rintro en w4 ⟨hb4,rfl,hp4⟩;have HNX:=Za (KlR.next HI.out.2.1 HD.out HK.out HJ.out HBW.out hb4 hp4);clear hb4 hp4 HC;go_wp2_with fail;go_roundw
      case rel=>first|exact ⟨q+1,by go_num,by omega,HNX⟩|exact ⟨_,q+1,by go_num,by omega,HNX⟩|exact ⟨_,_,q+1,by go_num,by omega,HNX⟩
      case measure=>simp [intOf];omega
     ·have hlt':¬ (q:Int)<(ks.length:Int):=by rw [HN.out];omega
      have HDN:=Za (KlR.done (by rw [HN.out];omega) HT.out HK.out HJ.out HBW.out);go_wp2_with fail;go_meet;exact HDN
    ·have HDN:Hid (KlE B b w s f op inner e o t K w3):=Za (.inr ⟨r,err,hbad,hK,hb⟩);obtain ⟨c5,h0,h1⟩:=hbad.err5;clear hbad hK hb HKR;by_cases hlt:q<N
     ·have hlt':(q:Int)<(ks.length:Int):=by rw [HN.out];omega
      go_wp2_with fail;go_meet;exact HDN
     ·have hlt':¬ (q:Int)<(ks.length:Int):=by rw [HN.out];omega
      go_wp2_with fail;go_meet;exact HDN
  case rest =>
   have HKE:=hcut;obtain ⟨w3,rfl⟩:∃ y:World,y=wc:=⟨_,rfl⟩;clear hcut HKL HKO;have hNI:((ks.length:Nat):Int)=(N:Int):=by rw [HN.out]
   rcases HKE.out with ⟨pq,M,ht,hK,hj,hb⟩|⟨r,err,hbad,hK,hb⟩
   ·have HJ:=Za hj;have HBW:=Za hb;have HXX:=HXF;rw [hK] at HXX;unfold QgB at HXX;simp only [] at HXX;obtain ⟨g,cp,hblk,hcell,hfr,hst,_⟩:=ht.gen.kids;obtain ⟨d0,d1,d2,d3,d4,d5,d6⟩:=Qaj hblk;obtain ⟨nl,hnl⟩:∃ nl:Nat,(o++⟨op,0,t,0⟩::M).length=nl:=⟨_,rfl⟩;rw [hnl] at d4;have hnl2:(o.length:Int)<(nl:Int):=by rw [<- hnl];simp only [List.length_append,List.length_cons];omega
    have HST:=Za (hst (N:Int));clear ht hK hj hb HKE hblk hst hnl HXF;go_upto_region 16 with fail;have HT4:Hid (RdSt B b (w3.setCell ⟨g,o.length * 4+3,none⟩ (.int .i64 (N:Int))) s pq e inner (o++⟨op,0,t,(N:Int)⟩::M)):=Za HST.out.1.st;have HB4:=Za (HBW.out.trans HST.out.2);(try simp only [hNI]);generalize w3.setCell ⟨g,o.length * 4+3,none⟩ (.int .i64 (N:Int))=W4 at HT4 HB4 |-;clear HST hcell hfr hnl2 d0 d1 d2 d3 d4 d5 d6 HBW;by_cases h31:op=31
    ·subst h31;obtain ⟨ht0,hN2⟩:=H31.out rfl;subst ht0 hN2;rw [if_pos rfl] at HXX;have HCN:=Za (Qgz B b 1 W4 s pq e inner _ HT4.out HJ.out.1 HI.out.2.1 (by have:=HSL.out;omega));rw [show ((1:Nat):Int)=1 from rfl] at HCN;obtain ⟨CR,hCR⟩:∃ CR,QaK s 1 inner pq e=CR:=⟨_,rfl⟩;have HCK:=Za hCR;rw [hCR] at HXX HCN;clear hCR;cases CR with
     | no err =>
       have HXE:Hid (X = .no pq err):=HXX;go_wp2_with fail;((with_reducible refine HCN.out.mono ?_));rintro en w6 ⟨hb6,rfl,hbd⟩;have HPO:Hid (QbK B b w s e inner o X (.returned (.tuple #[])) w6):=Za (by rw [HXE.out];exact ⟨HB4.out.trans hb6,rfl,hbd.less⟩);clear hb6 hbd HCN;go_wp2_with fail;go_end0;exact HPO.out
     | ok c =>
       have hc1:c<=1:=QjR HCK.out;have HQE:Hid (pq+1<=e):=Za (QjS HCK.out HJ.out.1);rcases (show c=0\/c=1 by omega) with rfl|rfl
       ·have HXE:Hid (X = .ok (pq+1) (⟨31,0,[],((2:Nat):Int)⟩::M)):=Za (by
         have h:=HXX.out;simp only [List.replicate_zero,QaM,List.append_nil] at h;exact h)
        go_wp2_with fail;((with_reducible refine HCN.out.mono ?_));rintro en w6 ⟨hb6,rfl,ht6⟩;have HPO:Hid (QbK B b w s e inner o X (.returned (.tuple #[])) w6):=Za (by rw [HXE.out];exact ⟨HB4.out.trans hb6,rfl,ht6⟩);clear hb6 ht6 HCN;go_wp2_with fail;go_end0;exact HPO.out
       ·obtain ⟨Y,hY⟩:∃ Y,Qap s (Qas s f) inner e 83 (pq+1)=Y:=⟨_,rfl⟩;have HXE:Hid (X=(match Y with
         | .no r err=>.no r err
         | .ok r ms=>.ok r (⟨31,0,[],((3:Nat):Int)⟩::(M++ms)))):=Za (by
         have h:=HXX.out;have hk:QaM (Qap s (Qas s f) inner e) (List.replicate 1 83) (pq+1)=Y:=by
          show QoD (Qap s (Qas s f) inner e 83 (pq+1)) (QaM (Qap s (Qas s f) inner e) []) (·++·)=Y;rw [hY];cases Y with
          | no r err=>rfl
          | ok r ms=>show DR.ok r (ms++[])=_;rw [List.append_nil]
         simp only [] at h;rw [hk] at h;rw [h];cases Y<;>rfl)
        go_wp2_with fail;((with_reducible refine HCN.out.mono ?_));rintro en w6 ⟨hb6,rfl,ht6⟩;have HB6:=Za (HB4.out.trans hb6);obtain ⟨g,cp,hblk,hcell,hfr,hst,_⟩:=ht6.gen.kids;obtain ⟨d0,d1,d2,d3,d4,d5,d6⟩:=Qaj hblk;obtain ⟨nl,hnl⟩:∃ nl:Nat,(o++⟨31,0,[],((2:Nat):Int)⟩::M).length=nl:=⟨_,rfl⟩;rw [hnl] at d4;have hnl2:(o.length:Int)<(nl:Int):=by rw [<- hnl];simp only [List.length_append,List.length_cons];omega
        have HST:=Za (hst 3);clear hb6 ht6 HCN hblk hst hnl;go_upto_region 18 with fail;have HT7:Hid (RdSt B b (w6.setCell ⟨g,o.length * 4+3,none⟩ (.int .i64 3)) s (pq+1) e inner (o++⟨31,0,[],3⟩::M)):=Za HST.out.1.st;have HB7:=Za (HB6.out.trans HST.out.2);generalize w6.setCell ⟨g,o.length * 4+3,none⟩ (.int .i64 3)=W7 at HT7 HB7 |-;clear HST hcell hfr hnl2 d0 d1 d2 d3 d4 d5 d6;have HC:=Za (HS.out 83 Qvw W7 (pq+1) e inner _ HT7.out HQE.out HI.out.2.1 (by have:=HJ.out;omega) (by have:=HJ.out;simp only [List.length_append,List.length_cons];omega));rw [hY,show (((83:UInt8).toNat:Nat):Int)=83 from rfl] at HC;go_wp2_with fail;((with_reducible refine HC.out.mono ?_));rintro en w8 ⟨hb8,rfl,hp8⟩;have HPO:Hid (QbK B b w s e inner o X (.returned (.tuple #[])) w8):=Za (by
         rw [HXE.out];refine ⟨HB7.out.trans hb8,rfl,?_⟩;cases Y with
         | no r err=>exact RdBad.less hp8
         | ok r ms =>
           have h:RdSt B b w8 s r e inner ((o++⟨31,0,[],3⟩::M)++ms):=hp8;rw [List.append_assoc,List.cons_append] at h;exact h)
        clear hb8 hp8 HC;go_wp2_with fail;go_end0;exact HPO.out
    ·have b31:(op==31)=false:=Zd h31;rw [if_neg h31] at HXX;clear h31;go_wp2_with fail;go_end0;rw [HXX.out];exact ⟨HB4.out,rfl,HT4.out⟩
   ·have HXX:Hid (X = .no r err):=Za (by rw [HXF.out,hK]<;>rfl);have HBW:=Za hb;obtain ⟨s4,z4,e4,i4,ms,hg4,h34⟩:=RdBad.open (ns:=[]) hbad;obtain ⟨g,cp,hblk,hcell,hfr,hst,_⟩:=hg4.kids;obtain ⟨d0,d1,d2,d3,d4,d5,d6⟩:=Qaj hblk;obtain ⟨nl,hnl⟩:∃ nl:Nat,(o++(⟨op,0,t,0⟩:Nd)::([]++ms)).length=nl:=⟨_,rfl⟩;rw [hnl] at d4;have hnl2:(o.length:Int)<(nl:Int):=by rw [<- hnl];simp only [List.length_append,List.length_cons];omega
    have HST:=Za (hst (N:Int));clear hbad hK hb HKE hblk hst hnl HXF hg4;go_upto_region 16 with fail;have HBD:Hid (RdBad B b r err (w3.setCell ⟨g,o.length * 4+3,none⟩ (.int .i64 (N:Int))) o):=Za (HST.out.1.bad h34);have HB4:=Za (HBW.out.trans HST.out.2);(try simp only [hNI]);generalize w3.setCell ⟨g,o.length * 4+3,none⟩ (.int .i64 (N:Int))=W4 at HBD HB4 |-;clear HST hcell hfr hnl2 d0 d1 d2 d3 d4 d5 d6 HBW;by_cases h31:op=31
    ·subst h31;have HCB:=Za (QjQ B b 1 W4 r err _ HBD.out);rw [show ((1:Nat):Int)=1 from rfl] at HCB;go_wp2_with fail;((with_reducible refine HCB.out.mono ?_));rintro en w6 ⟨rfl,n6,rfl⟩;clear HCB;go_wp2_with fail;go_end0;rw [HXX.out];exact ⟨below_drewN HB4.out _,rfl,HBD.out.below (below_drewN Zb _)⟩
    ·have b31:(op==31)=false:=Zd h31;clear h31;go_wp2_with fail;go_end0;rw [HXX.out];exact ⟨HB4.out,rfl,HBD.out⟩
end
section
open Go.RowKit
attribute [local go_sem] ByteArray.mk_append_mk Qah Qai Qag
set_option maxRecDepth 100000 in
theorem QtM (B b:Nat) (s:List UInt8) (f:Nat) (hs:s.length<=65536) (w:World) (pos bl:Nat) (o:List Nd) (k:UInt8) (ht:TSt B b w s pos pos bl o) (he:pos<=s.length) :
  Calls Tryz.prog 55 #[.pointer (some ⟨b,0,none⟩),.int .u8 k.toNat] w (TPost B b w s pos bl o (QaU s (Qas s f) k (QaH bl) pos pos)):=by
 have HX:Hid (QaU s (Qas s f) k (QaH bl) pos pos = .no pos (Qd2 (QaH bl))):=Za (by unfold QaU;rw [if_pos rfl]);rw [HX.out];have HSZ:=Za ht.size;have HC:=Za (fun n=>Qev B b (w.drewN n) s pos pos bl o (ht.below (below_drewN Zb n)));obtain ⟨nv,h1,h2⟩:=ht.ex;obtain ⟨c0,c1,c2,c3,c4,c5⟩:=QaY h1;have hpe':((pos:Int)==(pos:Int))=true:=by rw [beq_iff_eq]
 clear ht h1 h2 HX;go_enter Tryz.func55,Tryz.ntmps55;go_wp2_with fail;go_quiet (fail);go_wp2_with fail;((with_reducible refine (HC.out _).mono ?_));rintro en w1 ⟨rfl,hb,ht⟩;have HB:=Za hb;have HT:=Za ht;clear hb ht HC;go_wp2_with fail;go_ret;exact ⟨(below_drewN Zb _).trans HB.out,rfl,HT.out⟩
set_option maxRecDepth 100000 in
theorem QtN (B b:Nat) (s:List UInt8) (f:Nat) (hs:s.length<=65536) (w:World) (pos e bl:Nat) (o:List Nd) (k:UInt8) (ht:TSt B b w s pos e bl o) (hp:pos<e) (he:e<=s.length) (c:UInt8) (hc:s.getD pos 0=c) (ha:Qaq k (QaP c)=false) :
  Calls Tryz.prog 55 #[.pointer (some ⟨b,0,none⟩),.int .u8 k.toNat] w (TPost B b w s e bl o (QaU s (Qas s f) k (QaH bl) pos e)):=by
 have HX:Hid (QaU s (Qas s f) k (QaH bl) pos e = .no pos 3):=Za (by unfold QaU;rw [if_neg (by omega),hc,if_pos ha]);rw [HX.out];have HSZ:=Za ht.size;have HC:=Za (fun n=>Qga B b (w.drewN n) s pos e bl o (ht.below (below_drewN Zb n)));obtain ⟨nv,h1,h2⟩:=ht.ex;obtain ⟨c0,c1,c2,c3,c4,c5⟩:=QaY h1;have hpe':((pos:Int)==(e:Int))=false:=by rw [beq_eq_false_iff_ne];omega
 have hps':(pos:Int)<(s.length:Int):=by omega
 have hps:pos<s.length:=by omega
 have hge:∀ h:pos<s.length,s[pos]=c:=fun h=>by rw [<- hc,List.getD_eq_getElem?_getD,List.getElem?_eq_getElem h];rfl
 obtain ⟨op,hop⟩:∃ op,Hid (QaP c=op):=⟨_,Za rfl⟩;have HOP:=Za (fun w=>Qde c op hop w);rw [hop.out] at ha;have HAC:=Za (fun w=>Qfb k op false (Za ha) w);have hc0:(0:Int)<=(c.toNat:Int):=by omega
 have hc256:(c.toNat:Int)<256:=by have:=c.toNat_lt;omega
 clear ht h1 h2 HX hp he hc ha hop;go_enter Tryz.func55,Tryz.ntmps55;go_wp2_with fail;go_quiet (fail);go_wp2_with fail;go_quiet (fail);go_wp2_with fail;((with_reducible refine (HOP.out _).mono ?_));rintro en w1 ⟨rfl,rfl⟩;go_wp2_with fail;((with_reducible refine (HAC.out _).mono ?_));rintro en w1 ⟨rfl,rfl⟩;go_wp2_with fail;((with_reducible refine (HC.out _).mono ?_));rintro en w1 ⟨rfl,hb,ht⟩;have HB:=Za hb;have HT:=Za ht;clear hb ht HC;go_wp2_with fail;go_ret;exact ⟨(below_drewN Zb _).trans HB.out,rfl,HT.out⟩
theorem Qqg (B b:Nat) (s:List UInt8) (f:Nat) (hs:s.length<=65536) (hO:OpT B b s f):Qn4 B b s (f+1):=by
 intro k w pos e bl o ht hp he hf ho hbl;show Calls Tryz.prog 55 #[.pointer (some ⟨b,0,none⟩),.int .u8 k.toNat] w (TPost B b w s e bl o (QaU s (Qas s f) k (QaH bl) pos e));by_cases hpe:pos=e
 ·subst hpe;exact QtM B b s f hs w pos bl o k ht he
 ·have hlt:pos<e:=by omega
  by_cases ha:Qaq k (QaP (s.getD pos 0))=true
  ·by_cases h1:QaP (s.getD pos 0)=1
   ·exact QtH B b s f hs w pos e bl o k ht hlt he ho _ rfl ha h1
   by_cases h2:QaP (s.getD pos 0)=2
   ·exact QtI B b s f hs w pos e bl o k ht hlt he ho _ rfl ha h2
   by_cases h3:QaP (s.getD pos 0)=3
   ·exact Qr1 B b s f hs w pos e bl o k ht hlt he ho _ rfl ha h3
   by_cases h6:QaP (s.getD pos 0)=6
   ·exact QtJ B b s f hs w pos e bl o k ht hlt he ho _ rfl ha h6
   by_cases h7:QaP (s.getD pos 0)=7
   ·exact QtK B b s f hs w pos e bl o k ht hlt he ho _ rfl ha h7
   exact Qr2 B b s f hs hO w pos e bl o k ht hlt he ho _ rfl ha h1 h2 h3 h6 h7 hf hbl
  ·exact QtN B b s f hs w pos e bl o k ht hlt he _ rfl (by simpa using ha)
theorem QmF (B b:Nat) (s:List UInt8) (hs:s.length<=65536):∀ f,Qn4 B b s f
 | 0=>fun k w pos e bl o ht hp he hf ho hbl=>by omega
 | f+1=>by
   have h:=QmF B b s hs f;exact Qqg B b s f hs (QjN B b s f hs (QjM B b s f hs h (Qmz B b s f hs h)))
def Qvx (s:List UInt8) (f:Nat) (ns:List Nd):DR->DR
 | .no q err=>.no q err
 | .ok q ms=>Qfa s f (ns++ms) q
theorem QhI {s:List UInt8} {f pos:Nat} {ns:List Nd} (h:pos≠s.length):Qfa s (f+1) ns pos=Qvx s f ns (Qas s (s.length+1) 68 false pos s.length):=by
 rw [Qfa,if_neg h];cases Qas s (s.length+1) 68 false pos s.length<;>rfl
set_option maxRecDepth 100000 in
theorem Qqh (m:Int) (s:List UInt8) (w:World) (hm:SynG m w) (hs:s.length<=9223372036854775000) :
  Calls Tryz.prog 22 #[.string ⟨s.toArray⟩] w fun en w'=>∃ v,en = .returned (.tuple #[v,.int .i64 (Qeu s).2.1,.int .i64 (Qeu s).2.2])/\NodesI w' w.heap.size v (Qeu s).1/\Below w.heap.size w w':=by
 obtain ⟨Z,hZ⟩:∃ Z,Hid (Qeu s=Z):=⟨_,Za rfl⟩;rw [hZ.out];have HG:=Za hm;have HN0:=Za (NodesI.nil w w.heap.size);clear hm;by_cases hlen:65536<s.length
 ·have HZ:Hid (Z=([],0,11)):=Za (by rw [<- hZ.out];unfold Qeu;rw [if_pos hlen]);rw [HZ.out];have hlen':(65536:Int)<(s.length:Int):=by omega
  clear hZ HZ hlen;go_enter Tryz.func22,Tryz.ntmps22;go_wp2_with fail;go_ret3;exact ⟨_,rfl,NodesI.nil _ _,Zb⟩
 ·obtain ⟨Y,hY⟩:∃ Y,Hid (Qfa s (s.length+1) [] 0=Y):=⟨_,Za rfl⟩;have HZ:Hid (Z=Qrn Y):=Za (by rw [<- hZ.out];unfold Qeu;rw [if_neg hlen,hY.out]);have hlen':¬ (65536:Int)<(s.length:Int):=by omega
  have hs6:s.length<=65536:=by omega
  obtain ⟨B,hB⟩:∃ B,w.heap.size=B:=⟨_,rfl⟩;have HBE:=Za hB;have hal:Below B w (w.alloc (tdO s 0 s.length 0 (.slice none 0 0) 0)):=Zb.alloc (by omega) _;have hsz0:B<=(w.alloc (tdO s 0 s.length 0 (.slice none 0 0) 0)).heap.size:=by rw [<- hB];exact hal.size
  have HP0:Hid (TSt B B (w.alloc (tdO s 0 s.length 0 (.slice none 0 0) 0)) s 0 s.length 0 []):=Za (by
   have h1:=heap_alloc_new w (tdO s 0 s.length 0 (.slice none 0 0) 0);rw [hB] at h1;exact ⟨⟨_,h1,NodesI.nil _ _⟩,Nat.le_refl _,hsz0⟩)
  have HL0:=Za hal;have HLOW:=Za HG.out.low;rw [hB] at HLOW;have HSUB:=Za (QmF B B s hs6 (s.length+1));unfold Qn4 at HSUB;clear hZ hlen hal hsz0 hB;go_enter Tryz.func22,Tryz.ntmps22;go_wp2_with fail;rw [HBE.out];generalize w.alloc (tdO s 0 s.length 0 (.slice none 0 0) 0)=W0 at *;have HSTART:Hid (∃ (f pq:Nat) (M:List Nd),TSt B B W0 s pq s.length 0 M/\Y=Qfa s f M pq/\(pq<=s.length/\s.length<pq+f/\M.length<=pq)/\(∀ n∈M,NdD n)/\Below B w W0):=Za
   ⟨s.length+1,0,[],HP0.out,hY.out.symm,⟨by omega,by omega,by simp⟩,by simp,HL0.out⟩
  clear HP0 HL0 hY;go_loopw [33] (fun z wr=>∃ u:Value,u=z/\Hid (∃ (f pq:Nat) (M:List Nd),TSt B B wr s pq s.length 0 M/\Y=Qfa s f M pq/\(pq<=s.length/\s.length<pq+f/\M.length<=pq)/\(∀ n∈M,NdD n)/\Below B w wr)) (fun _ wr=>s.length-QoQ wr B)
  case atStart=>exact ⟨_,rfl,HSTART⟩
  case round =>
   obtain ⟨u,rfl,HREL⟩:=hrel;obtain ⟨w7,rfl⟩:∃ y:World,y=wr:=⟨_,rfl⟩;clear HSTART;obtain ⟨f,pq,M,ht7,hx7,hi7,hm7,hb7⟩:=HREL.out;have HT:=Za ht7;have HX:=Za hx7;have HJ:=Za hi7;have HND:=Za hm7;have HBW:=Za hb7;clear ht7 hx7 hi7 hm7 hb7 HREL;have HM7:=Za HT.out.posIs;obtain ⟨nv7,h1,h2⟩:=HT.out.ex;obtain ⟨c0,c1,c2,c3,c4,c5⟩:=QaY h1;have HN7:=Za h2;clear h1 h2;by_cases hlt:pq<s.length
   ·have hlt':(pq:Int)<(s.length:Int):=by omega
    obtain ⟨F',hF⟩:∃ F',f=F'+1:=⟨f-1,by have:=HJ.out;omega⟩;obtain ⟨Y1,hY⟩:∃ Y1,Qas s (s.length+1) 68 false pq s.length=Y1:=⟨_,rfl⟩;have HDG:=Za (QbW s (s.length+1) 68 false pq s.length (Nat.le_of_lt hlt) Zc);rw [hY] at HDG;have HC:Hid (∀ q,Calls Tryz.prog 55 #[.pointer (some ⟨B,0,none⟩),.int .u8 68] (w7.drewN q) (TPost B B (w7.drewN q) s s.length 0 M Y1)):=Za (fun q=>by
     have h:=HSUB.out 68 (w7.drewN q) pq s.length 0 M (HT.out.below (below_drewN Zb q)) (Nat.le_of_lt hlt) Zc (by omega) HJ.out.2.2 (Nat.zero_le _);rw [show QaH 0=false from rfl,hY] at h;exact h)
    have HXE:Hid (Y=Qvx s F' M Y1):=Za (by rw [HX.out,hF,QhI (by omega),hY]);have HFF:=Za hF;clear hY hlt hF HT;cases Y1 with
    | no r err =>
      have HXX:Hid (Y = .no r err):=HXE;have HZZ:Hid (Z=([],((r:Nat):Int),err)):=Za (by rw [HZ.out,HXX.out]<;>rfl);go_wp2_with fail;go_quiet (fail);go_wp2_with fail;((with_reducible refine (HC.out _).mono ?_));rintro en w8 ⟨hb8,rfl,ht8⟩;have HB8:=Za (HBW.out.trans ((below_drewN Zb _).trans hb8));obtain ⟨s8,e8,bl8,nv8,h8⟩:=ht8;clear c0 c1 c2 c3 c4 c5;obtain ⟨c0,c1,c2,c3,c4,c5⟩:=QaY h8;clear hb8 h8 HC;go_wp2_with fail;go_quiet (fail);go_wp2_with fail;go_ret3;rw [HZZ.out,HBE.out];exact ⟨_,rfl,NodesI.nil _ _,below_drewN HB8.out _⟩
    | ok r ms =>
      have HXX:Hid (Y=Qfa s F' (M++ms) r):=HXE;have HJ2:Hid (r<=s.length/\s.length<r+F'/\(M++ms).length<=r):=Za (by
       have:=HJ.out;obtain ⟨d1,d2,d3,_⟩:=HDG.out;have:=HFF.out;rw [List.length_append];omega)
      have HND2:Hid (∀ n∈M++ms,NdD n):=Za (fun n hn=>by
       rcases List.mem_append.1 hn with h|h
       ·exact HND.out n h
       ·exact HDG.out.2.2.2.2 n h)
      have HPR:Hid (pq<r/\r<=s.length):=Za ⟨HDG.out.1,HDG.out.2.1⟩;go_wp2_with fail;go_quiet (fail);go_wp2_with fail;((with_reducible refine (HC.out _).mono ?_));rintro en w8 ⟨hb8,rfl,ht8⟩;have HB8:=Za (HBW.out.trans ((below_drewN Zb _).trans hb8));have HT8:=Za ht8;clear c0 c1 c2 c3 c4 c5 hb8 ht8 HC HXE HX HJ HBW HDG;have HNEW:Hid (∃ (f pq:Nat) (M:List Nd),TSt B B w8 s pq s.length 0 M/\Y=Qfa s f M pq/\(pq<=s.length/\s.length<pq+f/\M.length<=pq)/\(∀ n∈M,NdD n)/\Below B w w8):=Za ⟨F',r,M++ms,HT8.out,HXX.out,HJ2.out,HND2.out,HB8.out⟩;have HM8:=Za HT8.out.posIs;go_wp2_with fail;go_roundw
      case rel=>first|exact ⟨_,rfl,HNEW⟩|exact ⟨_,_,rfl,HNEW⟩
      case measure=>rw [HM8.out,HM7.out];have:=HPR.out;omega
   ·have hlt':¬ (pq:Int)<(s.length:Int):=by omega
    have hpE:pq=s.length:=by have:=HJ.out;omega
    have HXX:Hid (Y = .ok pq M):=Za (by
     obtain ⟨F',hF⟩:∃ F',f=F'+1:=⟨f-1,by have:=HJ.out;omega⟩;rw [HX.out,hF,Qfa,if_pos hpE])
    have HZ3:Hid (Z=if Qbk M=true then (M,0,0) else ([],0,11)):=Za (by rw [HZ.out,HXX.out]<;>rfl);have HLM:Hid (M.length<=65536):=Za (by have:=HJ.out;omega);have HVA:=Za (fun q=>QkO m M nv7 (w7.drewN q) ((HN7.out.below (below_drewN Zb q)).sl (fun t ht=>by have:=HND.out t ht;unfold NdD at this;omega)) (HG.out.below (below_drewN HBW.out q) HLOW.out) (by have:=HLM.out;omega));obtain ⟨vb,hvb⟩:∃ z,Qbk M=z:=⟨_,rfl⟩;rw [hvb] at HVA HZ3;clear hlt hpE HX HM7 hvb HT;have e4:∀ q w',Below (w7.drewN q).heap.size (w7.drewN q) w'->w'.cell? ⟨B,4,none⟩=some nv7:=fun q w' hb=>(hb.cell (p:=⟨B,4,none⟩) (World.block_lt_of_cell? w7 ⟨B,4,none⟩ c4)).trans c4;have HS7:Hid (B<=w7.heap.size):=Za (by have:=World.block_lt_of_cell? w7 ⟨B,4,none⟩ c4;exact Nat.le_of_lt this);go_upto_region 7 with fail;go_quiet (fail);go_wp2_with fail;((with_reducible refine (HVA.out _).mono ?_));rintro en w8 ⟨rfl,hb8⟩;have e8:=e4 _ _ hb8;have HB8:Hid (Below B w w8):=Za ((below_drewN HBW.out _).trans (hb8.mono HS7.out));have HN8:=Za ((HN7.out.below (below_drewN Zb _)).below hb8);clear hb8 c0 c1 c2 c3 c4 c5 e4;cases vb with
    | false =>
      have HZ4:Hid (Z=([],0,11)):=Za (by rw [HZ3.out]<;>rfl);go_wp2_with fail;go_ret3;rw [HZ4.out,HBE.out];exact ⟨_,rfl,NodesI.nil _ _,HB8.out⟩
    | true =>
      have HZ4:Hid (Z=(M,0,0)):=Za (by rw [HZ3.out]<;>rfl);go_wp2_with fail;go_ret3;rw [HZ4.out,HBE.out];exact ⟨_,rfl,HN8.out,HB8.out⟩
end
section
open Go.RowKit
attribute [local go_sem] ByteArray.mk_append_mk Qah Qai Qag
theorem QjT (B b:Nat) (s:List UInt8) (hs:s.length<=65536):∀ f,QnZ B b s f
 | 0=>fun k w pos e inner o ht hp he hf ho=>by omega
 | f+1=>QmC B b s f hs (QmE B b s f hs (QlD B b s f hs (QjT B b s hs f)))
def DlR (B:Nat) (w:World) (s:List UInt8) (Y:DR) (wr:World):Prop :=
 (∃ (f pq:Nat) (M:List Nd),RdSt B B wr s pq s.length false M/\Y=Qfa s f M pq/\(pq<=s.length/\s.length<pq+f/\M.length<=pq)/\(∀ n∈M,NdD n)/\Below B w wr)
 \/ (∃ (q:Nat) (err:Int),RdBad B B q err wr []/\Y = .no q err/\Below B w wr)
theorem DlR.next {B:Nat} {w w8 w9:World} {s:List UInt8} {Y:DR} {f pq:Nat} {M:List Nd} (hlt:pq<s.length) (hY:Y=Qfa s f M pq) (hj:pq<=s.length/\s.length<pq+f/\M.length<=pq) (hm:∀ n∈M,NdD n) (hw:Below B w w8) (hb:Below B w8 w9)
  (hn:match Qas s (s.length+1) 68 false pq s.length with
   | .no q err=>RdBad B B q err w9 M
   | .ok q ns=>RdSt B B w9 s q s.length false (M++ns)):DlR B w s Y w9/\QfE w9 B s.length<s.length+1-pq:=by
 obtain ⟨j1,j2,j3⟩:=hj;obtain ⟨F',hF⟩:∃ F',f=F'+1:=⟨f-1,by omega⟩;have hdg:=QbW s (s.length+1) 68 false pq s.length (Nat.le_of_lt hlt) Zc;rw [hF,QhI (by omega)] at hY;cases hX:Qas s (s.length+1) 68 false pq s.length with
 | no q err =>
   rw [hX] at hn hY;have hn2:RdBad B B q err w9 ([]++M):=hn;refine ⟨.inr ⟨q,err,hn2.less,hY,hw.trans hb⟩,?_⟩;rw [RdBad.meas hn];omega
 | ok q ns =>
   rw [hX] at hn hY hdg;obtain ⟨d1,d2,d3,_,d5⟩:=hdg;refine ⟨.inl ⟨F',q,M++ns,hn,hY,⟨d2,by omega,by rw [List.length_append];omega⟩,?_,hw.trans hb⟩,?_⟩
   ·intro n h;rcases List.mem_append.1 h with h|h
    ·exact hm n h
    ·exact d5 n h
   ·rw [RdSt.meas hn];omega
set_option maxRecDepth 100000 in
theorem Qr5 (s:List UInt8) (w:World) (hs:s.length<=9223372036854775000) :
  Calls Tryz.prog 56 #[.string ⟨s.toArray⟩] w fun en w'=>∃ v,en = .returned (.tuple #[v,.int .i64 (Qeu s).2.1,.int .i64 (Qeu s).2.2])/\NodesI w' w.heap.size v (Qeu s).1/\Below w.heap.size w w':=by
 obtain ⟨Z,hZ⟩:∃ Z,Hid (Qeu s=Z):=⟨_,Za rfl⟩;rw [hZ.out];by_cases hlen:65536<s.length
 ·have HZ:Hid (Z=([],0,11)):=Za (by rw [<- hZ.out];unfold Qeu;rw [if_pos hlen]);rw [HZ.out];have hlen':(s.length:Int)>65536:=by omega
  clear hZ HZ hlen;go_enter Tryz.func56,Tryz.ntmps56;go_wp2_with fail;go_ret3;exact ⟨_,rfl,NodesI.nil _ _,Zb⟩
 ·obtain ⟨Y,hY⟩:∃ Y,Hid (Qfa s (s.length+1) [] 0=Y):=⟨_,Za rfl⟩;have HZ:Hid (Z=Qrn Y):=Za (by rw [<- hZ.out];unfold Qeu;rw [if_neg hlen,hY.out]);have hlen':¬ (s.length:Int)>65536:=by omega
  have hs6:s.length<=65536:=by omega
  obtain ⟨B,hB⟩:∃ B,w.heap.size=B:=⟨_,rfl⟩;have HBE:=Za hB;have hal:Below B w (w.alloc (rdO s 0 s.length false (.slice none 0 0) 0 0)):=Zb.alloc (by omega) _;have HP0:Hid (RdSt B B (w.alloc (rdO s 0 s.length false (.slice none 0 0) 0 0)) s 0 s.length false []):=Za (by
   have h1:=heap_alloc_new w (rdO s 0 s.length false (.slice none 0 0) 0 0);rw [hB] at h1;exact ⟨⟨_,h1,NodesI.nil _ _⟩,Nat.le_refl _,by rw [<- hB];exact hal.size⟩)
  have HL0:=Za hal;have HSUB:=Za (QjT B B s hs6 (s.length+1));unfold QnZ at HSUB;clear hZ hlen hal hB;go_enter Tryz.func56,Tryz.ntmps56;go_wp2_with fail;rw [HBE.out];generalize w.alloc (rdO s 0 s.length false (.slice none 0 0) 0 0)=W0 at HP0 HL0 |-;have HSTART:Hid (DlR B w s Y W0):=Za (.inl ⟨s.length+1,0,[],HP0.out,hY.out.symm,⟨by omega,by omega,by simp⟩,by simp,HL0.out⟩);clear HP0 HL0 hY;go_loopw [14] (fun z wr=>∃ u:Value,u=z/\Hid (DlR B w s Y wr)) (fun _ wr=>QfE wr B s.length)
  case atStart=>exact ⟨_,rfl,HSTART⟩
  case round =>
   obtain ⟨u,rfl,HREL⟩:=hrel;obtain ⟨w7,rfl⟩:∃ y:World,y=wr:=⟨_,rfl⟩;clear HSTART;rcases HREL.out with ⟨f,pq,M,ht7,hx7,hi7,hm7,hb7⟩|⟨q,err,hbad,hx7,hb7⟩
   ·have HT:=Za ht7;have HX:=Za hx7;have HJ:=Za hi7;have HND:=Za hm7;have HBW:=Za hb7;have HM7:=Za (ht7.meas s.length);clear ht7 hx7 hi7 hm7 hb7 HREL;obtain ⟨nv7,h1,h2⟩:=HT.out.ex;obtain ⟨c0,c1,c2,c3,c4,c5,c6⟩:=Qaj h1;have HN7:=Za h2;clear h1 h2;by_cases hlt:pq<s.length
    ·have hlt':(pq:Int)<(s.length:Int):=by omega
     have HLT:=Za hlt;have HC:Hid (∀ q,Calls Tryz.prog 111 #[.pointer (some ⟨B,0,none⟩),.int .u8 68] (w7.drewN q) (QbK B B (w7.drewN q) s s.length false M (Qas s (s.length+1) 68 false pq s.length))):=Za (fun q=>HSUB.out 68 (w7.drewN q) pq s.length false M (HT.out.below (below_drewN Zb q)) (Nat.le_of_lt hlt) Zc (by omega) HJ.out.2.2);clear hlt HT;go_wp2_with fail;go_quiet (fail);go_wp2_with fail;((with_reducible refine (HC.out _).mono ?_));rintro en w8 ⟨hb8,rfl,hp8⟩;have HN:=Za (DlR.next HLT.out HX.out HJ.out HND.out HBW.out ((below_drewN Zb _).trans hb8) hp8);clear hb8 hp8 HC c0 c1 c2 c3 c4 c5 c6;have HNEW:Hid (DlR B w s Y w8):=Za HN.out.1;go_wp2_with fail;go_roundw
     case rel=>first|exact ⟨_,rfl,HNEW⟩|exact ⟨_,_,rfl,HNEW⟩
     case measure=>rw [HM7.out];exact HN.out.2
    ·have hlt':¬ (pq:Int)<(s.length:Int):=by omega
     have hpE:pq=s.length:=by have:=HJ.out;omega
     have HXX:Hid (Y = .ok pq M):=Za (by
      obtain ⟨F',hF⟩:∃ F',f=F'+1:=⟨f-1,by have:=HJ.out;omega⟩;rw [HX.out,hF,Qfa,if_pos hpE])
     have HZ3:Hid (Z=if Qbk M=true then (M,0,0) else ([],0,11)):=Za (by rw [HZ.out,HXX.out]<;>rfl);have HLM:Hid (M.length<=65536):=Za (by have:=HJ.out;omega);have HVA:=Za (fun q=>Qgy M (fun t ht=>by have:=HND.out t ht;unfold NdD at this;omega) nv7 (w7.drewN q) ((HN7.out.below (below_drewN Zb q)).sl (fun t ht=>by have:=HND.out t ht;unfold NdD at this;omega)) (by have:=HLM.out;omega));obtain ⟨vb,hvb⟩:∃ z,Qbk M=z:=⟨_,rfl⟩;rw [hvb] at HVA HZ3;clear hlt hpE HX HM7 hvb HT;have e4:∀ q w',Below (w7.drewN q).heap.size (w7.drewN q) w'->w'.cell? ⟨B,4,none⟩=some nv7:=fun q w' hb=>(hb.cell (p:=⟨B,4,none⟩) (World.block_lt_of_cell? w7 ⟨B,4,none⟩ c4)).trans c4;have HS7:Hid (B<=w7.heap.size):=Za (by have:=World.block_lt_of_cell? w7 ⟨B,4,none⟩ c4;exact Nat.le_of_lt this);go_wp2_with fail;go_quiet (fail);go_wp2_with fail;((with_reducible refine (HVA.out _).mono ?_));rintro en w8 ⟨rfl,hb8⟩;have e8:=e4 _ _ hb8;have HB8:Hid (Below B w w8):=Za ((below_drewN HBW.out _).trans (hb8.mono HS7.out));have HN8:=Za ((HN7.out.below (below_drewN Zb _)).below hb8);clear hb8 c0 c1 c2 c3 c4 c5 c6 e4;cases vb with
     | false =>
       have HZ4:Hid (Z=([],0,11)):=Za (by rw [HZ3.out]<;>rfl);go_wp2_with fail;go_ret3;rw [HZ4.out,HBE.out];exact ⟨_,rfl,NodesI.nil _ _,HB8.out⟩
     | true =>
       have HZ4:Hid (Z=(M,0,0)):=Za (by rw [HZ3.out]<;>rfl);go_wp2_with fail;go_ret3;rw [HZ4.out,HBE.out];exact ⟨_,rfl,HN8.out,HB8.out⟩
   ·have HBW:=Za hb7;have HZZ:Hid (Z=([],((q:Nat):Int),err)):=Za (by rw [HZ.out,hx7]<;>rfl);obtain ⟨c5,h0,h1⟩:=hbad.err5;obtain ⟨s8,p8,e8,i8,nv8,ms8,k8,_⟩:=hbad;obtain ⟨_,_,_,_,_,_,c6⟩:=Qaj k8;clear k8 hx7 hb7 HREL;go_wp2_with fail;go_quiet (fail);go_wp2_with fail;go_quiet (fail);go_wp2_with fail;go_ret3;rw [HZZ.out,HBE.out];exact ⟨_,rfl,NodesI.nil _ _,below_drewN (below_drewN HBW.out _) _⟩
end
end Go.Proofs.YtoohondkpddmcaaGreatDoor
