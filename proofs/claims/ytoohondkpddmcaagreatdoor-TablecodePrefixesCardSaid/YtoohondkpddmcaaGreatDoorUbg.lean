/- Ro Rp -/
import Derived.Test.YtoohondkpddmcaaGreatDoorUzz
import Derived.Test.YtoohondkpddmcaaGreatDoorUbf
namespace Go.Proofs.YtoohondkpddmcaaGreatDoor
set_option maxHeartbeats 32000000
set_option linter.unusedVariables false
set_option linter.unusedSimpArgs false
section
open Go.RowKit
attribute [local go_sem] ByteArray.mk_append_mk Qac Qad Qae
attribute [local go_sem] SameB.some SameB.all
theorem Qmz (r:List TokI):(Qa9 r).pos=0:=by
 unfold Qa9;cases r with
 | nil=>rfl
 | cons t q => simp only []; repeat' split
               all_goals rfl
theorem QmA {r:List TokI} (h:TGood r):(Qa9 r).str.length<=65536:=by
 unfold Qa9;cases r with
 | nil=>simp
 | cons t q =>
   have:=(h t (by simp)).1;simp only []
   repeat' split
   all_goals first|exact this|simp
def QjK (sub:UInt8->List TokI->PR) (k:UInt8) (r:List TokI):PR :=
 let op:Int:=if ((Qa9 r).kind==3&&(k==83||(k==101&&atT 5 r.tail)))=true then 5 else (Qa9 r).kind
 if (op==0||!Qar k op||(k==115&&!Qa2 (Qa9 r).str))=true then .no r
 else if op=5 then (if atT 5 r.tail=true then QeI sub (Qa9 r).str r.tail.tail else .no r.tail)
 else if op=33 then (if atT 5 r.tail=true then QeL ⟨33,0,[],1⟩ (Qca sub [101] r.tail) else .ok r.tail [⟨33,0,[],0⟩])
 else if op=31 then (match Qca sub [101,83] r.tail with
  | .no x=>.no x
  | .ok r1 n1=>if Qfk r1=true then (match QbC sub 83 r1.tail with|.no x=>.no x|.ok r2 n2=>.ok r2 (⟨31,0,[],3⟩::(n1++n2))) else .ok r1 (⟨31,0,[],2⟩::n1))
 else if op=1\/op=2\/op=3\/op=6\/op=7\/op=34\/op=35 then .ok r.tail [⟨op,(Qa9 r).num,(Qa9 r).str,0⟩]
 else QeL ⟨op,0,[],((QaE op).2.length:Nat)⟩ (Qca sub (QaE op).2 r.tail)
theorem QtF:∀ n:Fin 100,(QaE (n.val:Int)).2=[]->Qft (n.val:Int)=true->n.val=33\/n.val=34\/n.val=35:=by decide +kernel
theorem Qj7 {k:UInt8} {op:Int} (hk:k=115) (h:Qar k op=true):op=3:=by
 subst hk;exact beq_iff_eq.1 h
theorem QeY {w:List UInt8} (op:Int) (h:Qft op=false) (h0:op≠0):opW w≠op:=by
 intro e;have:=Qng (s:=w) (by rw [e];exact h0);rw [e,h] at this;cases this
theorem Qp0 (f:Nat) (k:UInt8) (r:List TokI):QjK (QfW f) k r=QfW (f+1) k r:=by
 cases r with
 | nil=>rfl
 | cons t q =>
   unfold QfW QjK;dsimp only;rw [List.tail_cons];by_cases h1:t.kind=1
   ·have hlk:Qa9 (t::q)=if QaY t.str=true then ⟨3,0,t.str,0⟩ else ⟨0,0,[],0⟩:=by
     unfold Qa9;simp only [h1,show ((1:Int)=3)=False by decide,show ((1:Int)=4)=False by decide,if_true,if_false]
    rw [if_pos h1,hlk];unfold Ql6 Qec;rw [List.tail_cons];cases hok:QaY t.str with
    | false=>simp
    | true =>
      rw [if_pos rfl,Bool.true_and,Qmt hok];dsimp only;by_cases hop:((3:Int)==3&&(k==83||(k==101&&atT 5 q)))=true
      ·rw [if_pos hop];have hk:(k=83\/(k=101/\atT 5 q=true)):=by simpa using hop
       have ha5:Qar k 5=true:=by rcases hk with rfl|⟨rfl,_⟩<;>rfl
       have hk115:(k==115)=false:=by rcases hk with rfl|⟨rfl,_⟩<;>rfl
       have hk115':(k != 115)=true:=by rw [bne,hk115];rfl
       by_cases h5:atT 5 q=true
       ·simp [h5,ha5,hk115,hk115']
       ·have hk83:k=83:=by
         rcases hk with h|h
         ·exact h
         ·exact absurd h.2 h5
        subst hk83;simp [h5,show Qar 83 3=false from rfl,show Qar 83 5=true from rfl]
      ·rw [if_neg hop];have hk:¬ (k=83\/(k=101/\atT 5 q=true)):=by simpa using hop
       have hn5:¬ (Qar k 5=true/\atT 5 q=true):=by
        rintro ⟨ha,hb⟩;refine hk ?_;by_cases h83:k=83
        ·exact .inl h83
        ·refine .inr ⟨?_,hb⟩;by_cases h101:k=101
         ·exact h101
         ·exfalso;revert ha;unfold Qar Qeb Qcm QcR;simp only [h83,h101,if_false]
          repeat' split
          all_goals simp
       rw [show ((3:Int)==0)=false from rfl,Bool.false_or];by_cases hs:(k==115&&!Qa2 t.str)=true
       ·rw [hs,Bool.or_true,if_pos rfl];simp only [Bool.and_eq_true,beq_iff_eq,Bool.not_eq_true'] at hs;rw [hs.1,hs.2]<;>rfl
       ·have hs':(k==115&&!Qa2 t.str)=false:=by simpa using hs
        have hnb:¬ ((k != 115||Qa2 t.str)=false):=by
         intro e;apply hs;simp only [Bool.or_eq_false_iff,bne_eq_false_iff_eq] at e;simp [e.1,e.2]
        rw [hs',Bool.or_false,if_neg hnb];cases ha3:Qar k 3 with
        | false =>
          rw [Bool.not_false,if_pos rfl];by_cases ha5:Qar k 5=false
          ·rw [if_pos ⟨rfl,ha5⟩]
          ·have h83:k=83:=by
            by_cases h83:k=83
            ·exact h83
            ·exfalso;apply ha5;by_cases h101:k=101
             ·subst h101;cases ha3
             ·unfold Qar Qeb Qcm QcR;simp only [h83,h101,if_false]
              repeat' split
              all_goals simp
           exact absurd (.inl h83) hk
        | true =>
          have h5:Qar k 5=true->atT 5 q=false:=fun ha=>by
           cases h:atT 5 q with
           | false=>rfl
           | true=>exact absurd ⟨ha,h⟩ hn5
          cases ha5:Qar k 5 with
          | true=>simp [h5 ha5]
          | false=>simp
   rw [if_neg h1];by_cases h2:t.kind=2
   ·rw [if_pos h2];have hlk:Qa9 (t::q)=match Qkn t.str with|some (op,n)=>⟨op,n,[],0⟩|none=>⟨opW t.str,0,[],0⟩:=by
     unfold Qa9;simp only [h2,show ((2:Int)=3)=False by decide,show ((2:Int)=4)=False by decide,show ((2:Int)=1)=False by decide,if_true,if_false]
     try rfl
    rw [hlk];unfold Ql7;rw [List.tail_cons];cases hv:Qkn t.str with
    | some x =>
      obtain ⟨op,n⟩:=x;have hop:op=6\/op=7:=by
       unfold Qkn at hv;cases hl:t.str.getLast? with
       | none=>rw [hl] at hv;cases hv
       | some c =>
         rw [hl] at hv;simp only [] at hv;split at hv
         ·injection hv with e;injection e with e1 _;exact .inl e1.symm
         ·split at hv
          ·injection hv with e;injection e with e1 _;exact .inr e1.symm
          ·cases hv
      have h3:(op==3)=false:=by rcases hop with rfl|rfl<;>rfl
      simp only [h3,Bool.false_and,Bool.false_eq_true,if_false];cases ha:Qar k op with
      | false=>simp
      | true =>
        have hk115:(k==115)=false:=by
         rw [beq_eq_false_iff_ne];intro e;have:=Qj7 e ha;omega
        rw [hk115];rcases hop with rfl|rfl<;>simp
    | none =>
      have hop3:(opW t.str==3)=false:=Zd (QeY 3 rfl (by decide));simp only [hop3,Bool.false_and,Bool.false_eq_true,if_false];by_cases h0:opW t.str=0
      ·simp [h0]
      cases ha:Qar k (opW t.str) with
      | false=>simp
      | true =>
        have hk115:(k==115)=false:=by
         rw [beq_eq_false_iff_ne];intro e;exact QeY 3 rfl (by decide) (Qj7 e ha)
        have h00:(opW t.str==0)=false:=Zd h0;rw [if_neg (show ¬ ((opW t.str==0||!true||(k==115&&!Qa2 []))=true) by rw [h00,hk115];simp),if_neg (show ¬ (opW t.str=0\/true=false) by simp [h0])];rw [if_neg (QeY 5 rfl (by decide))];by_cases h33:opW t.str=33
        ·rw [if_pos h33,if_pos h33];by_cases h5:atT 5 q=true
         ·rw [if_pos h5,if_pos h5];cases Qca (QfW f) [101] q<;>rfl
         ·rw [if_neg h5,if_neg h5]
        rw [if_neg h33,if_neg h33];by_cases h31:opW t.str=31
        ·rw [if_pos h31,h31];have e31:(QaE 31).2=[101,83]:=by decide +kernel
         rw [e31];cases Qca (QfW f) [101,83] q with
         | no x=>rfl
         | ok r1 n1 =>
           simp only [true_and];by_cases he:Qfk r1=true
           ·rw [if_pos he,if_pos he];rfl
           ·rw [if_neg he,if_neg he];rfl
        rw [if_neg h31];obtain ⟨n,hn⟩:=QgQ (Qng h0);by_cases h3435:opW t.str=34\/opW t.str=35
        ·rw [if_pos (by rcases h3435 with h|h<;>simp [h])];have e:(QaE (opW t.str)).2=[]:=by rcases h3435 with h|h<;>rw [h]<;>decide +kernel
         rw [e];unfold Qca;rw [if_pos rfl];simp only [];rw [if_neg (fun e=>h31 e.1)]<;>rfl
        ·rw [if_neg (by
          rintro (h|h|h|h|h|h|h)
          ·exact QeY 1 rfl (by decide) h
          ·exact QeY 2 rfl (by decide) h
          ·exact QeY 3 rfl (by decide) h
          ·exact QeY 6 rfl (by decide) h
          ·exact QeY 7 rfl (by decide) h
          ·exact h3435 (.inl h)
          ·exact h3435 (.inr h))]
         cases Qca (QfW f) (QaE (opW t.str)).2 q with
         | no x=>rfl
         | ok r1 n1 =>
           simp only [];rw [if_neg (fun e=>h31 e.1)]<;>rfl
   rw [if_neg h2];by_cases h3:t.kind=3
   ·have hlk:Qa9 (t::q)=⟨1,t.num,[],0⟩:=by unfold Qa9;simp only [h3,if_true]
    rw [hlk];cases ha:Qar k 1 with
    | false=>simp [h3,ha]
    | true =>
      have hk115:(k==115)=false:=by
       rw [beq_eq_false_iff_ne];intro e;have:=Qj7 e ha;omega
      simp [h3,ha,hk115]
   by_cases h4:t.kind=4
   ·have hlk:Qa9 (t::q)=⟨2,0,t.str,0⟩:=by
     unfold Qa9;simp only [h4,show ((4:Int)=3)=False by decide,if_true,if_false]
    rw [hlk];cases ha:Qar k 2 with
    | false=>simp [h4,ha]
    | true =>
      have hk115:(k==115)=false:=by
       rw [beq_eq_false_iff_ne];intro e;have:=Qj7 e ha;omega
      simp [h4,ha,hk115]
   ·have hlk:Qa9 (t::q)=⟨0,0,[],0⟩:=by unfold Qa9;simp only [h1,h2,h3,h4,if_false]
    rw [hlk];simp [h3,h4]
set_option maxRecDepth 100000 in
theorem Qoy (m F:Int) (B b i:Nat) (k n p:Int) (s:List UInt8) (w:World) (r:List TokI) (o:List Nd) (h:RSt m B b w r i F o) (hl:o.length<=900000) (hol:(o.length:Int)<=i+F) :
  Calls Tryz.prog 141 #[.pointer (some ⟨b,0,none⟩),QbB k n s p] w fun e w'=>e = .returned (.int .i64 o.length)/\RSt m B b w' r i F (o++[⟨k,n,s,p⟩])/\Below B w w'/\∀ Q,Q<w.heap.size->Q≠b->(∀ tv nv,w.heap[b]?=some (Qeg tv i nv F)->nv.ownBlock≠some Q)->w'.heap[Q]?=w.heap[Q]?:=by
 have H0:=Za (h.alloc (Qaj k n s p));have HN0:=Za (heap_alloc_new w (Qaj k n s p));have HB0:Hid (Below B w (w.alloc (Qaj k n s p))):=Za (Zb.alloc h.size _);obtain ⟨tv,nv,h1,h2,h3⟩:=h.ex;obtain ⟨na,nc,rfl⟩:=h3.form;have hal:Below w.heap.size w (w.alloc (Qaj k n s p)):=Zb.alloc Zc _;have HP1:=Za (Qab h1 hal);have HT1:=Za (h2.below (hal.mono h.size));have HO1:=Za (h3.below hal);have HNE:Hid (∀ g,(Value.slice na o.length nc).ownBlock=some g->g<w.heap.size):=Za (fun g hg=>QhG h3 hg);have HF0:Hid (∀ Q,Q<w.heap.size->(w.alloc (Qaj k n s p)).heap[Q]?=w.heap[Q]?):=Za (fun Q hQ=>hal.block Q hQ);have HFQ:Hid (∀ Q,(∀ tv nv,w.heap[b]?=some (Qeg tv i nv F)->nv.ownBlock≠some Q)->(Value.slice na o.length nc).ownBlock≠some Q):=Za (fun Q hQ=>hQ _ _ h1);have HSZW:Hid (w.heap.size<=(w.alloc (Qaj k n s p)).heap.size):=Za hal.size;clear h h1 h2 h3 hal;unfold QbB;go_enter Tryz.func141,Tryz.ntmps141;go_upto_region 1 with fail;obtain ⟨P,hP⟩:∃ P,w.heap.size=P:=⟨_,rfl⟩;obtain ⟨PW,hPW⟩:∃ z:World,z=w:=⟨_,rfl⟩;have HPE:Hid (w.heap.size=P):=Za hP;rw [hP] at HN0 HNE;simp only [hP];clear hPW;generalize w.alloc (Qaj k n s p)=W at *;have k0:∀ x,SameB W b P x->x.cell? ⟨b,2,none⟩=some (.slice na o.length nc):=fun x hx=>(Qaa (hx.1.trans HP1.out)).2.2.1;have q0:∀ x,SameB W b P x->x.cell? ⟨P,0,none⟩=some (.int .i64 k):=fun x hx=>(Qaa (hx.2.trans HN0.out)).1;have q1:∀ x,SameB W b P x->x.cell? ⟨P,1,none⟩=some (.int .u64 n):=fun x hx=>(Qaa (hx.2.trans HN0.out)).2.1;have q2:∀ x,SameB W b P x->x.cell? ⟨P,2,none⟩=some (.string ⟨s.toArray⟩):=fun x hx=>(Qaa (hx.2.trans HN0.out)).2.2.1;have q3:∀ x,SameB W b P x->x.cell? ⟨P,3,none⟩=some (.int .i64 p):=fun x hx=>(Qaa (hx.2.trans HN0.out)).2.2.2;have HPL:Hid (P<W.heap.size):=Za (lt_of_block HN0.out);have HBL:Hid (b<W.heap.size):=Za (lt_of_block HP1.out);clear hP;refine QaI (SameB W b P) 8 [.reads [0,1,2,3,4,5],.act 6,.act 7,.act 8,.act 9,.act 10] (by kernel_rfl) (by kernel_rfl) (by kernel_rfl) (by kernel_rfl) (by kernel_rfl) (fun _ _ d _ _ h=>by cases d<;>exact h) ⟨rfl,rfl⟩ ?_;refine Qas ?_;simp only [Qaf,pQ1,pQ2,pQ3,pQ4,pQ5,pQ6]
 repeat (go_big_quiet_step (first|(intro hb;rw [k0 _ hb];exact ⟨rfl,rfl⟩)|(intro hb;rw [q0 _ hb];simp only [Result.andThen];rw [q1 _ hb];simp only;rw [q2 _ hb];simp only;rw [q3 _ hb];exact ⟨rfl,rfl⟩)))
 refine wpQuiet_nil ?_;refine Qai rfl ?_;simp only [Qaf,pQ1,pQ2,pQ3,pQ4,pQ5,pQ6];go_wp2_with fail;have hg1:Grows W (W.alloc (Qaj k n s p)).drew:=Below.drew (Zb.alloc Zc _);have H1:=Za (H0.out.below hg1);have HP2:=Za (Qab HP1.out hg1);have HPP:=Za (Qab HN0.out hg1);have HT2:=Za (HT1.out.below (hg1.mono H0.out.size));have HO2:=Za (HO1.out.below hg1);have HNN:Hid ((W.alloc (Qaj k n s p)).drew.heap[W.heap.size]?=some (Qaj k n s p)):=Za (heap_alloc_new W _);have HB2:Hid (Below B w (W.alloc (Qaj k n s p)).drew):=Za (HB0.out.trans (hg1.mono H0.out.size));have HF1:Hid (∀ Q,Q<w.heap.size->(W.alloc (Qaj k n s p)).drew.heap[Q]?=w.heap[Q]?):=Za (fun Q hQ=>(hg1.block Q (Nat.lt_of_lt_of_le hQ HSZW.out)).trans (HF0.out Q hQ));have HSZV:Hid (w.heap.size<=(W.alloc (Qaj k n s p)).drew.heap.size):=Za (Nat.le_trans HSZW.out hg1.size);refine ⟨fun _=>⟨hg1.block b HBL.out,hg1.block P HPL.out⟩,?_⟩;have HS2:Hid (SameB W b P (W.alloc (Qaj k n s p)).drew):=Za ⟨hg1.block b HBL.out,hg1.block P HPL.out⟩;generalize (W.alloc (Qaj k n s p)).drew=V at *;clear hg1 H0 HN0 HP1 HT1 HO1 HB0 k0 q0 q1 q2 q3;refine Qai rfl ?_;simp only [Qaf,pQ1,pQ2,pQ3,pQ4,pQ5,pQ6];go_wp2_with (at_builtin;refine Qb7 rfl _ _ rfl B _ o rfl HO2.out W.heap.size ⟨k,n,s,p⟩ rfl HNN.out (by omega) H1.out.size ?_;intro v2 w2 ho hg;obtain ⟨a2,c2,rfl⟩:=NodesI.form ho;have HO3:=Za ho;have HG3:=Za hg;clear ho hg);refine ⟨fun _=>⟨(HG3.out.block b (lt_of_block HP2.out) (fun e=>Qeh HO2.out HP2.out e.symm)).trans HS2.out.1,(HG3.out.block P (lt_of_block HPP.out) (fun e=>absurd (HNE.out P e.symm) (Nat.lt_irrefl _))).trans HS2.out.2⟩,?_⟩;refine Qai rfl ?_;simp only [Qaf,pQ1,pQ2,pQ3,pQ4,pQ5,pQ6];go_wp2_with fail;refine ⟨fun h=>absurd h (by decide),?_⟩;refine Qai rfl ?_;simp only [Qaf,pQ1,pQ2,pQ3,pQ4,pQ5,pQ6];go_wp2_with fail;refine ⟨fun h=>absurd h (by decide),?_⟩;refine Qai rfl ?_;simp only [Qaf,pQ1,pQ2,pQ3,pQ4,pQ5,pQ6];have hb3:=(HG3.out.block b (lt_of_block HP2.out) (fun e=>Qeh HO2.out HP2.out e.symm)).trans HP2.out;have f3:=Qay hb3 2;have c3:=(Qaa hb3).2.2.1;clear hb3;go_wp2_with fail;refine ⟨fun h=>absurd h (by decide),Qbb ?_⟩;obtain ⟨hr,hlw⟩:=H1.out.grown HP2.out HT2.out HO2.out HG3.out HO3.out (by simp only [List.length_append,List.length_cons,List.length_nil];omega);have HR:=Za hr;have HL:=Za hlw;have hb9:=(HG3.out.block b (lt_of_block HP2.out) (fun e=>Qeh HO2.out HP2.out e.symm)).trans HP2.out;have c9:=(Qaa (heap_setCell_same _ _ 2 _ _ (.slice a2 (o++[(⟨k,n,s,p⟩:Nd)]).length c2) hb9)).2.2.1;have HF9:Hid (∀ Q,Q<w.heap.size->Q≠b->(∀ tv nv,w.heap[b]?=some (Qeg tv i nv F)->nv.ownBlock≠some Q)->(w2.setCell ⟨b,2,none⟩ (.slice a2 (o++[(⟨k,n,s,p⟩:Nd)]).length c2)).heap[Q]?=w.heap[Q]?):=Za (fun Q hQ hb hr=>(heap_setCell_other _ _ _ _ hb).trans ((HG3.out.block Q (Nat.lt_of_lt_of_le hQ HSZV.out) (fun e=>HFQ.out Q hr e.symm)).trans (HF1.out Q hQ)));clear c3 f3 hr hlw HG3 HO3 HP2 HT2 HO2 H1 HPP HNN HS2 hb9;obtain ⟨O,hO⟩:∃ O,o++[(⟨k,n,s,p⟩:Nd)]=O:=⟨_,rfl⟩;have hOl:O.length=o.length+1:=by rw [<- hO];simp
 rw [hO] at HR HL c9;rw [hOl] at HR HL c9;rw [hO,hOl] at HF9;have HO:=Za hO;clear hO hOl;generalize w2.setCell ⟨b,2,none⟩ (.slice a2 (o.length+1) c2)=W9 at *;go_wp2_with fail;go_ret;exact ⟨rfl,by rw [HO.out];exact HR.out,HB2.out.trans HL.out,HF9.out⟩
theorem QjL (r:List TokI):(Qa9 r).kind≠5/\((Qa9 r).kind=3->(Qa9 r).num=0)/\((Qa9 r).kind≠0->(Qa9 r).kind≠1->(Qa9 r).kind≠2->(Qa9 r).kind≠3->(Qa9 r).kind≠6->(Qa9 r).kind≠7->(Qa9 r).num=0/\(Qa9 r).str=[]/\Qft (Qa9 r).kind=true):=by
 cases r with
 | nil=>exact ⟨by decide,fun h=>rfl,fun h=>absurd rfl h⟩
 | cons t q =>
   unfold Qa9;simp only [];split
   ·simp
   split
   ·simp
   split
   ·split
    ·simp
    ·simp
   split
   ·cases hv:Qkn t.str with
    | some x =>
      obtain ⟨op,n⟩:=x;have hop:op=6\/op=7:=by
       rw [Qoj] at hv;split at hv
       ·injection hv with e;injection e with e1 _;exact .inl e1.symm
       ·split at hv
        ·injection hv with e;injection e with e1 _;exact .inr e1.symm
        ·cases hv
      simp only [];rcases hop with rfl|rfl
      ·simp
      ·simp
    | none =>
      simp only [];exact ⟨QeY 5 rfl (by decide),fun h=>absurd h (QeY 3 rfl (by decide)),fun h0 _ _ _ _ _=>⟨by trivial,by trivial,Qng h0⟩⟩
   ·simp
theorem Qr5:∀ n:Fin 100,∀ k∈(QaE (n.val:Int)).2,Qhv k=QaQ k:=by decide +kernel
theorem QvZ {k:UInt8} (h:(k==115)=false):((k.toNat:Int)==115)=false:=(Qao k 115).trans h
theorem Qvr : Qc4 [101] 1 := ⟨by decide, fun j h => by have : j = 0 := by simp at h; exact h
                                                       subst this; rfl,.inr (by decide),by decide⟩
theorem Qr6:Qc4 [101,83] 1:=⟨by decide,fun j h=>by
 match j,h with
 | 0,_=>rfl
 | 1,_=>rfl,.inr (by decide),by decide⟩
end
section
open Go.RowKit
attribute [local go_sem] ByteArray.mk_append_mk Qac Qad Qae
attribute [local go_sem] SameB.some SameB.all
set_option maxRecDepth 100000 in
theorem Qvs (m:Int) (B b:Nat) (L:List TokI) (sub:UInt8->List TokI->PR) (n:Nat) (kd:UInt8) (i:Nat) (hs:i<L.length->Qr1 m B b L sub n) (hg:∀ k r,PGood1 r (sub k r)) (hL1:L.length<=100000) (o:List Nd) (w:World)
  (h:RSt m B b w L i (-1) o) (hn:L.length-i<=n+1) (hk31:(Qa9 (L.drop i)).kind=31) :
  Calls Tryz.prog 98 #[.pointer (some ⟨b,0,none⟩),.int .u8 kd.toNat] w (QhF m B b L w o (QjK sub kd (L.drop i))):=by
 have HS:=Za hs;have HGD:=Za hg;have hL:L.length<=1000000:=by omega
 obtain ⟨X,hX⟩:∃ X,Hid (QjK sub kd (L.drop i)=X):=⟨_,Za rfl⟩;rw [hX.out];have HK31:=Za hk31;clear hk31;have hFC:=QjL (L.drop i);have hpos:=Qmz (L.drop i);have hsl:(Qa9 (L.drop i)).str.length<=65536:=QmA (h.good.drop i);have HIX:=Za h.ix;have HOL:=Za h.ol;have HEM:Hid (L.drop i=[]->(Qa9 (L.drop i)).kind=0):=Za (fun e=>by rw [e]<;>rfl);clear hs hg;have HLK:=Za (Qlj m (-1) B b i w L o h hL);have H0:=Za h;obtain ⟨⟨op,num,str,pos⟩,hx⟩:∃ x,Qa9 (L.drop i)=x:=⟨_,rfl⟩;have HXX:=Za hx;rw [hx] at HLK;unfold QbB at HLK;simp only at HLK;clear h hx;go_enter Tryz.func98,Tryz.ntmps98;go_wp2_with fail;((with_reducible refine HLK.out.mono ?_));rintro e w1 ⟨rfl,hb1⟩;have hal:Below w1.heap.size w1 (w1.alloc (Qaj op num str pos)):=Zb.alloc Zc _;have hg2:Below w.heap.size w (w1.alloc (Qaj op num str pos)):=Qah hb1 Zc hal;have H2:=Za (H0.out.below hg2);have HB2:Hid (Below B w (w1.alloc (Qaj op num str pos))):=Za (hg2.mono H0.out.size);have HG2:=Za hg2;have HQ2:=Za (heap_alloc_new w1 (Qaj op num str pos));have hbQ:b<w1.heap.size:=by
  obtain ⟨tv,nv,k1,_⟩:=(H0.out.below hb1).ex;exact lt_of_block k1
 have hwQ:w.heap.size<=w1.heap.size:=hb1.size;clear hb1 hal hg2 HLK;go_upto_region 1 with fail;generalize w1.alloc (Qaj op num str pos)=W2 at H2 HB2 HG2 HQ2 |-;generalize w1.heap.size=Q at HQ2 hbQ hwQ |-;go_cut [5] (fun z wx=>∃ nq,z = .bool (op==3&&atT 5 (L.drop (i+1)))/\wx=W2.drewN nq)
 case first =>
  obtain ⟨q0,q1,q2,q3⟩:=Qaa HQ2.out;obtain ⟨⟨tv,nv,h1,h2,h3⟩,h4,h5,h6,h7,h8,h9,ha,hc',hd'⟩:=H2.out;obtain ⟨c0,c1,c2,c3⟩:=Qaa h1;by_cases e3:op=3
  ·subst e3;cases hd:L.drop (i+1) with
   | nil =>
     obtain ⟨a,cap,rfl,hl,hc⟩:=h2;have hi1:¬ (i:Int)+1<(L.length:Int):=by
      have:=congrArg List.length hd;rw [List.length_drop] at this;simp only [List.length_nil] at this;omega
     have HD:=Za hd;clear hc h3 h6 h8 h1 hd h7 ha hc' hd';go_quiet (fail);go_wp2_with fail;go_meet;exact ⟨_,by rw [HD.out];simp [atT],rfl⟩
   | cons t q =>
     obtain ⟨g,off,cap,rfl,hgB,hi,t0,t1,t2,t3⟩:=h2.drop_cells hd;have hi1:(i:Int)+1<(L.length:Int):=by omega
     have HD:=Za hd;clear h3 h6 h8 h1 hd h7 h9 ha hc' hd' h2 hi;obtain ⟨tk,tn,ts,tp⟩:=t;simp only at t0;go_quiet (fail);go_wp2_with fail;go_meet;exact ⟨_,by rw [HD.out];simp [atT],rfl⟩
  ·have e3':(op==3)=false:=Zd e3;clear h3 h6 h8 h1 h7 h9 ha hc' hd' h2;go_quiet (fail);go_wp2_with fail;go_meet;exact ⟨_,by simp [e3'],rfl⟩
 case rest =>
 obtain ⟨nq,rfl,rfl⟩:=hcut;have H3:Hid (RSt m B b (W2.drewN nq) L i (-1) o):=Za (H2.out.below (below_drewN Zb _));have HB3:Hid (Below B w (W2.drewN nq)):=Za (below_drewN HB2.out _);have HG3:Hid (Below w.heap.size w (W2.drewN nq)):=Za (below_drewN HG2.out _);have HQ3:Hid ((W2.drewN nq).heap[Q]?=some (Qaj op num str pos)):=HQ2;obtain ⟨op2,hop2⟩:∃ z,(if (op==3&&(kd==83||(kd==101&&atT 5 (L.drop (i+1)))))=true then (5:Int) else op)=z:=⟨_,rfl⟩;have HOP2:=Za hop2;generalize W2.drewN nq=W3 at H3 HB3 HG3 HQ3 |-;obtain ⟨cl,hcl⟩:∃ z,atT 5 (L.drop (i+1))=z:=⟨_,rfl⟩;rw [hcl] at hop2 |-;clear H2 HB2 HG2 HQ2 hcl;have hk83:=Qao kd 83;have hk101:=Qao kd 101;obtain ⟨b83,hb83⟩:∃ z,(kd==83)=z:=⟨_,rfl⟩;obtain ⟨b101,hb101⟩:∃ z,(kd==101)=z:=⟨_,rfl⟩;obtain ⟨b3,hb3⟩:∃ z,(op==3)=z:=⟨_,rfl⟩;rw [hb83] at hk83 hop2;rw [hb101] at hk101 hop2;rw [hb3] at hop2 |-;have hk83':((kd.toNat:Int)==83)=b83:=hk83;have hk101':((kd.toNat:Int)==101)=b101:=hk101;clear hb83 hb101 hk83 hk101;obtain ⟨q0,q1,q2,q3⟩:=Qaa HQ3.out;have fq:=Qay HQ3.out 0;go_upto_region 2 with fail;go_cut [55] (fun z wx=>z = .bool (b3&&(b83||(b101&&(b3&&cl))))/\W3=wx)
 case first =>
  cases b3
  ·go_wp2_with fail;go_meet;exact ⟨by simp,rfl⟩
  ·cases b83
   ·cases b101
    ·go_wp2_with fail;go_meet;exact ⟨by simp,rfl⟩
    ·go_wp2_with fail;go_meet;exact ⟨by simp,rfl⟩
   ·go_wp2_with fail;go_meet;exact ⟨by simp,rfl⟩
 case rest =>
 obtain ⟨rfl,rfl⟩:=hcut;obtain ⟨W3,rfl⟩:∃ y:World,y=W3:=⟨_,rfl⟩;go_upto_if 55 with fail;go_cut [56] (fun z wx=>Hid (wx.heap[Q]?=some (Qaj op2 num str pos))/\Hid (Below w.heap.size w wx))
 case first =>
  have HS5:Hid ((W3.setCell ⟨Q,0,none⟩ (.int .i64 5)).heap[Q]?=some (Qaj 5 num str pos)):=Za (heap_setCell_same _ _ 0 _ _ _ HQ3.out);have HG5:Hid (Below w.heap.size w (W3.setCell ⟨Q,0,none⟩ (.int .i64 5))):=Za (HG3.out.setCell hwQ _);cases hcb:(b3&&(b83||(b101&&(b3&&cl)))) with
  | true =>
    have e2:op2=5:=by
     rw [<- hop2];refine if_pos ?_;revert hcb;cases b3<;>cases b83<;>cases b101<;>cases cl<;>decide
    have E2:=Za e2;clear e2;go_wp2_with fail;go_meet;rw [E2.out];exact ⟨HS5,HG5⟩
  | false =>
    have e2:op2=op:=by
     rw [<- hop2];refine if_neg ?_;revert hcb;cases b3<;>cases b83<;>cases b101<;>cases cl<;>decide
    have E2:=Za e2;clear e2;go_wp2_with fail;go_meet;rw [E2.out];exact ⟨HQ3,HG3⟩
 case rest =>
 obtain ⟨HQ5,HG5⟩:=hcut;obtain ⟨W5,rfl⟩:∃ y:World,y=wc:=⟨_,rfl⟩;have H5:Hid (RSt m B b W5 L i (-1) o):=Za (H0.out.below HG5.out);clear H3 HB3 HG3 HQ3 q0 q1 q2 q3 fq hop2 hb3 hk83' hk101';rw [HXX.out] at hFC hpos hsl HEM HK31;simp only at hFC hpos hsl HEM HK31;have HXN:Hid (X=if (op2==0||!Qar kd op2||(kd==115&&!Qa2 str))=true then .no (L.drop i)
  else if op2=5 then (if atT 5 (L.drop (i+1))=true then QeI sub str (L.drop (i+2)) else .no (L.drop (i+1)))
  else if op2=33 then (if atT 5 (L.drop (i+1))=true then QeL ⟨33,0,[],1⟩ (Qca sub [101] (L.drop (i+1))) else .ok (L.drop (i+1)) [⟨33,0,[],0⟩])
  else if op2=31 then (match Qca sub [101,83] (L.drop (i+1)) with
   | .no x=>.no x
   | .ok r1 n1=>if Qfk r1=true then (match QbC sub 83 r1.tail with|.no x=>.no x|.ok r2 n2=>.ok r2 (⟨31,0,[],3⟩::(n1++n2))) else .ok r1 (⟨31,0,[],2⟩::n1))
  else if op2=1\/op2=2\/op2=3\/op2=6\/op2=7\/op2=34\/op2=35 then .ok (L.drop (i+1)) [⟨op2,num,str,0⟩]
  else QeL ⟨op2,0,[],((QaE op2).2.length:Nat)⟩ (Qca sub (QaE op2).2 (L.drop (i+1)))):=Za (by
  rw [<- hX.out,<- HOP2.out];unfold QjK;rw [HXX.out,List.tail_drop,List.tail_drop]<;>rfl)
 have HO2:Hid ((op2=5/\op=3)\/(op2=op/\op≠5)):=Za (by
  rw [<- HOP2.out];by_cases hc:(op==3&&(kd==83||(kd==101&&atT 5 (L.drop (i+1)))))=true
  ·rw [if_pos hc];simp only [Bool.and_eq_true,beq_iff_eq] at hc;exact .inl ⟨rfl,hc.1⟩
  ·rw [if_neg hc];exact .inr ⟨rfl,hFC.1⟩)
 have HFC:=Za hFC;subst hpos;clear hFC HOP2 HXX;obtain ⟨q0,q1,q2,q3⟩:=Qaa HQ5.out;obtain ⟨rf,hrf⟩:∃ z,(op2==0||!Qar kd op2||(kd==115&&!Qa2 str))=z:=⟨_,rfl⟩;have HRF:=Za hrf;rw [hrf] at HXN;go_upto_region 4 with fail;go_cut [83] (fun z wx=>z = .bool rf/\W5=wx)
 case first =>
  obtain ⟨⟨tv,nv,k1,k2,k3⟩,_⟩:=H5.out;obtain ⟨c0,c1,c2,c3⟩:=Qaa k1;clear k1 k2 k3;cases h0:op2==0 with
  | true =>
    have e:rf=true:=by rw [<- hrf,h0];rfl
    subst e;go_wp2_with fail;go_meet;exact ⟨rfl,rfl⟩
  | false =>
    obtain ⟨ab,hab⟩:∃ z,Hid (Qar kd op2=z):=⟨_,Za rfl⟩;have HPER:=Za (fun w=>Qi5 kd op2 ab hab w);cases ab with
    | false =>
      have e:rf=true:=by rw [<- hrf,h0,hab.out];rfl
      subst e;clear hrf HRF;go_wp2_with fail;((with_reducible refine (HPER.out _).mono ?_));rintro e w6 ⟨rfl,rfl⟩;go_wp2_with fail;go_meet;exact ⟨rfl,rfl⟩
    | true =>
      cases hk:kd==115 with
      | false =>
        have e:rf=false:=by rw [<- hrf,h0,hab.out,hk];rfl
        subst e;have hks:=QvZ hk;clear hrf HRF;go_wp2_with fail;((with_reducible refine (HPER.out _).mono ?_));rintro e w6 ⟨rfl,rfl⟩;go_wp2_with fail;go_meet;exact ⟨rfl,rfl⟩
      | true =>
        have e:rf=!Qa2 str:=by rw [<- hrf,h0,hab.out,hk];rfl
        have hkd:kd=115:=beq_iff_eq.1 hk;subst hkd;obtain ⟨sb,hsb⟩:∃ z,Hid (Qa2 str=z):=⟨_,Za rfl⟩;have HSI:=Za (fun w=>Qh0 str sb hsb w (by omega));have HPER2:Hid (∀ w,Calls Tryz.prog 53 #[.int .u8 115,.int .i64 op2] w fun e w'=>e = .returned (.bool true)/\w=w'):=HPER;rw [hsb.out] at e;subst e;clear hrf HRF HPER;go_wp2_with fail;((with_reducible refine (HPER2.out _).mono ?_));rintro e w6 ⟨rfl,rfl⟩;go_wp2_with fail;((with_reducible refine (HSI.out _).mono ?_));rintro e w6 ⟨rfl,rfl⟩;go_wp2_with fail;go_meet;exact ⟨rfl,rfl⟩
 case rest =>
 obtain ⟨rfl,rfl⟩:=hcut;obtain ⟨W5,rfl⟩:∃ y:World,y=W5:=⟨_,rfl⟩;cases rf with
 | true =>
   have HX2:Hid (X = .no (L.drop i)):=Za (by rw [HXN.out,if_pos rfl]);have HFN:=Za (Qiz m B b i W5 L o H5.out);clear HXN;go_wp2_with fail;((with_reducible refine HFN.out.mono ?_));rintro e w6 ⟨rfl,hp6,hb6⟩;have HP6:=Za hp6;have HB6:Hid (Below B w w6):=Za ((HG5.out.mono H0.out.size).trans hb6);clear hp6 hb6;go_wp2_with fail;(try simp only [Exit.inBlock,Exit.then]);refine bodyPost_ret (results_none rfl _ _ _) rfl ?_;rw [HX2.out];exact ⟨rfl,HB6.out,_,_,_,rfl,HP6.out⟩
 | false =>
   have hrf2:=HRF.out;simp only [Bool.or_eq_false_iff,beq_eq_false_iff_ne,Bool.not_eq_false'] at hrf2;have h0:op2≠0:=hrf2.1.1;have hil:i<L.length:=by
    rcases Nat.lt_or_ge i L.length with h|h
    ·exact h
    ·exfalso;have e0:=HEM.out (List.drop_eq_nil_of_le h);rcases HO2.out with ⟨_,e3⟩|⟨e,_⟩
     ·omega
     ·exact h0 (e.trans e0)
   have HS2:=Za (HS.out hil);have HXB:Hid (X=if op2=5 then (if atT 5 (L.drop (i+1))=true then QeI sub str (L.drop (i+2)) else .no (L.drop (i+1)))
    else if op2=33 then (if atT 5 (L.drop (i+1))=true then QeL ⟨33,0,[],1⟩ (Qca sub [101] (L.drop (i+1))) else .ok (L.drop (i+1)) [⟨33,0,[],0⟩])
    else if op2=31 then (match Qca sub [101,83] (L.drop (i+1)) with
     | .no x=>.no x
     | .ok r1 n1=>if Qfk r1=true then (match QbC sub 83 r1.tail with|.no x=>.no x|.ok r2 n2=>.ok r2 (⟨31,0,[],3⟩::(n1++n2))) else .ok r1 (⟨31,0,[],2⟩::n1))
    else if op2=1\/op2=2\/op2=3\/op2=6\/op2=7\/op2=34\/op2=35 then .ok (L.drop (i+1)) [⟨op2,num,str,0⟩]
    else QeL ⟨op2,0,[],((QaE op2).2.length:Nat)⟩ (Qca sub (QaE op2).2 (L.drop (i+1)))):=Za (by rw [HXN.out,if_neg (by decide)])
   have HH0:=Za h0;clear HXN hrf hrf2 h0 HRF;have KEY:=Za (H5.out.setI (j:=i+1) (by omega) (by omega));rw [show ((i+1:Nat):Int)=(i:Int)+1 by omega] at KEY;obtain ⟨⟨tv,nv,k1,k2,k3⟩,_⟩:=H5.out;obtain ⟨c0,c1,c2,c3⟩:=Qaa k1;have f1:=Qay k1 1;have HQ6:Hid ((W5.setCell ⟨b,1,none⟩ (.int .i64 ((i:Int)+1))).heap[Q]?=some (Qaj op2 num str 0)):=Za (QbF HQ5.out _ _ (by show Q≠b;omega));have HB6:Hid (Below B w (W5.setCell ⟨b,1,none⟩ (.int .i64 ((i:Int)+1)))):=Za ((HG5.out.mono H0.out.size).setCell H0.out.base _);have hownQ:∀ tv nv,(W5.setCell ⟨b,1,none⟩ (.int .i64 ((i:Int)+1))).heap[b]?=some (Qeg tv (i+1:Nat) nv (-1))->nv.ownBlock≠some Q:=by
    intro tv2 nv2 hk2 e;obtain ⟨tv0,nv0,j1,j2,j3⟩:=H0.out.ex;have j4:=Qab j1 HG5.out;have j5:=heap_setCell_same _ _ 1 _ _ (.int .i64 ((i:Int)+1)) j4;rw [j5] at hk2;injection hk2 with hk2;injection hk2 with hk2 _ _;have:nv0=nv2:=by
     have:=congrArg (fun a:Array Value=>a.getD 2 undef) hk2;simpa using this
    subst this;have:=QhG j3 e;omega
   clear k1 k2 k3;go_upto_region 7 with fail;generalize W5.setCell ⟨b,1,none⟩ (.int .i64 ((i:Int)+1))=W6 at KEY HQ6 HB6 hownQ |-;clear c0 c1 c2 c3 f1 q0 q1 q2 q3;have HAD:=Za (Qoy m (-1) B b (i+1) op2 num 0 str W6 L o KEY.out (by have:=HOL.out;omega) (by have:=HOL.out;omega));unfold QbB at HAD;have hQ6:Q<W6.heap.size:=lt_of_block HQ6.out;obtain ⟨q0,q1,q2,q3⟩:=Qaa HQ6.out;go_wp2_with fail;((with_reducible refine HAD.out.mono ?_));rintro e w7 ⟨rfl,hp7,hb7,hfr⟩;have HP7:=Za hp7;have HB7:Hid (Below B w w7):=Za (HB6.out.trans hb7);have HQ7:=Za ((hfr Q hQ6 (by omega) hownQ).trans HQ6.out);clear hp7 hb7 hfr HAD q0 q1 q2 q3 hQ6 hownQ KEY HQ6 HB6 HQ5 HG5;obtain ⟨q0,q1,q2,q3⟩:=Qaa HQ7.out;by_cases h5:op2=5
   ·exfalso;rcases HO2.out with ⟨_,e⟩|⟨e,_⟩<;>(have:=HK31.out;omega)
   have e5:(op2==5)=false:=Zd h5;have hopo:op2=op:=by
    rcases HO2.out with ⟨e,_⟩|⟨e,_⟩
    ·exact absurd e h5
    ·exact e
   by_cases h33:op2=33
   ·exfalso;rcases HO2.out with ⟨_,e⟩|⟨e,_⟩<;>(have:=HK31.out;omega)
   have e33:(op2==33)=false:=Zd h33;by_cases h31:op2=31
   ·obtain ⟨hn0,hs0,_⟩:=HFC.out.2.2 (by omega) (by omega) (by omega) (by omega) (by omega) (by omega);subst hn0 hs0;clear hopo;subst h31;have HXC:Hid (X=match Qca sub [101,83] (L.drop (i+1)) with
     | .no x=>.no x
     | .ok r1 n1=>if Qfk r1=true then (match QbC sub 83 r1.tail with|.no x=>.no x|.ok r2 n2=>.ok r2 (⟨31,0,[],3⟩::(n1++n2))) else .ok r1 (⟨31,0,[],2⟩::n1)):=Za (by rw [HXB.out,if_neg (by decide),if_neg (by decide),if_pos rfl])
    have HCH:=Za (QeX m B b L sub n HS2.out HGD.out hL1 [101,83] 1 Qr6 (by simp) (by decide) 31 0 0 [] (i+1) o w7 HP7.out (by omega));have hgo:=QiS HGD.out [101,83] (L.drop i) 1 (by rw [List.length_drop];omega) Zc;rw [List.drop_drop] at hgo;clear HXB h5 h33;cases ho:Qca sub [101,83] (L.drop (i+1)) with
    | no x =>
      rw [ho] at HXC HCH;have HX2:Hid (X = .no x):=HXC;clear ho hgo;go_wp2_with fail;((with_reducible refine HCH.out.mono ?_));rintro e w8 ⟨rfl,hb8,i8,j8,o8,rfl,hp8⟩;have HB8:Hid (Below B w w8):=Za (HB7.out.trans hb8);have HP8:=Za hp8;clear hb8 hp8 HCH q0 q1 q2 q3;obtain ⟨⟨tv,nv,k1,k2,k3⟩,_⟩:=HP8.out;obtain ⟨c0,c1,c2,c3⟩:=Qaa k1;obtain ⟨Fv,hFv⟩:∃ Fv:Int,(j8:Int)=Fv:=⟨_,rfl⟩;have hF3:decide (Fv<0)=false:=decide_eq_false (by omega);rw [hFv] at c3;clear k1 k2 k3 hFv;go_upto_region 25 with fail;have k3:∀ x,Grows w8 x->x.cell? ⟨b,3,none⟩=some _:=fun x hx=>(hx.cell (p:=⟨b,3,none⟩) (World.block_lt_of_cell? _ ⟨b,3,none⟩ c3)).trans c3;clear c0 c1 c2 c3;refine QaI (Grows w8) 24 [.reads [0,1,2,3,4,5,6],.act 7,.reads [8,9,10,11,12,13,14,15,16,17,18,19,20,21,22,23]] (by kernel_rfl) (by kernel_rfl) (by kernel_rfl) (by kernel_rfl) (by kernel_rfl) (fun _ _ d _ _ h=>by cases d<;>exact h) (Grows.self _) ?_;refine Qas ?_;simp only [Qaf,pQ1,pQ2,pQ3,pQ4,pQ5,pQ6]
      repeat (go_big_quiet_step ((intro hb;rw [k3 _ hb];exact ⟨rfl,rfl⟩)))
      (try simp only [hF3])
      repeat (go_big_quiet_step (fail))
      refine wpQuiet_nil ?_;clear k3;refine Qai rfl ?_;simp only [Qaf,pQ1,pQ2,pQ3,pQ4,pQ5,pQ6];go_wp2_with fail;refine ⟨fun _=>Grows.self _,?_⟩;refine Qas ?_;simp only [Qaf,pQ1,pQ2,pQ3,pQ4,pQ5,pQ6]
      repeat (go_big_quiet_step (fail))
      refine wpQuiet_nil ?_;refine Qbb ?_;go_wp2_with fail;go_end0;rw [HX2.out];exact ⟨rfl,below_drewN HB8.out 1,_,_,_,rfl,HP8.out.below (below_drewN Zb 1)⟩
    | ok r1 n1 =>
      rw [ho] at HXC HCH hgo;obtain ⟨kg,hk1,hk2,hk3,hk4⟩:=hgo;have HK3:=Za hk3;have HXD:Hid (X=if Qfk r1=true then (match QbC sub 83 r1.tail with|.no x=>.no x|.ok r2 n2=>.ok r2 (⟨31,0,[],3⟩::(n1++n2))) else .ok r1 (⟨31,0,[],2⟩::n1)):=HXC;clear ho hk3 hk4;go_wp2_with fail;((with_reducible refine HCH.out.mono ?_));rintro e w8 ⟨rfl,hb8,i8,rfl,hp8⟩;have hii8:i<i8:=Qcv hp8.ix rfl HK3.out hk1 hk2;clear hk1 hk2 HK3;have HB8:Hid (Below B w w8):=Za (HB7.out.trans hb8);have HP8:Hid (RSt m B b w8 L i8 (-1) (o++⟨31,0,[],2⟩::n1)):=Za hp8;clear hb8 hp8 HCH q0 q1 q2 q3 HXC;go_upto_region 25 with fail;go_cut [158] (fun z wx=>z = .bool (Qfk (L.drop i8))/\Hid (Below w8.heap.size w8 wx))
      case first =>
       have HKK:=Za (fun (x:World) (hx:Grows w8 x)=>Qfs m (-1) B b i8 x L _ (HP8.out.below hx) (by omega));obtain ⟨⟨tv,nv,h1,h2,h3⟩,_⟩:=HP8.out;obtain ⟨c0,c1,c2,c3⟩:=Qaa h1;have k3:∀ x,Grows w8 x->x.cell? ⟨b,3,none⟩=some _:=fun x hx=>(hx.cell (p:=⟨b,3,none⟩) (World.block_lt_of_cell? _ ⟨b,3,none⟩ c3)).trans c3;obtain ⟨z,hz0⟩:∃ z,QeN (L.drop i8)=z:=⟨_,rfl⟩;rw [hz0] at HKK;by_cases hz2:z=2
       ·subst hz2;obtain ⟨t,q,hd⟩:∃ t q,L.drop i8=t::q:=by
         cases hd:L.drop i8 with
         | nil=>rw [hd] at hz0;cases hz0
         | cons t q=>exact ⟨t,q,rfl⟩
        obtain ⟨g,off,cap,rfl,hgB,hi,t0,t1,t2,t3⟩:=h2.drop_cells hd;have hi2:(i8:Int)<(L.length:Int):=by omega
        obtain ⟨tk,tn,ts,tp⟩:=t;rw [hd] at hz0;have htk:tk=2:=hz0;subst htk;have HEL2:Hid (Qfk (L.drop i8)=(ts==[69,108,115,101])):=Za (by rw [hd]<;>rfl);simp only at t2;have k0:∀ x,Grows w8 x->x.cell? ⟨b,0,none⟩=some _:=fun x hx=>(hx.cell (p:=⟨b,0,none⟩) (World.block_lt_of_cell? _ ⟨b,0,none⟩ c0)).trans c0;have k1:∀ x,Grows w8 x->x.cell? ⟨b,1,none⟩=some _:=fun x hx=>(hx.cell (p:=⟨b,1,none⟩) (World.block_lt_of_cell? _ ⟨b,1,none⟩ c1)).trans c1;have q2:∀ x,Grows w8 x->x.cell? ⟨g,off+i8 * 4+2,none⟩=some _:=fun x hx=>(hx.cell (p:=⟨g,off+i8 * 4+2,none⟩) (World.block_lt_of_cell? _ ⟨g,off+i8 * 4+2,none⟩ t2)).trans t2;obtain ⟨eb,heb⟩:∃ z,(ts==[69,108,115,101])=z:=⟨_,rfl⟩;rw [heb] at HEL2;clear h1 h3 hd c0 c1 c2 c3 t0 t1 t2 t3 h2 hi hz0;refine QaI (Grows w8) 24 [.reads [0,1,2,3,4,5,6],.act 7,.reads [8,9,10,11,12,13,14,15,16,17,18,19,20,21,22,23]] (by kernel_rfl) (by kernel_rfl) (by kernel_rfl) (by kernel_rfl) (by kernel_rfl) (fun _ _ d _ _ h=>by cases d<;>exact h) (Grows.self _) ?_;refine Qas ?_;simp only [Qaf,pQ1,pQ2,pQ3,pQ4,pQ5,pQ6]
        repeat (go_big_quiet_step ((intro hb;rw [k3 _ hb];exact ⟨rfl,rfl⟩)))
        refine wpQuiet_nil ?_;refine Qai rfl ?_;simp only [Qaf,pQ1,pQ2,pQ3,pQ4,pQ5,pQ6];go_wp2_with fail;((with_reducible refine (HKK.out _ (Grows.self _)).mono ?_));rintro e w9 ⟨rfl,q9,rfl⟩;go_wp2_with fail;refine ⟨fun _=>below_drewN Zb _,?_⟩;refine Qas ?_;simp only [Qaf,pQ1,pQ2,pQ3,pQ4,pQ5,pQ6]
        repeat (go_big_quiet_step (first|(intro hb;rw [k0 _ hb];exact ⟨rfl,rfl⟩)|(intro hb;rw [k1 _ hb];exact ⟨rfl,rfl⟩)|(intro hb;rw [q2 _ hb];exact ⟨rfl,rfl⟩)))
        refine wpQuiet_nil ?_;refine Qbb ?_;go_wp2_with fail;go_meet;exact ⟨by rw [HEL2.out],Za (below_drewN Zb _)⟩
       ·have hz:(z==2)=false:=Zd hz2;have HEL2:Hid (Qfk (L.drop i8)=false):=Za (by
         cases hd:L.drop i8 with
         | nil=>rfl
         | cons t q =>
           rw [hd] at hz0;have e:(t.kind==2)=false:=by rw [show t.kind=z from hz0];exact hz
           show (t.kind==2&&t.str==[69,108,115,101])=false;rw [e]<;>rfl)
        clear h1 h2 h3 c0 c1 c2 c3 hz0 hz2;refine QaI (Grows w8) 24 [.reads [0,1,2,3,4,5,6],.act 7,.reads [8,9,10,11,12,13,14,15,16,17,18,19,20,21,22,23]] (by kernel_rfl) (by kernel_rfl) (by kernel_rfl) (by kernel_rfl) (by kernel_rfl) (fun _ _ d _ _ h=>by cases d<;>exact h) (Grows.self _) ?_;refine Qas ?_;simp only [Qaf,pQ1,pQ2,pQ3,pQ4,pQ5,pQ6]
        repeat (go_big_quiet_step ((intro hb;rw [k3 _ hb];exact ⟨rfl,rfl⟩)))
        refine wpQuiet_nil ?_;refine Qai rfl ?_;simp only [Qaf,pQ1,pQ2,pQ3,pQ4,pQ5,pQ6];go_wp2_with fail;((with_reducible refine (HKK.out _ (Grows.self _)).mono ?_));rintro e w9 ⟨rfl,q9,rfl⟩;go_wp2_with fail;refine ⟨fun _=>below_drewN Zb _,?_⟩;refine Qas ?_;simp only [Qaf,pQ1,pQ2,pQ3,pQ4,pQ5,pQ6]
        repeat (go_big_quiet_step (fail))
        refine wpQuiet_nil ?_;refine Qbb ?_;go_wp2_with fail;go_meet;exact ⟨by rw [HEL2.out],Za (below_drewN Zb _)⟩
      case rest =>
      obtain ⟨rfl,HG9⟩:=hcut;obtain ⟨w9,rfl⟩:∃ y:World,y=wc:=⟨_,rfl⟩;have HP9:=Za (HP8.out.below HG9.out);have HB9:Hid (Below B w w9):=Za (HB8.out.trans (HG9.out.mono HP8.out.size));clear HP8 HB8 HG9;cases he:Qfk (L.drop i8) with
      | false =>
        rw [he] at HXD;have HX2:Hid (X = .ok (L.drop i8) (⟨31,0,[],2⟩::n1)):=Za (by rw [HXD.out,if_neg (by decide)]);go_wp2_with fail;go_end0;rw [HX2.out];exact ⟨rfl,HB9.out,_,rfl,HP9.out⟩
      | true =>
        rw [he,if_pos rfl,List.tail_drop] at HXD;have hi8:i8<L.length:=by
         rcases Nat.lt_or_ge i8 L.length with h|h
         ·exact h
         ·rw [List.drop_eq_nil_of_le h] at he;cases he
        have KEY:=Za (HP9.out.setI (j:=i8+1) (by omega) (by omega));rw [show ((i8+1:Nat):Int)=(i8:Int)+1 by omega] at KEY;have HBK:Hid (Below B w (w9.setCell ⟨b,1,none⟩ (.int .i64 ((i8:Int)+1)))):=Za (HB9.out.setCell HP9.out.base _);obtain ⟨⟨tv,nv,k1,k2,k3⟩,_⟩:=HP9.out;obtain ⟨c0,c1,c2,c3⟩:=Qaa k1;have f1:=Qay k1 1;clear k1 k2 k3 he;go_upto_region 27 with fail;generalize w9.setCell ⟨b,1,none⟩ (.int .i64 ((i8:Int)+1))=W10 at KEY HBK |-;clear c0 c1 c2 c3 f1;obtain ⟨tv,g,c,k1,k2,k3,k4⟩:=KEY.out.kids;have HU:=Za (k4 3);obtain ⟨c0,c1,c2,c3⟩:=Qaa k1;obtain ⟨LL,hLL⟩:∃ z,(o++(⟨31,0,[],2⟩:Nd)::n1).length=z:=⟨_,rfl⟩;have hLo:o.length<LL:=by rw [<- hLL];simp
        have hLo':(o.length:Int)<(LL:Int):=by omega
        rw [hLL] at c2;have hol8:=HOL.out;clear k1 k4 hLL;go_upto_region 28 with fail;have HP11:=Za HU.out.1;have HB11:Hid (Below B w (W10.setCell ⟨g,o.length * 4+3,none⟩ (.int .i64 3))):=Za (HBK.out.trans HU.out.2);generalize W10.setCell ⟨g,o.length * 4+3,none⟩ (.int .i64 3)=W11 at HP11 HB11 |-;clear c0 c1 c2 c3 k2 k3 HU hLo hLo';have HBL:Hid (Calls Tryz.prog 145 #[.pointer (some ⟨b,0,none⟩),.int .u8 83] W11 (QhF m B b L W11 (o++⟨31,0,[],3⟩::n1) (QbC sub 83 (L.drop (i8+1))))):=Za (Qll m B b L sub n HS2.out HGD.out hL1 83 (i8+1) _ W11 HP11.out (by omega));cases hbp:QbC sub 83 (L.drop (i8+1)) with
        | no x =>
          rw [hbp] at HXD HBL;have HX2:Hid (X = .no x):=HXD;clear hbp;go_wp2_with fail;((with_reducible refine HBL.out.mono ?_));rintro e w12 ⟨rfl,hb12,i12,j12,o12,rfl,hp12⟩;have HB12:Hid (Below B w w12):=Za (HB11.out.trans hb12);have HP12:=Za hp12;clear hb12 hp12;go_wp2_with fail;go_end0;rw [HX2.out];exact ⟨rfl,HB12.out,_,_,_,rfl,HP12.out⟩
        | ok r2 n2 =>
          rw [hbp] at HXD HBL;have HX2:Hid (X = .ok r2 (⟨31,0,[],3⟩::(n1++n2))):=HXD;clear hbp;go_wp2_with fail;((with_reducible refine HBL.out.mono ?_));rintro e w12 ⟨rfl,hb12,i12,rfl,hp12⟩;rw [List.append_assoc,List.cons_append] at hp12;have HB12:Hid (Below B w w12):=Za (HB11.out.trans hb12);have HP12:=Za hp12;clear hb12 hp12;go_wp2_with fail;go_end0;rw [HX2.out];exact ⟨rfl,HB12.out,_,rfl,HP12.out⟩
   have e31:(op2==31)=false:=Zd h31;by_cases hlf:op2=1\/op2=2\/op2=3\/op2=6\/op2=7\/op2=34\/op2=35
   ·exfalso;rcases HO2.out with ⟨_,e⟩|⟨e,_⟩<;>(have:=HK31.out;omega)
   ·exfalso;rcases HO2.out with ⟨_,e⟩|⟨e,_⟩<;>(have:=HK31.out;omega)
end
end Go.Proofs.YtoohondkpddmcaaGreatDoor
