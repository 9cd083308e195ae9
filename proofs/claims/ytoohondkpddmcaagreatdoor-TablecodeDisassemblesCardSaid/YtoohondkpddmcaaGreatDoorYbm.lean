/- Rg Rj Rk Rl -/
import Derived.Test.YtoohondkpddmcaaGreatDoorYzz
import Derived.Test.YtoohondkpddmcaaGreatDoorYaz
import Derived.Test.YtoohondkpddmcaaGreatDoorYba
namespace Go.Proofs.YtoohondkpddmcaaGreatDoor
set_option maxHeartbeats 32000000
set_option linter.unusedVariables false
set_option linter.unusedSimpArgs false
section
open Go.RowKit
attribute [local go_sem] ByteArray.mk_append_mk Qah Qai Qag
theorem RSt.kids {m F:Int} {B b i:Nat} {w:World} {L:List TokI} {o ns:List Nd} {a n:Int} {s:List UInt8} {p:Int} (h:RSt m B b w L i F (o++⟨a,n,s,p⟩::ns)) :
  ∃ tv g c,w.heap[b]?=some (Qd4 tv i (.slice (some ⟨g,0,none⟩) (o++⟨a,n,s,p⟩::ns).length c) F)/\w.cell? ⟨g,o.length * 4+3,none⟩=some (.int .i64 p)/\w.frozen? ⟨g,o.length * 4+3,none⟩=false /\
    ∀ u:Int,RSt m B b (w.setCell ⟨g,o.length * 4+3,none⟩ (.int .i64 u)) L i F (o++⟨a,n,s,u⟩::ns)/\Below B w (w.setCell ⟨g,o.length * 4+3,none⟩ (.int .i64 u)):=by
 obtain ⟨⟨tv,nv,h1,h2,h3⟩,h4,h5,h6,h7,h8,h9,ha,hc,hd⟩:=h;have hne:=Qd5 h3 h1;obtain ⟨g,c,hnv,hB⟩:∃ g c,nv = .slice (some ⟨g,0,none⟩) (o++⟨a,n,s,p⟩::ns).length c/\B<=g:=by
  rcases h3.2 with ⟨_,h0⟩|⟨g,cap,cur,e,hb,_⟩
  ·simp at h0
  ·exact ⟨g,cap,e,hb⟩
 subst hnv;refine ⟨tv,g,c,h1,?_,World.ownsRow.frozenAt h3 _,fun u=>?_⟩
 ·rw [World.ownsRow.cellAt h3 _ (by simp;omega)];exact Qjt o ns a n s p
 ·obtain ⟨k1,k2⟩:=World.ownsRow.stored h3 (o.length * 4+3) (.int .i64 u);rw [Qlt] at k1;have hL:(o++⟨a,n,s,p⟩::ns).length=(o++(⟨a,n,s,u⟩:Nd)::ns).length:=by simp
  have hb:Below B w (w.setCell ⟨g,o.length * 4+3,none⟩ (.int .i64 u)):=Zb.setCell hB _;rw [hL] at k1 h1 hd;refine ⟨⟨⟨tv,_,QbB h1 _ _ (fun e=>hne (by simp [Value.ownBlock,e])),h2.below hb,k1⟩,h4,Nat.le_trans h5 hb.size,h6.below hb h7,h7,h8,h9,ha,hc,hd⟩,hb⟩
def Qgb (w:World) (b:Nat):Nat:=match w.cell? ⟨b,3,none⟩,w.cell? ⟨b,0,none⟩,w.cell? ⟨b,1,none⟩ with
 | some (.int _ F),some (.slice _ n _),some (.int _ i)=>if 0<=F then 0 else 1+(n-i.toNat)
 | _,_,_=>0
theorem RSt.left {m F:Int} {B b i:Nat} {w:World} {L:List TokI} {o:List Nd} (h:RSt m B b w L i F o):Qgb w b=if 0<=F then 0 else 1+(L.length-i):=by
 obtain ⟨tv,nv,h1,⟨a,cap,rfl,_⟩,h3⟩:=h.ex;unfold Qgb;obtain ⟨c0,c1,c2,c3⟩:=Qac h1;rw [c0,c1,c3];simp only [Int.toNat_natCast]
def Qgc (m:Int) (B b:Nat) (L:List TokI) (w:World) (o:List Nd) (x:PR) (e:Ending) (w':World):Prop :=
 e = .returned (.tuple #[])/\Below B w w'/\match x with
 | .no y=>∃ (i j:Nat) (o':List Nd),y=L.drop j/\RSt m B b w' L i j o'
 | .ok y ns=>∃ i:Nat,y=L.drop i/\RSt m B b w' L i (-1) (o++ns)
def Qqi (m:Int) (B b:Nat) (L:List TokI) (sub:UInt8->List TokI->PR) (n:Nat):Prop :=
 ∀ (k:UInt8) (i:Nat) (o:List Nd) (w:World),RSt m B b w L i (-1) o->L.length-i<=n ->
   Calls Tryz.prog 98 #[.pointer (some ⟨b,0,none⟩),.int .u8 k.toNat] w (Qgc m B b L w o (sub k (L.drop i)))
section
variable (sub:UInt8->List TokI->PR)
def QeT (text:List UInt8) (m:Nat) (ns:List Nd) (r:List TokI):PR :=
 if atT 6 r=true then .ok r.tail (⟨5,0,text,m⟩::ns)
 else if m=0 then Qfi sub text 7 0 ns r
 else if m=7\/atT 9 r=false then .no r
 else Qfi sub text (7-m) m ns r.tail
theorem QmG (text:List UInt8) (r:List TokI):QeT sub text 0 [] r=Qel sub text r:=by
 unfold QeT Qel;rw [if_pos rfl];rfl
theorem QjU (text:List UInt8) (m:Nat) (hm:m<7) (ns:List Nd) (r:List TokI):Qfi sub text (7-m) m ns r=match sub 101 r with
  | .no x=>.no x
  | .ok r1 n1=>QeT sub text (m+1) (ns++n1) r1:=by
 obtain ⟨f,hf⟩:∃ f,7-m=f+1:=⟨6-m,by omega⟩;rw [hf,Qfi];cases sub 101 r with
 | no x=>rfl
 | ok r1 n1 =>
   simp only [];unfold QeT;rw [if_neg (show ¬ m+1=0 by omega)];by_cases h6:atT 6 r1=true
   ·have h9:atT 9 r1=false:=by
     cases r1 with
     | nil=>rfl
     | cons t q =>
       have e:t.kind=6:=by simpa [atT] using h6
       simp [atT,e]
    rw [if_pos (.inr h9),if_pos h6,if_pos h6]
   ·rw [if_neg h6,if_neg h6];by_cases h:m+1=7\/atT 9 r1=false
    ·rw [if_pos h,if_pos h]
    ·rw [if_neg h,if_neg h,show 7-(m+1)=f by omega]
end
end
section
open Go.RowKit
attribute [local go_sem] ByteArray.mk_append_mk Qah Qai Qag
def Qa1:List TokI->Nd
 | []=>⟨0,0,[],0⟩
 | t::_=>if t.kind=3 then ⟨1,t.num,[],0⟩ else if t.kind=4 then ⟨2,0,t.str,0⟩
   else if t.kind=1 then (if QaW t.str=true then ⟨3,0,t.str,0⟩ else ⟨0,0,[],0⟩)
   else if t.kind=2 then (match QiS t.str with|some (op,n)=>⟨op,n,[],0⟩|none=>⟨opW t.str,0,[],0⟩)
   else ⟨0,0,[],0⟩
theorem QvL {w:World} {p:Nat} {o:Obj} (h:w.heap[p]?=some o) (b:Nat) (hb:p≠b) (a0 a1 a2 a3:Value):((((w.setCell ⟨b,0,none⟩ a0).setCell ⟨b,1,none⟩ a1).setCell ⟨b,2,none⟩ a2).setCell ⟨b,3,none⟩ a3).heap[p]?=some o :=
 QbB (QbB (QbB (QbB h _ _ hb) _ _ hb) _ _ hb) _ _ hb
theorem Qc1 (tmps:Array Value) (w:World) (b:Nat) (c0 c1 c2 c3:Value) (h2:tmps.getD 2 undef = .pointer (some ⟨b,0,none⟩)) (hb:w.heap[b]?=some (.cells #[c0,c1,c2,c3] 46 (0,0))) :
  (results Tryz.f138 tmps).run Tryz.prog w = .ok (.agg #[c0,c1,c2,c3]) w:=by
 obtain ⟨e0,e1,e2,e3⟩:=Qac hb;have h2':tmps[2]?.getD undef = .pointer (some ⟨b,0,none⟩):=by rw [<- h2];simp
 simp [results];go_simp
set_option maxRecDepth 100000 in
theorem QjV (m F:Int) (B b i:Nat) (w:World) (L:List TokI) (o:List Nd) (h:RSt m B b w L i F o) (hL:L.length<=1000000) :
  Calls Tryz.prog 138 #[.pointer (some ⟨b,0,none⟩)] w fun e w'=>e = .returned (Qbz (Qa1 (L.drop i)).kind (Qa1 (L.drop i)).num (Qa1 (L.drop i)).str (Qa1 (L.drop i)).pos)/\Below w.heap.size w w':=by
 obtain ⟨X,hX⟩:∃ X,Hid (Qa1 (L.drop i)=X):=⟨_,Za rfl⟩;rw [hX.out];have HB0:Hid (Below w.heap.size w (w.alloc (Qae 0 0 [] 0))):=Za (Zb.alloc Zc _);have HE0:Hid ((w.alloc (Qae 0 0 [] 0)).heap[w.heap.size]?=some (Qae 0 0 [] 0)):=Za (heap_alloc_new _ _);have H0:=Za (h.alloc (Qae 0 0 [] 0));obtain ⟨P,hP⟩:∃ P,w.heap.size=P:=⟨_,rfl⟩;have HPE:=Za hP;have hgood:=h.good;clear h;unfold Qbz;go_enter Tryz.func138,Tryz.ntmps138;go_upto_region 1 with fail;(try simp only [hP]);rw [hP] at HB0 HE0;generalize w.alloc (Qae 0 0 [] 0)=W0 at *;clear hP;have hszP:P<W0.heap.size:=lt_of_block HE0.out;cases hd:L.drop i with
 | nil =>
   obtain ⟨⟨tv,nv,h1,⟨a,cap,rfl,hl,hc⟩,h3⟩,h4,h5,h6,h7,h8,h9,ha,hc',hd'⟩:=H0.out;have HX:Hid (X=⟨0,0,[],0⟩):=Za (by rw [<- hX.out,hd]<;>rfl);have hi:(i:Int)>=(L.length:Int):=by
    have:=congrArg List.length hd;rw [List.length_drop] at this;simp only [List.length_nil] at this;omega
   obtain ⟨c0,c1,c2,c3⟩:=Qac h1;clear hc h3 h6 h8 h1 hd h7 hX hgood hd' hc' H0;obtain ⟨p0,p1,p2,p3⟩:=Qac HE0.out;have f0:=Qam HE0.out 0;have f1:=Qam HE0.out 1;have f2:=Qam HE0.out 2;have f3:=Qam HE0.out 3;go_quiet (fail);go_wp2_with fail;exact bodyPost_ret (Qc1 _ _ _ _ _ _ _ rfl (Qik (QoV HE0.out _) _ _ _ _)) rfl ⟨by rw [HX.out],by rw [HPE.out];exact Qil (below_drewN HB0.out _) Zc _ _ _ _⟩
 | cons t q =>
   obtain ⟨⟨tv,nv,h1,h2,h3⟩,h4,h5,h6,h7,h8,h9,ha,hc',hd'⟩:=H0.out;obtain ⟨g,off,cap,rfl,hgB,hi,t0,t1,t2,t3⟩:=h2.drop_cells hd;have hgt:=hgood t (List.mem_of_mem_drop (by rw [hd];exact List.mem_cons_self ..));have HX0:Hid (X=Qa1 (t::q)):=Za (by rw [<- hX.out,hd]);obtain ⟨c0,c1,c2,c3⟩:=Qac h1;have hi1:¬ (i:Int)>=(L.length:Int):=by omega
   have hi2:(i:Int)<(L.length:Int):=by omega
   clear h3 h6 h8 h1 hd h7 h2 hX hgood hd' hc' h9 H0 ha;obtain ⟨tk,tn,ts,tp⟩:=t;simp only at t0 t1 t2 t3 hgt;have HTS:=Za hgt.1;go_quiet (fail);go_upto_region 3 with fail;have b0:=Za c0;have b1:=Za c1;have HD1:Hid (Below P w (W0.drewN nq)):=Za (below_drewN HB0.out _);have HE1:Hid ((W0.drewN nq).heap[P]?=some (Qae 0 0 [] 0)):=Za HE0.out;have k0:∀ x,Grows (W0.drewN nq) x->x.cell? ⟨b,0,none⟩=some _:=fun x hx=>(hx.cell (p:=⟨b,0,none⟩) (World.block_lt_of_cell? _ ⟨b,0,none⟩ c0)).trans c0;have k1:∀ x,Grows (W0.drewN nq) x->x.cell? ⟨b,1,none⟩=some _:=fun x hx=>(hx.cell (p:=⟨b,1,none⟩) (World.block_lt_of_cell? _ ⟨b,1,none⟩ c1)).trans c1;have q0:∀ x,Grows (W0.drewN nq) x->x.cell? ⟨g,off+i * 4,none⟩=some _:=fun x hx=>(hx.cell (p:=⟨g,off+i * 4,none⟩) (World.block_lt_of_cell? _ ⟨g,off+i * 4,none⟩ t0)).trans t0;have q1:∀ x,Grows (W0.drewN nq) x->x.cell? ⟨g,off+i * 4+1,none⟩=some _:=fun x hx=>(hx.cell (p:=⟨g,off+i * 4+1,none⟩) (World.block_lt_of_cell? _ ⟨g,off+i * 4+1,none⟩ t1)).trans t1;have q2:∀ x,Grows (W0.drewN nq) x->x.cell? ⟨g,off+i * 4+2,none⟩=some _:=fun x hx=>(hx.cell (p:=⟨g,off+i * 4+2,none⟩) (World.block_lt_of_cell? _ ⟨g,off+i * 4+2,none⟩ t2)).trans t2;have q3:∀ x,Grows (W0.drewN nq) x->x.cell? ⟨g,off+i * 4+3,none⟩=some _:=fun x hx=>(hx.cell (p:=⟨g,off+i * 4+3,none⟩) (World.block_lt_of_cell? _ ⟨g,off+i * 4+3,none⟩ t3)).trans t3;generalize W0.drewN nq=W at *;refine Qak (Grows W) 11 [.reads [0,1,2,3,4,5,6,7,8,9],.act 10,.act 11] (by kernel_rfl) (by kernel_rfl) (by kernel_rfl) (by kernel_rfl) (by kernel_rfl) (fun _ _ d _ _ h=>by cases d<;>exact h) (Grows.self _) ?_;refine Qaf ?_;simp only [Qab,pQ1,pQ2,pQ3,pQ4,pQ5,pQ6]
   repeat (go_big_quiet_step (first|(intro hb;rw [q0 _ hb];simp only [Result.andThen];rw [q1 _ hb];simp only;rw [q2 _ hb];simp only;rw [q3 _ hb];exact ⟨rfl,rfl⟩)|(intro hb;rw [k0 _ hb];exact ⟨rfl,rfl⟩)|(intro hb;rw [k1 _ hb];exact ⟨rfl,rfl⟩)))
   refine wpQuiet_nil ?_;clear k0 k1 q0 q1 q2 q3 t0 t1 t2 t3 c0 c1 c2 c3 b0 b1;refine Qaa rfl ?_;simp only [Qab,pQ1,pQ2,pQ3,pQ4,pQ5,pQ6];go_wp2_with fail;have hg:Grows W (W.alloc (QqQ 0 0 [] 0)).drew:=Below.drew (Zb.alloc Zc _);have HTB:Hid ((W.alloc (QqQ 0 0 [] 0)).drew.heap[W.heap.size]?=some (QqQ 0 0 [] 0)):=Za (heap_alloc_new _ _);have HE2:=Za (Qad HE1.out hg);have hPT:P<W.heap.size:=lt_of_block HE1.out;have HBV:Hid (Below P w (W.alloc (QqQ 0 0 [] 0)).drew):=Za (HD1.out.trans (hg.mono (by omega)));refine ⟨hg,?_⟩;clear hg HE0 HE1 HD1 HB0 hszP;generalize (W.alloc (QqQ 0 0 [] 0)).drew=V at *;obtain ⟨T,hT⟩:∃ T,W.heap.size=T:=⟨_,rfl⟩;simp only [hT] at HTB hPT |-;clear hT;refine Qaa rfl ?_;simp only [Qab,pQ1,pQ2,pQ3,pQ4,pQ5,pQ6];have g0:=Qam HTB.out 0;have g1:=Qam HTB.out 1;have g2:=Qam HTB.out 2;have g3:=Qam HTB.out 3;obtain ⟨c0,c1,c2,c3⟩:=Qac HTB.out;go_wp2_with fail;refine ⟨fun h=>absurd h (by decide),Qat ?_⟩;have HTV:=Za (Qik HTB.out (.int .i64 tk) (.int .u64 tn) (.string ⟨ts.toArray⟩) (.int .i64 tp));have HEV:=Za (QvL HE2.out T (by omega) (.int .i64 tk) (.int .u64 tn) (.string ⟨ts.toArray⟩) (.int .i64 tp));have HBX:Hid (Below P w ((((V.setCell ⟨T,0,none⟩ (.int .i64 tk)).setCell ⟨T,1,none⟩ (.int .u64 tn)).setCell ⟨T,2,none⟩ (.string ⟨ts.toArray⟩)).setCell ⟨T,3,none⟩ (.int .i64 tp))):=Za (Qil HBV.out (by omega) _ _ _ _);clear c0 c1 c2 c3 g0 g1 g2 g3 HTB HE2 HBV;generalize ((((V.setCell ⟨T,0,none⟩ (.int .i64 tk)).setCell ⟨T,1,none⟩ (.int .u64 tn)).setCell ⟨T,2,none⟩ (.string ⟨ts.toArray⟩)).setCell ⟨T,3,none⟩ (.int .i64 tp))=V2 at *;obtain ⟨t0,t1,t2,t3⟩:=Qac HTV.out;obtain ⟨p0,p1,p2,p3⟩:=Qac HEV.out;have f0:=Qam HEV.out 0;have f1:=Qam HEV.out 1;have f2:=Qam HEV.out 2;have f3:=Qam HEV.out 3;have hgt2:=hgt.2;have HKS:=Za hgt2;clear hgt hgt2 hi1 hi2 hi;by_cases c3:tk=3
   ·subst c3;have HX:Hid (X=⟨1,tn,[],0⟩):=Za HX0.out;go_wp2_with fail;exact bodyPost_ret (Qc1 _ _ _ _ _ _ _ rfl (Qik HEV.out _ _ _ _)) rfl ⟨by rw [HX.out],by rw [HPE.out];exact Qil HBX.out Zc _ _ _ _⟩
   have e3:(tk==3)=false:=Zd c3;by_cases c4:tk=4
   ·subst c4;have HX:Hid (X=⟨2,0,ts,0⟩):=Za HX0.out;go_wp2_with fail;exact bodyPost_ret (Qc1 _ _ _ _ _ _ _ rfl (Qik HEV.out _ _ _ _)) rfl ⟨by rw [HX.out],by rw [HPE.out];exact Qil HBX.out Zc _ _ _ _⟩
   have e4:(tk==4)=false:=Zd c4;by_cases c1:tk=1
   ·subst c1;have HX1:Hid (X=if QaW ts=true then ⟨3,0,ts,0⟩ else ⟨0,0,[],0⟩):=Za HX0.out;have HPA:=Za (Qfd ts V2 (by have:=HTS.out;omega));unfold Qck QhW at HPA;obtain ⟨O,hO⟩:∃ O,QaW ts=O:=⟨_,rfl⟩;obtain ⟨R,hR⟩:∃ R,(QaW ts&&QaJ ts)=R:=⟨_,rfl⟩;obtain ⟨U,hU⟩:∃ U:Int,(if QaW ts=true then (Qbp ts:Int) else 0)=U:=⟨_,rfl⟩;obtain ⟨S,hS⟩:∃ S,(if QaW ts=true then QaG ts else [])=S:=⟨_,rfl⟩;rw [hR,hU,hS,hO] at HPA;rw [hO] at HX1;clear hR hU hS hO;have hVP:P<V2.heap.size:=lt_of_block HEV.out;go_wp2_with fail;((with_reducible refine HPA.out.mono ?_));rintro e w1 ⟨v,rfl,hv,hb1⟩;obtain ⟨va,vc,rfl⟩:=Qcw hv;have hal:Below w1.heap.size w1 (w1.alloc (QgR R U (.slice va S.length vc))):=Zb.alloc Zc _;have HB1:Hid (Below P w w1):=Za (HBX.out.trans (hb1.mono (by omega)));have hVP1:P<w1.heap.size:=Nat.lt_of_lt_of_le hVP hb1.size;have HB2:Hid (Below P w (w1.alloc (QgR R U (.slice va S.length vc)))):=Za (HB1.out.trans (hal.mono (by omega)));have HE2:=Za (Qad (Qad HEV.out hb1) hal);have HT2:=Za (Qad (Qad HTV.out hb1) hal);clear hv hb1 hal HPA t0 t1 t2 t3 p0 p1 p2 p3 f0 f1 f2 f3;go_upto_region 11 with fail;generalize w1.alloc (QgR R U (.slice va S.length vc))=V3 at *;obtain ⟨t0,t1,t2,t3⟩:=Qac HT2.out;obtain ⟨p0,p1,p2,p3⟩:=Qac HE2.out;have f0:=Qam HE2.out 0;have f1:=Qam HE2.out 1;have f2:=Qam HE2.out 2;have f3:=Qam HE2.out 3;cases O with
    | true =>
      have HX:Hid (X=⟨3,0,ts,0⟩):=Za HX1.out;go_wp2_with fail;exact bodyPost_ret (Qc1 _ _ _ _ _ _ _ rfl (Qik HE2.out _ _ _ _)) rfl ⟨by rw [HX.out],by rw [HPE.out];exact Qil HB2.out Zc _ _ _ _⟩
    | false =>
      have HX:Hid (X=⟨0,0,[],0⟩):=Za HX1.out;go_wp2_with fail;exact bodyPost_ret (Qc1 _ _ _ _ _ _ _ rfl (Qik HE2.out _ _ _ _)) rfl ⟨by rw [HX.out],by rw [HPE.out];exact Qil HB2.out Zc _ _ _ _⟩
   have e1:(tk==1)=false:=Zd c1;by_cases c2:tk=2
   ·subst c2;have HX1:Hid (X=match QiS ts with|some (op,n)=>⟨op,n,[],0⟩|none=>⟨opW ts,0,[],0⟩):=Za HX0.out;rw [Qmo] at HX1;have hn8:=QoL ts [76,111,99,97,108] 8 (by omega);have hn7:=QoL ts [65,114,103] 7 (by omega);have HN8:=Za (fun w=>Qhb ts [76,111,99,97,108] 8 w (by have:=HTS.out;omega) (by simp));have HN7:=Za (fun w=>Qhb ts [65,114,103] 7 w (by have:=HTS.out;omega) (by simp));generalize Qfl ts [76,111,99,97,108] 8=a8 at *;generalize Qfl ts [65,114,103] 7=a7 at *;have HWO:=Za (QnT ts V2 (by have:=HTS.out;omega));have hop:=QkP ts;obtain ⟨R,hR⟩:∃ R,Qg9 ts=R:=⟨_,rfl⟩;rw [hR] at HWO hop;obtain ⟨ra,rb,rc,hab⟩:∃ a b c,Qec R=(a,b,c):=⟨(Qec R).1,(Qec R).2.1,(Qec R).2.2,rfl⟩;obtain ⟨ok,hok⟩:∃ ok,R.isSome=ok:=⟨_,rfl⟩;rw [hab] at hop;rw [hab,hok] at HWO;have hop2:ra=opW ts:=hop;rw [<- hop2] at HX1;clear hR hab hok hop hop2;by_cases h8:0<=a8
    ·have HX:Hid (X=⟨6,a8,[],0⟩):=Za (by rw [HX1.out,if_pos h8];simp only [];congr 1;omega);go_wp2_with fail;((with_reducible refine (HN8.out _).mono ?_));rintro e w1 ⟨rfl,rfl⟩;go_wp2_with fail;exact bodyPost_ret (Qc1 _ _ _ _ _ _ _ rfl (Qik HEV.out _ _ _ _)) rfl ⟨by rw [HX.out],by rw [HPE.out];exact Qil HBX.out Zc _ _ _ _⟩
    ·rw [if_neg h8] at HX1;by_cases h7:0<=a7
     ·have HX:Hid (X=⟨7,a7,[],0⟩):=Za (by rw [HX1.out,if_pos h7];simp only [];congr 1;omega);go_wp2_with fail;((with_reducible refine (HN8.out _).mono ?_));rintro e w1 ⟨rfl,rfl⟩;go_wp2_with fail;((with_reducible refine (HN7.out _).mono ?_));rintro e w1 ⟨rfl,rfl⟩;go_wp2_with fail;exact bodyPost_ret (Qc1 _ _ _ _ _ _ _ rfl (Qik HEV.out _ _ _ _)) rfl ⟨by rw [HX.out],by rw [HPE.out];exact Qil HBX.out Zc _ _ _ _⟩
     ·have HX:Hid (X=⟨ra,0,[],0⟩):=Za (by rw [HX1.out,if_neg h7]);have hVP:P<V2.heap.size:=lt_of_block HEV.out;go_wp2_with fail;((with_reducible refine (HN8.out _).mono ?_));rintro e w1 ⟨rfl,rfl⟩;go_wp2_with fail;((with_reducible refine (HN7.out _).mono ?_));rintro e w1 ⟨rfl,rfl⟩;go_wp2_with fail;((with_reducible refine HWO.out.mono ?_));rintro e w1 ⟨rfl,hb1⟩;have hal:Below w1.heap.size w1 (w1.alloc (QbG ra rb rc)):=Zb.alloc Zc _;have HB1:Hid (Below P w w1):=Za (HBX.out.trans (hb1.mono (by omega)));have hVP1:P<w1.heap.size:=Nat.lt_of_lt_of_le hVP hb1.size;have HB2:Hid (Below P w (w1.alloc (QbG ra rb rc))):=Za (HB1.out.trans (hal.mono (by omega)));have HE2:=Za (Qad (Qad HEV.out hb1) hal);have HR2:=Za (heap_alloc_new w1 (QbG ra rb rc));clear hb1 hal HWO t0 t1 t2 t3 p0 p1 p2 p3 f0 f1 f2 f3;go_upto_region 21 with fail;generalize w1.alloc (QbG ra rb rc)=V3 at *;obtain ⟨r0,r1,r2⟩:=QaT HR2.out;obtain ⟨p0,p1,p2,p3⟩:=Qac HE2.out;have f0:=Qam HE2.out 0;have f1:=Qam HE2.out 1;have f2:=Qam HE2.out 2;have f3:=Qam HE2.out 3;go_wp2_with fail;exact bodyPost_ret (Qc1 _ _ _ _ _ _ _ rfl (Qik HE2.out _ _ _ _)) rfl ⟨by rw [HX.out],by rw [HPE.out];exact Qil HB2.out Zc _ _ _ _⟩
   have e2:(tk==2)=false:=Zd c2;have HX:Hid (X=⟨0,0,[],0⟩):=Za (by rw [HX0.out];unfold Qa1;simp only [c1,c2,c3,c4,if_false]);go_wp2_with fail;exact bodyPost_ret (Qc1 _ _ _ _ _ _ _ rfl (Qik HEV.out _ _ _ _)) rfl ⟨by rw [HX.out],by rw [HPE.out];exact Qil HBX.out Zc _ _ _ _⟩
end
section
open Go.RowKit
attribute [local go_sem] ByteArray.mk_append_mk Qah Qai Qag
theorem Qd9 (m k:Int) (B b i:Nat) (w:World) (L:List TokI) (o:List Nd) (h:RSt m B b w L i (-1) o) (hL:L.length<=1000000) (hk0:k≠0) :
  Calls Tryz.prog 203 #[.pointer (some ⟨b,0,none⟩),.int .i64 k] w fun e w'=>e = .returned (.tuple #[])/\Below B w w'/\if atT k (L.drop i)=true then RSt m B b w' L (i+1) (-1) o else RSt m B b w' L i i o:=by
 cases hk:atT k (L.drop i) with
 | true=>exact (Qjz m k B b i w L o h hL hk0 hk).mono (fun e w' h=>⟨h.1,h.2.2,by rw [if_pos rfl];exact h.2.1⟩)
 | false=>exact (Qtl m k B b i w L o h hL hk0 hk).mono (fun e w' h=>⟨h.1,h.2.2,by rw [if_neg (by decide)];exact h.2.1⟩)
set_option maxRecDepth 100000 in
theorem QjW (m F:Int) (B b i:Nat) (kd:UInt8) (w:World) (L:List TokI) (o:List Nd) (h:RSt m B b w L i F o) (hF:0<=F) (hL:L.length<=1000000) :
  Calls Tryz.prog 98 #[.pointer (some ⟨b,0,none⟩),.int .u8 kd.toNat] w fun e w'=>e = .returned (.tuple #[])/\Below w.heap.size w w':=by
 have HLK:=Za (QjV m F B b i w L o h hL);have H0:=Za h;obtain ⟨⟨op,num,str,pos⟩,hx⟩:∃ x,Qa1 (L.drop i)=x:=⟨_,rfl⟩;have HXX:=Za hx;rw [hx] at HLK;unfold Qbz at HLK;simp only at HLK;clear h hx;go_enter Tryz.func98,Tryz.ntmps98;go_wp2_with fail;((with_reducible refine HLK.out.mono ?_));rintro e w1 ⟨rfl,hb1⟩;have hal:Below w1.heap.size w1 (w1.alloc (Qae op num str pos)):=Zb.alloc Zc _;have hg2:Below w.heap.size w (w1.alloc (Qae op num str pos)):=Qar hb1 Zc hal;have H2:=Za (H0.out.below hg2);have HB2:Hid (Below B w (w1.alloc (Qae op num str pos))):=Za (hg2.mono H0.out.size);have HG2:=Za hg2;have HQ2:=Za (heap_alloc_new w1 (Qae op num str pos));have hbQ:b<w1.heap.size:=by
  obtain ⟨tv,nv,k1,_⟩:=(H0.out.below hb1).ex;exact lt_of_block k1
 have hwQ:w.heap.size<=w1.heap.size:=hb1.size;clear hb1 hal hg2 HLK;go_upto_region 1 with fail;generalize w1.alloc (Qae op num str pos)=W2 at *;generalize w1.heap.size=Q at *;go_cut [5] (fun z wx=>∃ nq,z = .bool (op==3&&atT 5 (L.drop (i+1)))/\wx=W2.drewN nq)
 case first =>
  obtain ⟨q0,q1,q2,q3⟩:=Qac HQ2.out;obtain ⟨⟨tv,nv,h1,h2,h3⟩,h4,h5,h6,h7,h8,h9,ha,hc',hd'⟩:=H2.out;obtain ⟨c0,c1,c2,c3⟩:=Qac h1;by_cases e3:op=3
  ·subst e3;cases hd:L.drop (i+1) with
   | nil =>
     obtain ⟨a,cap,rfl,hl,hc⟩:=h2;have hi1:¬ (i:Int)+1<(L.length:Int):=by
      have:=congrArg List.length hd;rw [List.length_drop] at this;simp only [List.length_nil] at this;omega
     have HD:=Za hd;clear hc h3 h6 h8 h1 hd h7 ha hc' hd';go_quiet (fail);go_wp2_with fail;go_meet;exact ⟨_,by rw [HD.out];simp [atT],rfl⟩
   | cons t q =>
     obtain ⟨g,off,cap,rfl,hgB,hi,t0,t1,t2,t3⟩:=h2.drop_cells hd;have hi1:(i:Int)+1<(L.length:Int):=by omega
     have HD:=Za hd;clear h3 h6 h8 h1 hd h7 h9 ha hc' hd' h2 hi;obtain ⟨tk,tn,ts,tp⟩:=t;simp only at t0;go_quiet (fail);go_wp2_with fail;go_meet;exact ⟨_,by rw [HD.out];simp [atT],rfl⟩
  ·have e3':(op==3)=false:=Zd e3;clear h3 h6 h8 h1 h7 h9 ha hc' hd' h2;go_quiet (fail);go_wp2_with fail;go_meet;exact ⟨_,by simp [e3'],rfl⟩
 case rest =>
 obtain ⟨nq,rfl,rfl⟩:=hcut;have H3:Hid (RSt m B b (W2.drewN nq) L i F o):=Za (H2.out.below (below_drewN Zb _));have HB3:Hid (Below B w (W2.drewN nq)):=Za (below_drewN HB2.out _);have HG3:Hid (Below w.heap.size w (W2.drewN nq)):=Za (below_drewN HG2.out _);have HQ3:Hid ((W2.drewN nq).heap[Q]?=some (Qae op num str pos)):=HQ2;obtain ⟨op2,hop2⟩:∃ z,(if (op==3&&(kd==83||(kd==101&&atT 5 (L.drop (i+1)))))=true then (5:Int) else op)=z:=⟨_,rfl⟩;have HOP2:=Za hop2;generalize W2.drewN nq=W3 at *;obtain ⟨cl,hcl⟩:∃ z,atT 5 (L.drop (i+1))=z:=⟨_,rfl⟩;rw [hcl] at hop2 |-;clear H2 HB2 HG2 HQ2 hcl;have hk83:=Qao kd 83;have hk101:=Qao kd 101;obtain ⟨b83,hb83⟩:∃ z,(kd==83)=z:=⟨_,rfl⟩;obtain ⟨b101,hb101⟩:∃ z,(kd==101)=z:=⟨_,rfl⟩;obtain ⟨b3,hb3⟩:∃ z,(op==3)=z:=⟨_,rfl⟩;rw [hb83] at hk83 hop2;rw [hb101] at hk101 hop2;rw [hb3] at hop2 |-;have hk83':((kd.toNat:Int)==83)=b83:=hk83;have hk101':((kd.toNat:Int)==101)=b101:=hk101;clear hb83 hb101 hk83 hk101;obtain ⟨q0,q1,q2,q3⟩:=Qac HQ3.out;have fq:=Qam HQ3.out 0;go_upto_region 2 with fail;go_cut [55] (fun z wx=>z = .bool (b3&&(b83||(b101&&(b3&&cl))))/\W3=wx)
 case first =>
  cases b3
  ·go_wp2_with fail;go_meet;exact ⟨by simp,rfl⟩
  ·cases b83
   ·cases b101
    ·go_wp2_with fail;go_meet;exact ⟨by simp,rfl⟩
    ·go_wp2_with fail;go_meet;exact ⟨by simp,rfl⟩
   ·go_wp2_with fail;go_meet;exact ⟨by simp,rfl⟩
 case rest =>
 obtain ⟨rfl,rfl⟩:=hcut;obtain ⟨W3,rfl⟩:∃ y:World,y=W3:=⟨_,rfl⟩;go_upto_if 55 with fail;go_cut [56] (fun z wx=>Hid (wx.heap[Q]?=some (Qae op2 num str pos))/\Hid (Below w.heap.size w wx))
 case first =>
  have HS5:Hid ((W3.setCell ⟨Q,0,none⟩ (.int .i64 5)).heap[Q]?=some (Qae 5 num str pos)):=Za (heap_setCell_same _ _ 0 _ _ _ HQ3.out);have HG5:Hid (Below w.heap.size w (W3.setCell ⟨Q,0,none⟩ (.int .i64 5))):=Za (HG3.out.setCell hwQ _);cases hcb:(b3&&(b83||(b101&&(b3&&cl)))) with
  | true =>
    have e2:op2=5:=by
     rw [<- hop2];refine if_pos ?_;revert hcb;cases b3<;>cases b83<;>cases b101<;>cases cl<;>decide
    have E2:=Za e2;clear e2;go_wp2_with fail;go_meet;rw [E2.out];exact ⟨HS5,HG5⟩
  | false =>
    have e2:op2=op:=by
     rw [<- hop2];refine if_neg ?_;revert hcb;cases b3<;>cases b83<;>cases b101<;>cases cl<;>decide
    have E2:=Za e2;clear e2;go_wp2_with fail;go_meet;rw [E2.out];exact ⟨HQ3,HG3⟩
 case rest =>
 obtain ⟨HQ5,HG5⟩:=hcut;obtain ⟨W5,rfl⟩:∃ y:World,y=wc:=⟨_,rfl⟩;have H5:Hid (RSt m B b W5 L i F o):=Za (H0.out.below HG5.out);clear H3 HB3 HG3 HQ3 q0 q1 q2 q3 fq hop2 hb3 hk83' hk101';obtain ⟨⟨tv,nv,k1,k2,k3⟩,_⟩:=H5.out;obtain ⟨c0,c1,c2,c3⟩:=Qac k1;have hF2:F>=0:=hF;have HFO:=Za (Qmn m F B b i W5 L o H5.out hF);clear k1 k2 k3;go_wp2_with fail;((with_reducible refine HFO.out.mono ?_));rintro e w6 ⟨rfl,rfl⟩;go_wp2_with fail;(try simp only [Exit.inBlock,Exit.then]);refine bodyPost_ret (results_none rfl _ _ _) rfl ?_;exact ⟨rfl,HG5.out⟩
end
section
open Go.RowKit
attribute [local go_sem] ByteArray.mk_append_mk Qah Qai Qag
theorem Qhh (k:Int) (hk:k≠0) (r:List TokI) (b:Bool) (h:atT k r=b):(Qeq r != k)=!b:=by
 rw [bne,QfA k hk,h]
theorem Qco {L:List TokI} {i i':Nat} {r:List TokI} {k:Nat} (hi':i'<=L.length) (h1:r=L.drop i') (h2:r=(L.drop i).drop k) (hk1:1<=k) (hk:k<=(L.drop i).length):i<i':=by
 have e:=congrArg List.length (h1.symm.trans h2);rw [List.length_drop,List.length_drop] at e;rw [List.length_drop] at hk;rw [List.length_drop] at e;omega
set_option maxRecDepth 100000 in
theorem Qqj (m:Int) (B b:Nat) (L:List TokI) (sub:UInt8->List TokI->PR) (n:Nat) (hs:Qqi m B b L sub n) (hg:∀ k r,PGood1 r (sub k r)) (hL:L.length<=100000) (text:List UInt8) (i0:Nat) (o:List Nd) (w:World)
  (h:RSt m B b w L i0 (-1) (o++⟨5,0,text,0⟩::[])) (hn:L.length-i0<=n) :
  Calls Tryz.prog 142 #[.pointer (some ⟨b,0,none⟩),.int .i64 o.length] w (Qgc m B b L w o (if atT 5 (L.drop i0)=true then Qel sub text (L.drop i0).tail else .no (L.drop i0))):=by
 have HS:=Za hs;have HGD:=Za hg;have HTK:=Za (Qd9 m 5 B b i0 w L _ h (by omega) (by decide));obtain ⟨X,hX⟩:∃ X,Hid ((if atT 5 (L.drop i0)=true then Qel sub text (L.drop i0).tail else .no (L.drop i0))=X):=⟨_,Za rfl⟩;rw [hX.out];have hol0:o.length<=200000:=by
  have:=h.ol;have:=h.ix;simp only [List.length_append,List.length_cons] at *;omega
 have HOL0:=Za hol0;clear hs hg h hol0;go_enter Tryz.func142,Tryz.ntmps142;go_wp2_with fail;((with_reducible refine HTK.out.mono ?_));rintro e w1 ⟨rfl,hb1,hres⟩;have HB1:=Za hb1;have hrel:(∃ (j:Nat) (ns:List Nd) (i:Nat),j<=7/\(j=0->ns=[])/\L.length-i<=n/\Hid (QeT sub text j ns (L.drop i)=X)/\Hid (RSt m B b w1 L i (-1) (o++⟨5,0,text,j⟩::ns))/\Hid (Below B w w1)) \/
   (∃ (i jf:Nat) (o':List Nd),Hid (X = .no (L.drop jf))/\Hid (RSt m B b w1 L i jf o')/\Hid (Below B w w1)):=by
  cases h5:atT 5 (L.drop i0) with
  | true =>
    rw [h5,if_pos rfl] at hres;exact .inl ⟨0,[],i0+1,by omega,fun _=>rfl,by omega,Za (by rw [<- hX.out,h5,if_pos rfl,QmG,List.tail_drop]),Za hres,HB1⟩
  | false =>
    rw [h5,if_neg (by decide)] at hres;exact .inr ⟨i0,i0,_,Za (by rw [<- hX.out,h5,if_neg (by decide)]),Za hres,HB1⟩
 have HREL:Hid (∃ z,w1=z/\((∃ (j:Nat) (ns:List Nd) (i:Nat),j<=7/\(j=0->ns=[])/\L.length-i<=n/\Hid (QeT sub text j ns (L.drop i)=X)/\Hid (RSt m B b z L i (-1) (o++⟨5,0,text,j⟩::ns))/\Hid (Below B w z)) \/
  (∃ (i jf:Nat) (o':List Nd),Hid (X = .no (L.drop jf))/\Hid (RSt m B b z L i jf o')/\Hid (Below B w z)))):=Za ⟨_,rfl,hrel⟩
 clear hb1 hres hrel HTK HB1;go_wp2_with fail;go_loopw [49] (fun _ wr=>Hid ((∃ (j:Nat) (ns:List Nd) (i:Nat),j<=7/\(j=0->ns=[])/\L.length-i<=n/\Hid (QeT sub text j ns (L.drop i)=X)/\Hid (RSt m B b wr L i (-1) (o++⟨5,0,text,j⟩::ns))/\Hid (Below B w wr)) \/
  (∃ (i jf:Nat) (o':List Nd),Hid (X = .no (L.drop jf))/\Hid (RSt m B b wr L i jf o')/\Hid (Below B w wr)))) (fun _ wr=>Qgb wr b)
 case atStart =>
  obtain ⟨z,rfl,h⟩:=HREL.out;exact Za h
 case round =>
  clear HREL;rcases hrel.out with ⟨j,ns,i,hj,hns,hin,HXA,HP,HB⟩|⟨i,jf,o',HXF,HP,HB⟩
  ·clear hrel;obtain ⟨w3,rfl⟩:∃ y:World,y=wr:=⟨_,rfl⟩;have HLF:Hid (Qgb w3 b=1+(L.length-i)):=Za (by rw [HP.out.left,if_neg (by omega)]);have HIX:=Za HP.out.ix;have HK:=Za (QeR m (-1) B b i w3 L _ HP.out (by omega));obtain ⟨tv,nv,k1,k2,k3⟩:=HP.out.ex;obtain ⟨c0,c1,c2,c3⟩:=Qac k1;clear k1 k2 k3;cases h6:atT 6 (L.drop i) with
   | true =>
     have hz:=Qhh 6 (by decide) (L.drop i) true h6;have HX2:Hid (X = .ok (L.drop (i+1)) (⟨5,0,text,j⟩::ns)):=Za (by rw [<- HXA.out];unfold QeT;rw [if_pos h6,List.tail_drop]);have HTY:=Za (fun q=>Qjz m 6 B b i (w3.drewN q) L _ (HP.out.below (below_drewN Zb q)) (by omega) (by decide) h6);generalize Qeq (L.drop i)=z at *;clear h6 HXA;go_wp2_with fail;((with_reducible refine HK.out.mono ?_));rintro e w4 ⟨rfl,q,rfl⟩;go_wp2_with fail;((with_reducible refine (HTY.out q).mono ?_));rintro e w5 ⟨rfl,hp5,hb5⟩;have HP5:=Za hp5;have HB5:Hid (Below B w w5):=Za ((below_drewN HB.out q).trans hb5);clear hp5 hb5;go_wp2_with fail;go_end0;rw [HX2.out];exact ⟨rfl,HB5.out,_,rfl,HP5.out⟩
   | false =>
     have hz:=Qhh 6 (by decide) (L.drop i) false h6;have HXN:Hid (X=if j=0 then Qfi sub text 7 0 ns (L.drop i) else if j=7\/atT 9 (L.drop i)=false then .no (L.drop i) else Qfi sub text (7-j) j ns (L.drop i).tail):=Za (by rw [<- HXA.out];unfold QeT;rw [if_neg (by rw [h6];decide)]);generalize Qeq (L.drop i)=z at *;clear h6 HXA;go_wp2_with fail;((with_reducible refine HK.out.mono ?_));rintro e w4 ⟨rfl,q,rfl⟩;have HP4:Hid (RSt m B b (w3.drewN q) L i (-1) (o++⟨5,0,text,j⟩::ns)):=Za (HP.out.below (below_drewN Zb q));have HB4:Hid (Below B w (w3.drewN q)):=Za (below_drewN HB.out q);clear c0 c1 c2 c3 HP HB HK;generalize w3.drewN q=W4 at *;obtain ⟨tv,g,c,k1,k2,k3,k4⟩:=HP4.out.kids;obtain ⟨c0,c1,c2,c3⟩:=Qac k1;obtain ⟨LL,hLL⟩:∃ z,(o++(⟨5,0,text,j⟩:Nd)::ns).length=z:=⟨_,rfl⟩;have hLo:o.length<LL:=by rw [<- hLL];simp
     have hLo':(o.length:Int)<(LL:Int):=by omega
     rw [hLL] at c2;clear k1 k4 k3 hLL;by_cases h0:j=0
     ·have hj0:¬ (0:Int)<(j:Int):=by omega
      have HXS:Hid (X=match sub 101 (L.drop i) with|.no x=>.no x|.ok r1 n1=>QeT sub text (j+1) (ns++n1) r1):=Za (by rw [HXN.out,if_pos h0];have:=QjU sub text j (by omega) ns (L.drop i);rw [h0] at this |-;exact this);clear HXN h0 c0 c1 c2 c3 hLo hLo' k2;obtain ⟨tv,g,c,k1,k2,k3,k4⟩:=HP4.out.kids;have HU:=Za (k4 ((j:Int)+1));obtain ⟨c0,c1,c2,c3⟩:=Qac k1;obtain ⟨LL,hLL⟩:∃ z,(o++(⟨5,0,text,j⟩:Nd)::ns).length=z:=⟨_,rfl⟩;have hLo:o.length<LL:=by rw [<- hLL];simp
      have hLo':(o.length:Int)<(LL:Int):=by omega
      rw [hLL] at c2;clear k1 k4 hLL;go_upto_region 7 with fail;have HP5:=Za HU.out.1;have HB5:Hid (Below B w (W4.setCell ⟨g,o.length * 4+3,none⟩ (.int .i64 ((j:Int)+1)))):=Za (HB4.out.trans HU.out.2);generalize W4.setCell ⟨g,o.length * 4+3,none⟩ (.int .i64 ((j:Int)+1))=W5 at *;clear c0 c1 c2 c3 k2 k3 HU hLo hLo';have HSUB:Hid (Calls Tryz.prog 98 #[.pointer (some ⟨b,0,none⟩),.int .u8 101] W5 (Qgc m B b L W5 (o++⟨5,0,text,(j:Int)+1⟩::ns) (sub 101 (L.drop i)))):=Za (HS.out 101 i _ W5 HP5.out (by omega));have hgood:=HGD.out 101 (L.drop i);cases hx:sub 101 (L.drop i) with
      | no x =>
        rw [hx] at HSUB HXS;have HX2:Hid (X = .no x):=HXS;clear hx hgood;go_wp2_with fail;((with_reducible refine HSUB.out.mono ?_));rintro e w6 ⟨rfl,hb6,i6,j6,o6,rfl,hp6⟩;have HB6:Hid (Below B w w6):=Za (HB5.out.trans hb6);have HP6:=Za hp6;clear hb6 hp6;go_wp2_with fail;go_roundw
        case rel=>refine Za ?_;exact .inr ⟨i6,j6,o6,HX2,HP6,HB6⟩
        case measure=>rw [HLF.out,HP6.out.left,if_pos (by omega)];omega
      | ok x n1 =>
        rw [hx] at HSUB HXS hgood;have HX2:Hid (QeT sub text (j+1) (ns++n1) x=X):=Za HXS.out.symm;obtain ⟨d,hd1,hd2,hd3,hd4⟩:=hgood;have HGOOD:=Za hd3;clear hx hd3;go_wp2_with fail;((with_reducible refine HSUB.out.mono ?_));rintro e w6 ⟨rfl,hb6,i6,hi6,hp6⟩;have hlt:i<i6:=Qco hp6.ix hi6 HGOOD.out hd1 hd2;subst hi6;rw [List.append_assoc,List.cons_append] at hp6;have HB6:Hid (Below B w w6):=Za (HB5.out.trans hb6);have HP6:Hid (RSt m B b w6 L i6 (-1) (o++⟨5,0,text,(j+1:Nat)⟩::(ns++n1))):=Za (by rw [show ((j+1:Nat):Int)=(j:Int)+1 by omega];exact hp6);clear hb6 hp6;go_wp2_with fail;go_roundw
        case rel=>refine Za ?_;exact .inl ⟨j+1,ns++n1,i6,by omega,fun h=>by omega,by omega,HX2,HP6,HB6⟩
        case measure=>rw [HLF.out,HP6.out.left,if_neg (by omega)];have:=HP6.out.ix;omega
     ·have hj0:(0:Int)<(j:Int):=by omega
      rw [if_neg h0] at HXN;by_cases h7:j=7
      ·have hj7:((j:Int)==7)=true:=by rw [beq_iff_eq];omega
       have HX2:Hid (X = .no (L.drop i)):=Za (by rw [HXN.out,if_pos (.inl h7)]);have HFN:=Za (Qg7 m B b i W4 L _ HP4.out);clear HXN h7 h0;go_wp2_with fail;((with_reducible refine HFN.out.mono ?_));rintro e w5 ⟨rfl,hp5,hb5⟩;have HP5:=Za hp5;have HB5:Hid (Below B w w5):=Za (HB4.out.trans hb5);clear hp5 hb5;go_wp2_with fail;(try simp only [Exit.inBlock,Exit.then]);refine bodyPost_ret (results_none rfl _ _ _) rfl ?_;rw [HX2.out];exact ⟨rfl,HB5.out,_,_,_,rfl,HP5.out⟩
      ·have hj7:((j:Int)==7)=false:=by rw [beq_eq_false_iff_ne];omega
       have HTR:=Za (Qd9 m 9 B b i W4 L _ HP4.out (by omega) (by decide));cases h9:atT 9 (L.drop i) with
       | false =>
         have HX2:Hid (X = .no (L.drop i)):=Za (by rw [HXN.out,if_pos (.inr h9)]);clear HXN h0;go_wp2_with fail;((with_reducible refine HTR.out.mono ?_));rintro e w5 ⟨rfl,hb5,hres⟩;rw [h9,if_neg (by decide)] at hres;have HP9:=Za hres;have HB9:Hid (Below B w w5):=Za (HB4.out.trans hb5);clear hb5 hres c0 c1 c2 c3 hLo hLo' k2 h9;obtain ⟨tv,g,c,k1,k2,k3,k4⟩:=HP9.out.kids;have HU:=Za (k4 ((j:Int)+1));obtain ⟨c0,c1,c2,c3⟩:=Qac k1;obtain ⟨LL,hLL⟩:∃ z,(o++(⟨5,0,text,j⟩:Nd)::ns).length=z:=⟨_,rfl⟩;have hLo:o.length<LL:=by rw [<- hLL];simp
         have hLo':(o.length:Int)<(LL:Int):=by omega
         rw [hLL] at c2;clear k1 k4 hLL;go_upto_region 7 with fail;have HP5:=Za HU.out.1;have HB5:Hid (Below B w (w5.setCell ⟨g,o.length * 4+3,none⟩ (.int .i64 ((j:Int)+1)))):=Za (HB9.out.trans HU.out.2);generalize w5.setCell ⟨g,o.length * 4+3,none⟩ (.int .i64 ((j:Int)+1))=W5 at *;clear c0 c1 c2 c3 k2 k3 HU hLo hLo';have HNO:Hid (Calls Tryz.prog 98 #[.pointer (some ⟨b,0,none⟩),.int .u8 101] W5 fun e w'=>e = .returned (.tuple #[])/\Below W5.heap.size W5 w'):=Za (QjW m i B b i 101 W5 L _ HP5.out (by omega) (by omega));go_wp2_with fail;((with_reducible refine HNO.out.mono ?_));rintro e w6 ⟨rfl,hb6⟩;have HB6:Hid (Below B w w6):=Za (HB5.out.trans (hb6.mono HP5.out.size));have HP6:=Za (HP5.out.below hb6);clear hb6;go_wp2_with fail;go_roundw
         case rel=>refine Za ?_;exact .inr ⟨_,_,_,HX2,HP6,HB6⟩
         case measure=>rw [HLF.out,HP6.out.left,if_pos (by omega)];omega
       | true =>
         have HXS:Hid (X=match sub 101 (L.drop (i+1)) with|.no x=>.no x|.ok r1 n1=>QeT sub text (j+1) (ns++n1) r1):=Za (by rw [HXN.out,if_neg (fun e=>by rcases e with e|e;exact h7 e;rw [h9] at e;cases e),List.tail_drop];exact QjU sub text j (by omega) ns _);clear HXN h0;go_wp2_with fail;((with_reducible refine HTR.out.mono ?_));rintro e w5 ⟨rfl,hb5,hres⟩;rw [h9,if_pos rfl] at hres;have HP9:=Za hres;have HB9:Hid (Below B w w5):=Za (HB4.out.trans hb5);clear hb5 hres c0 c1 c2 c3 hLo hLo' k2 h9;obtain ⟨tv,g,c,k1,k2,k3,k4⟩:=HP9.out.kids;have HU:=Za (k4 ((j:Int)+1));obtain ⟨c0,c1,c2,c3⟩:=Qac k1;obtain ⟨LL,hLL⟩:∃ z,(o++(⟨5,0,text,j⟩:Nd)::ns).length=z:=⟨_,rfl⟩;have hLo:o.length<LL:=by rw [<- hLL];simp
         have hLo':(o.length:Int)<(LL:Int):=by omega
         rw [hLL] at c2;clear k1 k4 hLL;go_upto_region 7 with fail;have HP5:=Za HU.out.1;have HB5:Hid (Below B w (w5.setCell ⟨g,o.length * 4+3,none⟩ (.int .i64 ((j:Int)+1)))):=Za (HB9.out.trans HU.out.2);generalize w5.setCell ⟨g,o.length * 4+3,none⟩ (.int .i64 ((j:Int)+1))=W5 at *;clear c0 c1 c2 c3 k2 k3 HU hLo hLo';have HSUB:Hid (Calls Tryz.prog 98 #[.pointer (some ⟨b,0,none⟩),.int .u8 101] W5 (Qgc m B b L W5 (o++⟨5,0,text,(j:Int)+1⟩::ns) (sub 101 (L.drop (i+1))))):=Za (HS.out 101 (i+1) _ W5 HP5.out (by omega));have hgood:=HGD.out 101 (L.drop (i+1));cases hx:sub 101 (L.drop (i+1)) with
         | no x =>
           rw [hx] at HSUB HXS;have HX2:Hid (X = .no x):=HXS;clear hx hgood;go_wp2_with fail;((with_reducible refine HSUB.out.mono ?_));rintro e w6 ⟨rfl,hb6,i6,j6,o6,rfl,hp6⟩;have HB6:Hid (Below B w w6):=Za (HB5.out.trans hb6);have HP6:=Za hp6;clear hb6 hp6;go_wp2_with fail;go_roundw
           case rel=>refine Za ?_;exact .inr ⟨i6,j6,o6,HX2,HP6,HB6⟩
           case measure=>rw [HLF.out,HP6.out.left,if_pos (by omega)];omega
         | ok x n1 =>
           rw [hx] at HSUB HXS hgood;have HX2:Hid (QeT sub text (j+1) (ns++n1) x=X):=Za HXS.out.symm;obtain ⟨d,hd1,hd2,hd3,hd4⟩:=hgood;have HGOOD:=Za hd3;clear hx hd3;go_wp2_with fail;((with_reducible refine HSUB.out.mono ?_));rintro e w6 ⟨rfl,hb6,i6,hi6,hp6⟩;have hlt:(i+1)<i6:=Qco hp6.ix hi6 HGOOD.out hd1 hd2;subst hi6;rw [List.append_assoc,List.cons_append] at hp6;have HB6:Hid (Below B w w6):=Za (HB5.out.trans hb6);have HP6:Hid (RSt m B b w6 L i6 (-1) (o++⟨5,0,text,(j+1:Nat)⟩::(ns++n1))):=Za (by rw [show ((j+1:Nat):Int)=(j:Int)+1 by omega];exact hp6);clear hb6 hp6;go_wp2_with fail;go_roundw
           case rel=>refine Za ?_;exact .inl ⟨j+1,ns++n1,i6,by omega,fun h=>by omega,by omega,HX2,HP6,HB6⟩
           case measure=>rw [HLF.out,HP6.out.left,if_neg (by omega)];have:=HP6.out.ix;omega
  ·clear hrel;obtain ⟨w3,rfl⟩:∃ y:World,y=wr:=⟨_,rfl⟩;have HTO:=Za (Qg8 m jf 6 B b i w3 L o' HP.out (by omega));obtain ⟨tv,nv,k1,k2,k3⟩:=HP.out.ex;obtain ⟨c0,c1,c2,c3⟩:=Qac k1;have hF2:¬ (jf:Int)<0:=by omega
   clear k1 k2 k3;go_wp2_with fail;((with_reducible refine HTO.out.mono ?_));rintro e w5 ⟨rfl,rfl⟩;go_wp2_with fail;go_end0;rw [HXF.out];exact ⟨rfl,HB.out,_,_,_,rfl,HP.out⟩
end
end Go.Proofs.YtoohondkpddmcaaGreatDoor
