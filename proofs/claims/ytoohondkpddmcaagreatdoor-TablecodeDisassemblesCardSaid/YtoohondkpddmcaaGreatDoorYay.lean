/- Ra Rb Rc Rd Re -/
import Derived.Test.YtoohondkpddmcaaGreatDoorYzz
import Derived.Test.YtoohondkpddmcaaGreatDoorYat
import Derived.Test.YtoohondkpddmcaaGreatDoorYau
namespace Go.Proofs.YtoohondkpddmcaaGreatDoor
set_option maxHeartbeats 32000000
set_option linter.unusedVariables false
set_option linter.unusedSimpArgs false
section
open Go.RowKit
attribute [local go_sem] ByteArray.mk_append_mk Qah Qai Qag
abbrev Qd4 (tv:Value) (i:Int) (nv:Value) (F:Int):Obj:=.cells #[tv,.int .i64 i,nv,.int .i64 F] 138 (0,0)
theorem Qd5 {w:World} {B:Nat} {v:Value} {l:List Nd} (h:NodesI w B v l) {b:Nat} {tv nv:Value} {i F:Int} (hb:w.heap[b]?=some (Qd4 tv i nv F)):v.ownBlock≠some b:=by
 intro e;obtain ⟨cur,hc⟩:=Qcp h e;rw [hb] at hc;injection hc with hc;injection hc with _ h2 _;exact absurd h2 (by decide)
structure RSt (m:Int) (B b:Nat) (w:World) (L:List TokI) (i:Nat) (F:Int) (o:List Nd):Prop where
 ex:∃ tv nv,w.heap[b]?=some (Qd4 tv i nv F)/\TokB w B tv L/\NodesI w B nv o
 base:B<=b
 size:B<=w.heap.size
 syn:SynG m w
 hund:Quo B
 good:TGood L
 ix:i<=L.length
 f0 : -1<=F
 f1:F<=L.length
 ol:(o.length:Int)<=i+F+1
theorem RSt.below {m F:Int} {B b i:Nat} {w w':World} {L:List TokI} {o:List Nd} (h:RSt m B b w L i F o) (hb:Below w.heap.size w w'):RSt m B b w' L i F o:=by
 obtain ⟨⟨tv,nv,h1,h2,h3⟩,h4,h5,h6,h7,h8,h9,ha,hc,hd⟩:=h;exact ⟨⟨tv,nv,Qad h1 hb,h2.below (hb.mono h5),h3.below hb⟩,h4,Nat.le_trans h5 hb.size,h6.below (hb.mono h5) h7,h7,h8,h9,ha,hc,hd⟩
theorem RSt.alloc {m F:Int} {B b i:Nat} {w:World} {L:List TokI} {o:List Nd} (h:RSt m B b w L i F o) (x:Obj):RSt m B b (w.alloc x) L i F o:=h.below (Zb.alloc Zc _)
def Qeq:List TokI->Int
 | []=>0
 | t::_=>t.kind
theorem QfA (k:Int) (hk:k≠0) (r:List TokI):(Qeq r==k)=atT k r:=by
 cases r with
 | nil=>show ((0:Int)==k)=false;rw [beq_eq_false_iff_ne];omega
 | cons t q=>rfl
theorem TokB.drop_cells {w:World} {B:Nat} {v:Value} {L:List TokI} {i:Nat} {t:TokI} {q:List TokI} (h:TokB w B v L) (hd:L.drop i=t::q) :
  ∃ g off cap,v = .slice (some ⟨g,off,none⟩) L.length cap/\g<B/\i<L.length/\TAt w g (off+i * 4) t:=by
 obtain ⟨a,cap,rfl,hl,hc⟩:=h;have hi:i<L.length:=by
  rcases Nat.lt_or_ge i L.length with h|h
  ·exact h
  ·rw [List.drop_eq_nil_of_le h] at hd;cases hd
 obtain ⟨g,off,rfl,hB,hk⟩:=hc (by rintro rfl;simp at hi);refine ⟨g,off,cap,rfl,hB,hi,?_⟩;have e:L[i]=t:=by
  have:=List.drop_eq_getElem_cons hi;rw [hd] at this;injection this with h1 _;exact h1.symm
 have:=hk i hi;rw [e] at this;exact this
theorem QeR (m F:Int) (B b i:Nat) (w:World) (L:List TokI) (o:List Nd) (h:RSt m B b w L i F o) (hL:L.length<=1000000) :
  Calls Tryz.prog 143 #[.pointer (some ⟨b,0,none⟩)] w fun e w'=>e = .returned (.int .i64 (Qeq (L.drop i)))/\∃ n,w'=w.drewN n:=by
 obtain ⟨⟨tv,nv,h1,h2,h3⟩,h4,h5,h6,h7,h8,h9,ha,hc,hd⟩:=h;cases hx:L.drop i with
 | nil =>
   obtain ⟨a,cap,rfl,hl,hc⟩:=h2;have hi:(i:Int)>=(L.length:Int):=by
    have:=congrArg List.length hx;rw [List.length_drop] at this;simp only [List.length_nil] at this;omega
   obtain ⟨c0,c1,c2,c3⟩:=Qac h1;clear hc h3 h6 h8 h1 hx h7;go_enter Tryz.func143,Tryz.ntmps143;go_wp2_with fail;go_quiet (fail);go_wp2_with fail;go_ret;exact ⟨rfl,_,rfl⟩
 | cons t q =>
   obtain ⟨g,off,cap,rfl,hB,hi,d0,d1,d2,d3⟩:=h2.drop_cells hx;obtain ⟨c0,c1,c2,c3⟩:=Qac h1;have hi1:¬ (i:Int)>=(L.length:Int):=by omega
   have hi2:(i:Int)<(L.length:Int):=by omega
   clear h3 h6 h8 h1 hx h7 h2;go_enter Tryz.func143,Tryz.ntmps143;go_wp2_with fail;go_quiet (fail);go_wp2_with fail;go_quiet (fail);go_wp2_with fail;go_ret;exact ⟨rfl,_,by unfold World.drewN;simp only [Nat.add_assoc];rfl⟩
theorem RSt.setF {m F G:Int} {B b i:Nat} {w:World} {L:List TokI} {o:List Nd} (h:RSt m B b w L i F o) (h0:F<=G) (h1:G<=L.length) :
  RSt m B b (w.setCell ⟨b,3,none⟩ (.int .i64 G)) L i G o:=by
 obtain ⟨tv,nv,k1,k2,k3⟩:=h.ex;have hB:Below B w (w.setCell ⟨b,3,none⟩ (.int .i64 G)):=Zb.setCell h.base _;have:=h.f0;have:=h.ol;exact ⟨⟨tv,nv,heap_setCell_same _ _ 3 _ _ _ k1,k2.below hB,QaA k3 _ _ (Qd5 k3 k1)⟩,h.base,Nat.le_trans h.size hB.size,h.syn.below hB h.hund,h.hund,h.good,h.ix,by omega,h1,by omega⟩
theorem RSt.setI {m F:Int} {B b i j:Nat} {w:World} {L:List TokI} {o:List Nd} (h:RSt m B b w L i F o) (h0:i<=j) (h1:j<=L.length) :
  RSt m B b (w.setCell ⟨b,1,none⟩ (.int .i64 j)) L j F o:=by
 obtain ⟨tv,nv,k1,k2,k3⟩:=h.ex;have hB:Below B w (w.setCell ⟨b,1,none⟩ (.int .i64 j)):=Zb.setCell h.base _;have:=h.ol;exact ⟨⟨tv,nv,heap_setCell_same _ _ 1 _ _ _ k1,k2.below hB,QaA k3 _ _ (Qd5 k3 k1)⟩,h.base,Nat.le_trans h.size hB.size,h.syn.below hB h.hund,h.hund,h.good,h1,h.f0,h.f1,by omega⟩
theorem Qg7 (m:Int) (B b i:Nat) (w:World) (L:List TokI) (o:List Nd) (h:RSt m B b w L i (-1) o) :
  Calls Tryz.prog 140 #[.pointer (some ⟨b,0,none⟩)] w fun e w'=>e = .returned (.tuple #[])/\RSt m B b w' L i i o/\Below B w w':=by
 have KEY:=Za (h.setF (G:=i) (by omega) (by have:=h.ix;omega));have HB:Hid (Below B w (w.setCell ⟨b,3,none⟩ (.int .i64 i))):=Za (Zb.setCell h.base _);obtain ⟨tv,nv,h1,h2,h3⟩:=h.ex;obtain ⟨c0,c1,c2,c3⟩:=Qac h1;have f3:=Qam h1 3;clear h2 h3 h1 h;go_enter Tryz.func140,Tryz.ntmps140;go_wp2_with fail;go_end0;exact ⟨rfl,KEY.out,HB.out⟩
theorem Qmn (m F:Int) (B b i:Nat) (w:World) (L:List TokI) (o:List Nd) (h:RSt m B b w L i F o) (hF:0<=F) :
  Calls Tryz.prog 140 #[.pointer (some ⟨b,0,none⟩)] w fun e w'=>e = .returned (.tuple #[])/\w=w':=by
 obtain ⟨tv,nv,h1,h2,h3⟩:=h.ex;obtain ⟨c0,c1,c2,c3⟩:=Qac h1;have hF2:¬ F<0:=by omega
 clear h2 h3 h1 h;go_enter Tryz.func140,Tryz.ntmps140;go_wp2_with fail;go_end0;exact ⟨rfl,rfl⟩
theorem Qg8 (m F k:Int) (B b i:Nat) (w:World) (L:List TokI) (o:List Nd) (h:RSt m B b w L i F o) (hF:0<=F) :
  Calls Tryz.prog 203 #[.pointer (some ⟨b,0,none⟩),.int .i64 k] w fun e w'=>e = .returned (.tuple #[])/\w=w':=by
 have HF:=Za (Qmn m F B b i w L o h hF);obtain ⟨tv,nv,h1,h2,h3⟩:=h.ex;obtain ⟨c0,c1,c2,c3⟩:=Qac h1;have hF2:F>=0:=by omega
 clear h2 h3 h1 h;go_enter Tryz.func203,Tryz.ntmps203;go_wp2_with fail;((with_reducible refine HF.out.mono ?_));rintro e w1 ⟨rfl,rfl⟩;go_wp2_with fail;(try simp only [Exit.inBlock,Exit.then]);refine bodyPost_ret (results_none rfl _ _ _) rfl ?_;exact ⟨rfl,rfl⟩
theorem Qtl (m k:Int) (B b i:Nat) (w:World) (L:List TokI) (o:List Nd) (h:RSt m B b w L i (-1) o) (hL:L.length<=1000000) (hk0:k≠0) (hk:atT k (L.drop i)=false) :
  Calls Tryz.prog 203 #[.pointer (some ⟨b,0,none⟩),.int .i64 k] w fun e w'=>e = .returned (.tuple #[])/\RSt m B b w' L i i o/\Below B w w':=by
 have HF:=Za (fun n=>Qg7 m B b i (w.drewN n) L o (h.below (below_drewN Zb n)));have HK:=Za (QeR m (-1) B b i w L o h hL);obtain ⟨tv,nv,h1,h2,h3⟩:=h.ex;obtain ⟨c0,c1,c2,c3⟩:=Qac h1;rw [<- QfA k hk0] at hk;generalize Qeq (L.drop i)=z at *;have hz:(z != k)=true:=by rw [bne,hk];rfl
 clear h2 h3 h1 h hk;go_enter Tryz.func203,Tryz.ntmps203;go_wp2_with fail;((with_reducible refine HK.out.mono ?_));rintro e w1 ⟨rfl,n,rfl⟩;go_wp2_with fail;((with_reducible refine (HF.out n).mono ?_));rintro e w1 ⟨rfl,hb,hB⟩;have HB:=Za hb;have HL:Hid (Below B w w1):=Za ((below_drewN Zb n).trans hB);clear hb hB;go_wp2_with fail;(try simp only [Exit.inBlock,Exit.then]);refine bodyPost_ret (results_none rfl _ _ _) rfl ?_;exact ⟨rfl,HB.out,HL.out⟩
theorem Qjz (m k:Int) (B b i:Nat) (w:World) (L:List TokI) (o:List Nd) (h:RSt m B b w L i (-1) o) (hL:L.length<=1000000) (hk0:k≠0) (hk:atT k (L.drop i)=true) :
  Calls Tryz.prog 203 #[.pointer (some ⟨b,0,none⟩),.int .i64 k] w fun e w'=>e = .returned (.tuple #[])/\RSt m B b w' L (i+1) (-1) o/\Below B w w':=by
 have HK:=Za (QeR m (-1) B b i w L o h hL);have hi:=QcA hk;rw [List.length_drop] at hi;have KEY:=Za (fun n=>(h.below (below_drewN Zb n)).setI (j:=i+1) (by omega) (by omega));have HB:Hid (∀ n,Below B w ((w.drewN n).setCell ⟨b,1,none⟩ (.int .i64 (i+1:Nat)))):=Za (fun n=>(below_drewN Zb n).setCell h.base _);rw [show ((i+1:Nat):Int)=(i:Int)+1 by omega] at KEY HB;obtain ⟨tv,nv,h1,h2,h3⟩:=h.ex;obtain ⟨c0,c1,c2,c3⟩:=Qac h1;have f1:=Qam h1 1;rw [<- QfA k hk0] at hk;generalize Qeq (L.drop i)=z at *;have hz:(z != k)=false:=by rw [bne,hk];rfl
 clear h2 h3 h1 h hk;go_enter Tryz.func203,Tryz.ntmps203;go_wp2_with fail;((with_reducible refine HK.out.mono ?_));rintro e w1 ⟨rfl,n,rfl⟩;go_wp2_with fail;go_end0;exact ⟨rfl,KEY.out n,HB.out n⟩
end
section
open Go.RowKit
attribute [local go_sem] ByteArray.mk_append_mk Qah Qai Qag
attribute [local go_sem] SameB.some SameB.all
theorem RSt.grown {m F:Int} {B b i:Nat} {w w':World} {L:List TokI} {o o':List Nd} {tv nv u:Value} (h:RSt m B b w L i F o) (hb:w.heap[b]?=some (Qd4 tv i nv F)) (ht:TokB w B tv L) (hn:NodesI w B nv o) (hg:w.grownBy w' nv.ownBlock) (hu:NodesI w' B u o') (hol:(o'.length:Int)<=i+F+1) :
  RSt m B b (w'.setCell ⟨b,2,none⟩ u) L i F o'/\Below B w (w'.setCell ⟨b,2,none⟩ u):=by
 have hB:Below B w w':=Zb.grown hg h.size (fun k hk=>QaN hn hk);have h1:w'.heap[b]?=some (Qd4 tv i nv F):=(hg.block b (lt_of_block hb) (fun e=>Qd5 hn hb e.symm)).trans hb;have hB2:Below B w' (w'.setCell ⟨b,2,none⟩ u):=Zb.setCell h.base _;refine ⟨⟨⟨tv,u,heap_setCell_same _ _ 2 _ _ _ h1,ht.below (hB.trans hB2),QaA hu _ _ (Qd5 hu h1)⟩,h.base,Nat.le_trans h.size (hB.trans hB2).size,h.syn.below (hB.trans hB2) h.hund,h.hund,h.good,h.ix,h.f0,h.f1,hol⟩,hB.trans hB2⟩
set_option maxRecDepth 100000 in
theorem Qtm (m F:Int) (B b i:Nat) (k n p:Int) (s:List UInt8) (w:World) (r:List TokI) (o:List Nd) (h:RSt m B b w r i F o) (hl:o.length<=900000) (hol:(o.length:Int)<=i+F) :
  Calls Tryz.prog 141 #[.pointer (some ⟨b,0,none⟩),Qbz k n s p] w fun e w'=>e = .returned (.int .i64 o.length)/\RSt m B b w' r i F (o++[⟨k,n,s,p⟩])/\Below B w w':=by
 have H0:=Za (h.alloc (Qae k n s p));have HN0:=Za (heap_alloc_new w (Qae k n s p));have HB0:Hid (Below B w (w.alloc (Qae k n s p))):=Za (Zb.alloc h.size _);obtain ⟨tv,nv,h1,h2,h3⟩:=h.ex;obtain ⟨na,nc,rfl⟩:=h3.form;have hal:Below w.heap.size w (w.alloc (Qae k n s p)):=Zb.alloc Zc _;have HP1:=Za (Qad h1 hal);have HT1:=Za (h2.below (hal.mono h.size));have HO1:=Za (h3.below hal);have HNE:Hid (∀ g,(Value.slice na o.length nc).ownBlock=some g->g<w.heap.size):=Za (fun g hg=>Qfn h3 hg);clear h h1 h2 h3 hal;unfold Qbz;go_enter Tryz.func141,Tryz.ntmps141;go_upto_region 1 with fail;obtain ⟨P,hP⟩:∃ P,w.heap.size=P:=⟨_,rfl⟩;rw [hP] at HN0 HNE;simp only [hP];generalize w.alloc (Qae k n s p)=W at *;have k0:∀ x,SameB W b P x->x.cell? ⟨b,2,none⟩=some (.slice na o.length nc):=fun x hx=>(Qac (hx.1.trans HP1.out)).2.2.1;have q0:∀ x,SameB W b P x->x.cell? ⟨P,0,none⟩=some (.int .i64 k):=fun x hx=>(Qac (hx.2.trans HN0.out)).1;have q1:∀ x,SameB W b P x->x.cell? ⟨P,1,none⟩=some (.int .u64 n):=fun x hx=>(Qac (hx.2.trans HN0.out)).2.1;have q2:∀ x,SameB W b P x->x.cell? ⟨P,2,none⟩=some (.string ⟨s.toArray⟩):=fun x hx=>(Qac (hx.2.trans HN0.out)).2.2.1;have q3:∀ x,SameB W b P x->x.cell? ⟨P,3,none⟩=some (.int .i64 p):=fun x hx=>(Qac (hx.2.trans HN0.out)).2.2.2;have HPL:Hid (P<W.heap.size):=Za (lt_of_block HN0.out);have HBL:Hid (b<W.heap.size):=Za (lt_of_block HP1.out);clear hP;refine Qak (SameB W b P) 8 [.reads [0,1,2,3,4,5],.act 6,.act 7,.act 8,.act 9,.act 10] (by kernel_rfl) (by kernel_rfl) (by kernel_rfl) (by kernel_rfl) (by kernel_rfl) (fun _ _ d _ _ h=>by cases d<;>exact h) ⟨rfl,rfl⟩ ?_;refine Qaf ?_;simp only [Qab,pQ1,pQ2,pQ3,pQ4,pQ5,pQ6]
 repeat (go_big_quiet_step (first|(intro hb;rw [k0 _ hb];exact ⟨rfl,rfl⟩)|(intro hb;rw [q0 _ hb];simp only [Result.andThen];rw [q1 _ hb];simp only;rw [q2 _ hb];simp only;rw [q3 _ hb];exact ⟨rfl,rfl⟩)))
 refine wpQuiet_nil ?_;refine Qaa rfl ?_;simp only [Qab,pQ1,pQ2,pQ3,pQ4,pQ5,pQ6];go_wp2_with fail;have hg1:Grows W (W.alloc (Qae k n s p)).drew:=Below.drew (Zb.alloc Zc _);have H1:=Za (H0.out.below hg1);have HP2:=Za (Qad HP1.out hg1);have HPP:=Za (Qad HN0.out hg1);have HT2:=Za (HT1.out.below (hg1.mono H0.out.size));have HO2:=Za (HO1.out.below hg1);have HNN:Hid ((W.alloc (Qae k n s p)).drew.heap[W.heap.size]?=some (Qae k n s p)):=Za (heap_alloc_new W _);have HB2:Hid (Below B w (W.alloc (Qae k n s p)).drew):=Za (HB0.out.trans (hg1.mono H0.out.size));refine ⟨fun _=>⟨hg1.block b HBL.out,hg1.block P HPL.out⟩,?_⟩;have HS2:Hid (SameB W b P (W.alloc (Qae k n s p)).drew):=Za ⟨hg1.block b HBL.out,hg1.block P HPL.out⟩;generalize (W.alloc (Qae k n s p)).drew=V at *;clear hg1 H0 HN0 HP1 HT1 HO1 HB0 k0 q0 q1 q2 q3;refine Qaa rfl ?_;simp only [Qab,pQ1,pQ2,pQ3,pQ4,pQ5,pQ6];go_wp2_with (at_builtin;refine Qav rfl _ _ rfl B _ o rfl HO2.out W.heap.size ⟨k,n,s,p⟩ rfl HNN.out (by omega) H1.out.size ?_;intro v2 w2 ho hg;obtain ⟨a2,c2,rfl⟩:=NodesI.form ho;have HO3:=Za ho;have HG3:=Za hg;clear ho hg);refine ⟨fun _=>⟨(HG3.out.block b (lt_of_block HP2.out) (fun e=>Qd5 HO2.out HP2.out e.symm)).trans HS2.out.1,(HG3.out.block P (lt_of_block HPP.out) (fun e=>absurd (HNE.out P e.symm) (Nat.lt_irrefl _))).trans HS2.out.2⟩,?_⟩;refine Qaa rfl ?_;simp only [Qab,pQ1,pQ2,pQ3,pQ4,pQ5,pQ6];go_wp2_with fail;refine ⟨fun h=>absurd h (by decide),?_⟩;refine Qaa rfl ?_;simp only [Qab,pQ1,pQ2,pQ3,pQ4,pQ5,pQ6];go_wp2_with fail;refine ⟨fun h=>absurd h (by decide),?_⟩;refine Qaa rfl ?_;simp only [Qab,pQ1,pQ2,pQ3,pQ4,pQ5,pQ6];have hb3:=(HG3.out.block b (lt_of_block HP2.out) (fun e=>Qd5 HO2.out HP2.out e.symm)).trans HP2.out;have f3:=Qam hb3 2;have c3:=(Qac hb3).2.2.1;clear hb3;go_wp2_with fail;refine ⟨fun h=>absurd h (by decide),Qat ?_⟩;obtain ⟨hr,hlw⟩:=H1.out.grown HP2.out HT2.out HO2.out HG3.out HO3.out (by simp only [List.length_append,List.length_cons,List.length_nil];omega);have HR:=Za hr;have HL:=Za hlw;have hb9:=(HG3.out.block b (lt_of_block HP2.out) (fun e=>Qd5 HO2.out HP2.out e.symm)).trans HP2.out;have c9:=(Qac (heap_setCell_same _ _ 2 _ _ (.slice a2 (o++[(⟨k,n,s,p⟩:Nd)]).length c2) hb9)).2.2.1;clear c3 f3 hr hlw HG3 HO3 HP2 HT2 HO2 H1 HPP HNN HS2 hb9;obtain ⟨O,hO⟩:∃ O,o++[(⟨k,n,s,p⟩:Nd)]=O:=⟨_,rfl⟩;have hOl:O.length=o.length+1:=by rw [<- hO];simp
 rw [hO] at HR HL c9;rw [hOl] at HR HL c9;have HO:=Za hO;clear hO hOl;generalize w2.setCell ⟨b,2,none⟩ (.slice a2 (o.length+1) c2)=W9 at *;go_wp2_with fail;go_ret;exact ⟨rfl,by rw [HO.out];exact HR.out,HB2.out.trans HL.out⟩
end
section
open Go.RowKit
attribute [local go_sem] ByteArray.mk_append_mk Qah Qai Qag
abbrev Rw:=Int×List UInt8×List UInt8
def QoJ:List Rw:=[(10,[83,99,111,112,101],[110,68]),(11,[68,101,118,105,99,101],[115,68]),(12,[80,111,119,101,114,82,101,115,111,117,114,99,101],[115,105,105,68]),(13,[78,97,109,101],[115,100]),(14,[77,101,116,104,111,100],[115,105,105,105,83]),(15,[79,112,101,114,97,116,105,111,110,82,101,103,105,111,110],[115,105,105,105]),(16,[70,105,101,108,100],[110,105,105,70]),(17,[73,110,100,101,120,70,105,101,108,100],[110,110,105,105,70]),(18,[85,110,105,116],[115,105]),(19,[83,107,105,112],[105]),(20,[77,117,116,101,120],[115,105]),(21,[69,118,101,110,116],[115]),(30,[83,116,111,114,101],[101,116]),(31,[73,102],[101,83]),(32,[87,104,105,108,101],[101,83]),(33,[82,101,116,117,114,110],[]),(34,[66,114,101,97,107],[]),(35,[67,111,110,116,105,110,117,101],[]),(36,[82,101,108,101,97,115,101],[110]),(37,[83,105,103,110,97,108],[110]),(38,[82,101,115,101,116],[110]),(39,[83,108,101,101,112],[101]),(40,[78,111,116,105,102,121],[110,101]),(41,[65,99,113,117,105,114,101],[110,105]),(42,[87,97,105,116],[110,101]),(50,[66,117,102,102,101,114],[105,73]),(51,[80,97,99,107,97,103,101],[105,80]),(85,[82,101,102,79,102],[116]),(87,[79,98,106,101,99,116,84,121,112,101],[116]),(86,[67,111,110,100,82,101,102,79,102],[110]),(88,[77,105,100],[101,101,101])]
def two0:List (List UInt8):=[[65,100,100],[83,117,98,116,114,97,99,116],[77,117,108,116,105,112,108,121],[68,105,118,105,100,101],[77,111,100],[65,110,100],[79,114],[88,111,114],[83,104,105,102,116,76,101,102,116],[83,104,105,102,116,82,105,103,104,116],[76,65,110,100],[76,79,114],[76,69,113,117,97,108],[76,76,101,115,115],[76,71,114,101,97,116,101,114],[67,111,110,99,97,116,101,110,97,116,101],[73,110,100,101,120]]
def one0:List (List UInt8):=[[78,111,116],[76,78,111,116],[83,105,122,101,79,102],[84,111,73,110,116,101,103,101,114],[84,111,66,117,102,102,101,114],[84,111,72,101,120,83,116,114,105,110,103],[84,111,68,101,99,105,109,97,108,83,116,114,105,110,103],[68,101,114,101,102,79,102]]
def Qvs:List Rw:=[(60,[65,100,100],[101,101]),(61,[83,117,98,116,114,97,99,116],[101,101]),(62,[77,117,108,116,105,112,108,121],[101,101]),(63,[68,105,118,105,100,101],[101,101]),(64,[77,111,100],[101,101]),(65,[65,110,100],[101,101]),(66,[79,114],[101,101]),(67,[88,111,114],[101,101]),(68,[83,104,105,102,116,76,101,102,116],[101,101]),(69,[83,104,105,102,116,82,105,103,104,116],[101,101]),(70,[76,65,110,100],[101,101]),(71,[76,79,114],[101,101]),(72,[76,69,113,117,97,108],[101,101]),(73,[76,76,101,115,115],[101,101]),(74,[76,71,114,101,97,116,101,114],[101,101]),(75,[67,111,110,99,97,116,101,110,97,116,101],[101,101]),(76,[73,110,100,101,120],[101,101])]
def Qvt:List Rw:=[(77,[78,111,116],[101]),(78,[76,78,111,116],[101]),(79,[83,105,122,101,79,102],[101]),(80,[84,111,73,110,116,101,103,101,114],[101]),(81,[84,111,66,117,102,102,101,114],[101]),(82,[84,111,72,101,120,83,116,114,105,110,103],[101]),(83,[84,111,68,101,99,105,109,97,108,83,116,114,105,110,103],[101]),(84,[68,101,114,101,102,79,102],[101])]
def rowsL:List Rw:=QoJ++Qvs++Qvt
def rcI:List Rw->List Value
 | []=>[]
 | t::r=>.int .i64 t.1::.string ⟨t.2.1.toArray⟩::.string ⟨t.2.2.toArray⟩::rcI r
theorem QoK:∀ l m:List Rw,rcI (l++m)=rcI l++rcI m
 | [],m=>rfl
 | t::r,m=>by rw [List.cons_append,rcI,rcI,QoK r m];rfl
theorem QrK:∀ (l:List Rw) (i:Nat) (h:i<l.length),(rcI l)[i * 3]?=some (.int .i64 l[i].1)/\(rcI l)[i * 3+1]?=some (.string ⟨l[i].2.1.toArray⟩)/\(rcI l)[i * 3+2]?=some (.string ⟨l[i].2.2.toArray⟩)
 | t::r,0,_=>⟨rfl,rfl,rfl⟩
 | t::r,i+1,h=>by
   have:=QrK r i (by simpa using h);rw [show (i+1) * 3=i * 3+3 by omega];exact this
def RowsI (w:World) (B:Nat) (v:Value) (l:List Rw):Prop:=w.ownsRow B 102 3 v l.length (rcI l)
theorem RowsI.form {w:World} {B:Nat} {v:Value} {l:List Rw} (h:RowsI w B v l):∃ a c,v = .slice a l.length c:=by
 rcases h.2 with ⟨rfl,h0⟩|⟨g,cap,cur,rfl,_⟩
 ·exact ⟨none,0,by rw [h0]⟩
 ·exact ⟨_,cap,rfl⟩
theorem RowsI.below {w w':World} {B:Nat} {v:Value} {l:List Rw} (h:RowsI w B v l) (hb:Below w.heap.size w w'):RowsI w' B v l:=QbH h hb
theorem RowsI.cells {w:World} {B:Nat} {v:Value} {l:List Rw} (h:RowsI w B v l) (hn:l≠[]):∃ g c,v = .slice (some ⟨g,0,none⟩) l.length c/\g<w.heap.size/\B<=g /\
  ∀ i (h:i<l.length),w.cell? ⟨g,i * 3,none⟩=some (.int .i64 l[i].1)/\w.cell? ⟨g,i * 3+1,none⟩=some (.string ⟨l[i].2.1.toArray⟩)/\w.cell? ⟨g,i * 3+2,none⟩=some (.string ⟨l[i].2.2.toArray⟩):=by
 obtain ⟨g,cap,hv,hB⟩:∃ g cap,v = .slice (some ⟨g,0,none⟩) l.length cap/\B<=g:=by
  rcases h.2 with ⟨_,h0⟩|⟨g,cap,cur,e,hb,_⟩
  ·exact absurd (List.eq_nil_of_length_eq_zero h0) hn
  ·exact ⟨g,cap,e,hb⟩
 subst hv;have hp:=List.length_pos_iff.2 hn;have hat:=QrK l;refine ⟨g,cap,rfl,?_,hB,fun i hi=>⟨?_,?_,?_⟩⟩
 ·exact World.block_lt_of_cell? w ⟨g,0,none⟩ ((World.ownsRow.cellAt h 0 (by omega)).trans (hat 0 hp).1)
 ·rw [World.ownsRow.cellAt h _ (by omega)];exact (hat i hi).1
 ·rw [World.ownsRow.cellAt h _ (by omega)];exact (hat i hi).2.1
 ·rw [World.ownsRow.cellAt h _ (by omega)];exact (hat i hi).2.2
theorem Qtn:(Tryz.prog.info? 102).map (fun i=>(i.zero,i.size,i.bytes))=some (some (.agg #[.int .i64 0,.string ⟨#[]⟩,.string ⟨#[]⟩]),3,40):=by kernel_rfl
abbrev QbG (a:Int) (b c:List UInt8):Obj:=.cells #[.int .i64 a,.string ⟨b.toArray⟩,.string ⟨c.toArray⟩] 102 (0,0)
theorem Qer {w:World} {ops:Array Oper} {rest:List Oper} {o:Oper} {a:Act} {Q:Exit->Act->World->Prop} (hgd:o.guard=none) (s x:Operand)
  (ho:o.op = .call { callee:=.builtin .append,args:=#[s,x],argTypes:=#[152,152] })
  (B:Nat) (v:Value) (l:List Rw) (hs:a.eval s=v) (hown:RowsI w B v l) (g:Nat) (t:Rw)
  (hx:a.eval x = .slice (some ⟨g,0,none⟩) 1 1) (hb:w.heap[g]?=some (QbG t.1 t.2.1 t.2.2)) (hlen:l.length<=1000000) (hB:B<=w.heap.size)
  (h:∀ v' w',RowsI w' B v' (l++[t])->w.grownBy w' v.ownBlock->wpList Tryz.prog ops Q rest (a.put o.dst v') w'):wpList Tryz.prog ops Q (o::rest) a w:=by
 obtain ⟨i0,hi,hz0,hz1,hz2⟩:=info_parts Qtn;have hc:∀ (j:Nat) (z:Value),(rcI [t])[j]?=some z->w.cell? ⟨g,j,none⟩=some z:=by
  intro j z hj;rw [cell_of_row w g j _ _ (0,0) hb]
  match j,hj with
  | 0,hj=>cases hj;rfl
  | 1,hj=>cases hj;rfl
  | 2,hj=>cases hj;rfl
 refine wpList_append_own _ hgd s x _ ho B 102 i0 _ 3 40 Tryz.underlying152 hi hz0 hz1 hz2 rfl (by decide) v l.length _ hs hown ⟨g,0,none⟩ 1 1 (rcI [t]) hx rfl ?_ ?_ (by unfold maxLen;omega) (by omega) hB ?_
 ·intro j z hj;have e:(⟨g,0,none⟩:Addr).add j=⟨g,j,none⟩:=by by_cases h:j=0<;>simp [Addr.add,h]
  rw [e];exact hc j z hj
 ·intro z hz;simp only [rcI,List.mem_cons,List.not_mem_nil,or_false] at hz;rcases hz with rfl|rfl|rfl<;>rfl
 ·intro v' w' h1 h2 _;refine h v' w' ?_ h2;unfold RowsI;rw [List.length_append,QoK];exact h1
end
section
open Go.RowKit
def QhA (op:Int):Option Rw:=rowsL.find? (fun t=>t.1==op)
def Qg9 (s:List UInt8):Option Rw:=rowsL.find? (fun t=>t.2.1==s)
def Qec:Option Rw->Rw
 | some t=>t
 | none=>(0,[],[])
def QeS (op:Int):Bool:=(decide (10<=op)&&decide (op<=21))||(decide (30<=op)&&decide (op<=42))||op==50||op==51||(decide (60<=op)&&decide (op<=88))
theorem QrL:∀ n:Fin 100,QeS (n.val:Int)=true->QhA (n.val:Int)=some ((n.val:Int),Qax (n.val:Int)):=by decide +kernel
theorem QfB {op:Int} (h:QeS op=true):∃ n:Fin 100,op=(n.val:Int):=by
 unfold QeS at h;simp only [Bool.or_eq_true,Bool.and_eq_true,decide_eq_true_eq,beq_iff_eq] at h;exact ⟨⟨op.toNat,by omega⟩,by show op=((op.toNat:Nat):Int);omega⟩
theorem QjA {op:Int} (h:QeS op=true):QhA op=some (op,Qax op):=by
 obtain ⟨n,rfl⟩:=QfB h;exact QrL n h
theorem QrM:∀ t∈rowsL,QeS t.1=true:=by decide +kernel
theorem QpY:∀ t∈rowsL,Qg9 t.2.1=some t/\opW t.2.1=t.1:=by decide +kernel
theorem QpZ:(∀ x∈declT,∃ t∈rowsL,t.2.1=x.1)/\(∀ x∈stmtT,∃ t∈rowsL,t.2.1=x.1)/\(∀ x∈exprT,∃ t∈rowsL,t.2.1=x.1)/\(∃ t∈rowsL,t.2.1=[66,117,102,102,101,114])/\(∃ t∈rowsL,t.2.1=[80,97,99,107,97,103,101]):=by decide +kernel
theorem Qfe {w:List UInt8}:∀ (l:List (List UInt8×List UInt8)) (i:Nat),(∀ x∈l,x.1≠w)->Qkw w l i=none
 | [],i,h=>rfl
 | x::r,i,h=>by
   rw [Qkw,if_neg (h x (by simp))];exact Qfe r (i+1) (fun y hy=>h y (by simp [hy]))
theorem QkP (s:List UInt8):(Qec (Qg9 s)).1=opW s:=by
 by_cases h:∃ t∈rowsL,t.2.1=s
 ·obtain ⟨t,ht,rfl⟩:=h;obtain ⟨h1,h2⟩:=QpY t ht;rw [h1,h2];rfl
 ·have e1:Qg9 s=none:=by
   unfold Qg9;rw [List.find?_eq_none];intro t ht hs;exact h ⟨t,ht,by simpa using hs⟩
  obtain ⟨a1,a2,a3,a4,a5⟩:=QpZ;have k:∀ (l:List (List UInt8×List UInt8)),(∀ x∈l,∃ t∈rowsL,t.2.1=x.1)->∀ x∈l,x.1≠s:=by
   intro l hl x hx e;obtain ⟨t,ht,e2⟩:=hl x hx;exact h ⟨t,ht,e2.trans e⟩
  rw [e1];unfold opW;rw [Qfe _ _ (k _ a3),Qfe _ _ (k _ a2),Qfe _ _ (k _ a1)];simp only [];rw [if_neg (fun e=>by rw [e] at h;exact h a4),if_neg (fun e=>by rw [e] at h;exact h a5)];rfl
theorem Qlw {s:List UInt8} (h:opW s≠0):QeS (opW s)=true:=by
 rw [<- QkP] at h |-;cases hx:Qg9 s with
 | none=>rw [hx] at h;exact absurd rfl h
 | some t=>exact QrM t (List.mem_of_find?_eq_some hx)
def Qfl (s word:List UInt8) (n:Int):Int :=
 match s.getLast? with
 | none=>-1
 | some c=>if s.dropLast=word/\48<=c.toNat/\c.toNat<=57/\(c.toNat:Int)-48<n then (c.toNat:Int)-48 else -1
theorem Qmo (s:List UInt8):QiS s=if 0<=Qfl s [76,111,99,97,108] 8 then some (6,(Qfl s [76,111,99,97,108] 8).toNat) else if 0<=Qfl s [65,114,103] 7 then some (7,(Qfl s [65,114,103] 7).toNat) else none:=by
 unfold QiS Qfl;cases s.getLast? with
 | none=>rfl
 | some c =>
   simp only [];by_cases h1:s.dropLast=[76,111,99,97,108]/\48<=c.toNat/\c.toNat<56
   ·rw [if_pos h1,if_pos (show s.dropLast=[76,111,99,97,108]/\48<=c.toNat/\c.toNat<=57/\(c.toNat:Int)-48<8 from ⟨h1.1,h1.2.1,by omega,by omega⟩),if_pos (by omega)]
    congr 2;omega
   ·rw [if_neg h1,if_neg (show ¬ (s.dropLast=[76,111,99,97,108]/\48<=c.toNat/\c.toNat<=57/\(c.toNat:Int)-48<8) from fun h=>h1 ⟨h.1,h.2.1,by omega⟩),if_neg (show ¬ (0:Int)<=-1 by decide)];by_cases h2:s.dropLast=[65,114,103]/\48<=c.toNat/\c.toNat<55
    ·rw [if_pos h2,if_pos (show s.dropLast=[65,114,103]/\48<=c.toNat/\c.toNat<=57/\(c.toNat:Int)-48<7 from ⟨h2.1,h2.2.1,by omega,by omega⟩),if_pos (by omega)]
     congr 2;omega
    ·rw [if_neg h2,if_neg (show ¬ (s.dropLast=[65,114,103]/\48<=c.toNat/\c.toNat<=57/\(c.toNat:Int)-48<7) from fun h=>h2 ⟨h.1,h.2.1,by omega⟩),if_neg (show ¬ (0:Int)<=-1 by decide)]
theorem QnP {s word:List UInt8} {n:Int} (h:s.length≠word.length+1):Qfl s word n = -1:=by
 unfold Qfl;cases hs:s.getLast? with
 | none=>rfl
 | some c =>
   simp only [];refine if_neg (fun e=>h ?_);have:=congrArg List.length e.1;rw [List.length_dropLast] at this;cases s with
   | nil=>cases hs
   | cons a q=>simp only [List.length_cons] at this |-;omega
theorem QrN (d word:List UInt8) (c:UInt8) (n:Int):Qfl (d++[c]) word n=if d=word/\48<=c.toNat/\c.toNat<=57/\(c.toNat:Int)-48<n then (c.toNat:Int)-48 else -1:=by
 unfold Qfl;rw [List.getLast?_concat,List.dropLast_concat]
theorem QoL (s word:List UInt8) (n:Int) (hn:0<=n):Qfl s word n<n/\-1<=Qfl s word n:=by
 unfold Qfl;cases s.getLast? with
 | none=>simp only [];omega
 | some c=>simp only [];split<;>omega
def Qf2 (k:UInt8):Bool:=k==68||k==83||k==70||k==73||k==80
end
section
open Go.RowKit
attribute [local go_sem] ByteArray.mk_append_mk Qah Qai Qag
theorem QnQ {s x:List UInt8} (h:QaE s=[x]):x=s:=by
 obtain ⟨a,y,h1,h2,h3⟩:=Qfc s;rcases h3 with ⟨rfl,h4⟩|⟨t,rfl,h4⟩
 ·rw [h] at h4;injection h4 with h4 _;rw [h1,h4,List.append_nil]
 ·rw [h] at h4;injection h4 with _ h5;exact absurd h5.symm (QeH t)
theorem Qlx {s:List UInt8} (h:∀ c∈s,c≠46):QaE s=[s]:=by
 obtain ⟨a,y,h1,h2,h3⟩:=Qfc s;rcases h3 with ⟨rfl,h4⟩|⟨t,rfl,h4⟩
 ·rw [h4,h1,List.append_nil]
 ·exact absurd rfl (h 46 (by rw [h1];simp))
theorem QrO {c:UInt8} (h:idB c=true):c≠46/\c≠92/\c≠94:=by
 refine ⟨?_,?_,?_⟩<;>(rintro rfl;revert h;decide)
theorem QkQ {s:List UInt8} (h:QaW s=true):Qf6 s=QaV s:=by
 have hv:=h;unfold QaW at hv;have hsg:=QbN hv;rw [Bool.eq_iff_iff];constructor
 ·intro hs;unfold Qf6 at hs;simp only [Bool.and_eq_true,Bool.not_eq_true',decide_eq_true_eq] at hs;obtain ⟨⟨h1,h2⟩,h3⟩:=hs;have hr:Qbv s=s:=by
   unfold Qbp at h2;rw [h1] at h2;unfold Qbv;rw [h1];simp only [Bool.false_eq_true,if_false] at h2 |-;cases s with
   | nil=>rfl
   | cons c q =>
     by_cases hc:(c==94)=true
     ·rw [List.takeWhile_cons,if_pos hc] at h2;simp at h2
     ·rw [List.dropWhile_cons,if_neg hc]
  unfold QaG at h3 hsg;rw [hr] at h3 hsg;by_cases h0:s=[]
  ·rw [if_pos h0] at h3;simp at h3
  ·rw [if_neg h0] at h3 hsg;obtain ⟨x,hx⟩:=List.length_eq_one_iff.1 h3;have:=QnQ hx;subst this;exact hsg x (by rw [hx];simp)
 ·intro hs;cases s with
  | nil=>cases hs
  | cons c q =>
    have hall:∀ d∈c::q,idB d=true:=by
     unfold QaV at hs;simp only [Bool.and_eq_true] at hs;exact List.all_eq_true.1 hs.1.2
    have hc:=QrO (hall c (by simp));have h92:QaJ (c::q)=false:=by
     unfold QaJ;rw [Qdm,beq_eq_false_iff_ne];exact fun e=>hc.2.1 e.symm
    have h94:(c==(94:UInt8))=false:=by rw [beq_eq_false_iff_ne];exact hc.2.2
    have hu:Qbp (c::q)=0:=by
     unfold Qbp;rw [h92,List.takeWhile_cons,h94];rfl
    have hr:Qbv (c::q)=c::q:=by
     unfold Qbv;rw [h92,List.dropWhile_cons,h94];rfl
    unfold Qf6 QaG;rw [h92,hu,hr,if_neg (by simp),Qlx (fun d hd=>(QrO (hall d hd)).1)];rfl
theorem Qha:∀ r:List UInt8,QbE (QaE r)=r
 | []=>by rw [QaE,QcK]
 | c::s=>by
   have ih:=Qha s;by_cases hc:c=46
   ·subst hc;rw [Qc9];cases hs:QaE s with
    | nil=>exact absurd hs (QeH s)
    | cons x q=>rw [hs] at ih;rw [Qcc,ih];rfl
   ·cases hs:QaE s with
    | nil=>exact absurd hs (QeH s)
    | cons x q =>
      rw [hs] at ih;rw [Qbu c s hc x q hs];cases q with
      | nil=>rw [QcK] at ih |-;rw [ih]
      | cons y z=>rw [Qcc] at ih |-;rw [List.cons_append,ih]
theorem Qf9:∀ s:List UInt8,List.replicate (s.takeWhile (·==94)).length 94=s.takeWhile (·==94)
 | []=>rfl
 | c::s=>by
   by_cases hc:c=94
   ·subst hc;rw [List.takeWhile_cons,if_pos (show ((94:UInt8)==94)=true from rfl),List.length_cons,List.replicate_succ,Qf9 s]
   ·rw [List.takeWhile_cons,if_neg (by simpa using hc)];rfl
theorem Qp0 (r:List UInt8):QbE (if r=[] then [] else QaE r)=r:=by
 by_cases h:r=[]
 ·rw [if_pos h,h,QdQ]
 ·rw [if_neg h,Qha]
theorem Qto {s:List UInt8} (h:QaW s=true):Qdw (QaJ s) (Qbp s) (QaG s)=s:=by
 unfold Qdw;rw [if_pos (by exact h)];unfold QiQ QaG;rw [Qp0];cases hr:QaJ s with
 | true =>
   unfold Qbv;rw [hr,if_pos rfl,if_pos rfl];cases s with
   | nil=>cases hr
   | cons c t =>
     unfold QaJ at hr;rw [Qdm] at hr;rw [<- beq_iff_eq.1 hr];rfl
 | false =>
   unfold Qbp Qbv;rw [hr];simp only [Bool.false_eq_true,if_false,Int.toNat_natCast];rw [Qf9,List.takeWhile_append_dropWhile]
end
end Go.Proofs.YtoohondkpddmcaaGreatDoor
