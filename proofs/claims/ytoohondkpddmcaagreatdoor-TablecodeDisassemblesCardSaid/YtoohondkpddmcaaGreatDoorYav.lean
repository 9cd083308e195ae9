/- Lm Ln Mn -/
import Derived.Test.YtoohondkpddmcaaGreatDoorYzz
import Derived.Test.YtoohondkpddmcaaGreatDoorYad
import Derived.Test.YtoohondkpddmcaaGreatDoorYau
import Derived.Test.YtoohondkpddmcaaGreatDoorYar
import Derived.Lib.AppendStr
import Derived.Laws.AppendOwnNone
import Derived.Test.YtoohondkpddmcaaGreatDoorYas
namespace Go.Proofs.YtoohondkpddmcaaGreatDoor
set_option maxHeartbeats 32000000
set_option linter.unusedVariables false
set_option linter.unusedSimpArgs false
section
open Go.RowKit
attribute [local go_sem] ByteArray.mk_append_mk Qah Qai Qag
theorem Qs9 (y:List UInt8):Lib.strCells ⟨y.toArray⟩=byV y:=by unfold Lib.strCells byV;simp
theorem Qlu (a b:List UInt8):byV (a++b)=byV a++byV b:=by unfold byV;simp
theorem Qb0 {w:World} {ops:Array Oper} {rest:List Oper} {o:Oper} {a:Act} {Q:Exit->Act->World->Prop} (hgd:o.guard=none) (s x:Operand)
  (ho:o.op = .call { callee:=.builtin .append,args:=#[s,x],argTypes:=#[48,9] })
  (B:Nat) (v:Value) (l:List UInt8) (hs:a.eval s=v) (hown:Bytes w B v l) (y:List UInt8) (hx:a.eval x = .string ⟨y.toArray⟩) (hlen:l.length+y.length<=1000000000) (hB:B<=w.heap.size)
  (h:∀ v' w',Bytes w' B v' (l++y)->w.grownBy w' v.ownBlock->wpList Tryz.prog ops Q rest (a.put o.dst v') w'):wpList Tryz.prog ops Q (o::rest) a w:=by
 obtain ⟨i0,hi,hz0,hz1,hz2⟩:=info_parts Qk5;have hsz:(ByteArray.mk y.toArray).size=y.length:=by simp [ByteArray.size]
 refine Lib.wpList_append_own_string _ hgd s x _ _ ho B 5 i0 Tryz.underlying48 Tryz.underlying9 hi hz0 hz1 hz2 v l.length _ hs hown ⟨y.toArray⟩ hx (by rw [hsz];unfold maxLen;omega) (by rw [hsz];omega) hB ?_;intro v' w' h1 h2 _;refine h v' w' ?_ h2;unfold Bytes;rw [hsz,Qs9] at h1;rw [List.length_append,Qlu];exact h1
theorem Qgw {w:World} {ops:Array Oper} {rest:List Oper} {o:Oper} {a:Act} {Q:Exit->Act->World->Prop} (hgd:o.guard=none) (s x:Operand)
  (ho:o.op = .call { callee:=.builtin .append,args:=#[s,x],argTypes:=#[48,48] })
  (B:Nat) (v:Value) (l:List UInt8) (hs:a.eval s=v) (hown:Bytes w B v l) (B2:Nat) (u:Value) (y:List UInt8) (hx:a.eval x=u) (hu:Bytes w B2 u y) (hlen:l.length+y.length<=1000000000) (hB:B<=w.heap.size)
  (h:∀ v' w',Bytes w' B v' (l++y)->w.grownBy w' v.ownBlock->wpList Tryz.prog ops Q rest (a.put o.dst v') w'):wpList Tryz.prog ops Q (o::rest) a w:=by
 obtain ⟨i0,hi,hz0,hz1,hz2⟩:=info_parts Qk5;rcases hu.2 with ⟨hv,h0⟩|⟨g,cap,cur,hv,_⟩
 ·have hy:y=[]:=List.eq_nil_of_length_eq_zero h0;subst hy;refine wpList_append_own_none hgd s x _ ho B 5 i0 1 Tryz.underlying48 hi v l.length _ hs hown (hx.trans hv) ?_;refine h v w (by rw [List.append_nil];exact hown) ⟨rfl,rfl,rfl,Nat.le_refl _,fun _ _ _=>rfl⟩
 ·refine wpList_append_own _ hgd s x _ ho B 5 i0 (.int .u8 0) 1 1 Tryz.underlying48 hi hz0 hz1 hz2 rfl (by decide) v l.length _ hs hown ⟨g,0,none⟩ y.length cap (byV y) (hx.trans hv) (by rw [Qit];omega) ?_ ?_ (by unfold maxLen;omega) (by omega) hB ?_
  ·intro j z hj;have hlt:j<y.length:=by
    have:=(List.getElem?_eq_some_iff.1 hj).1
    rwa [Qit] at this
   have ho':w.ownsRow B2 5 1 u y.length (byV y):=hu;rw [hv] at ho';have h1:=ho'.cellAt j (by omega);rw [hj] at h1;by_cases h0:j=0
   ·subst h0;simpa [Addr.add] using h1
   ·simpa [Addr.add,h0] using h1
  ·intro z hz;unfold byV at hz;obtain ⟨b,_,rfl⟩:=List.mem_map.1 hz;rfl
  ·intro v' w' h1 h2 _;refine h v' w' ?_ h2;unfold Bytes;rw [List.length_append,Qlu];exact h1
theorem Qa9 {w:World} {ops:Array Oper} {rest:List Oper} {o:Oper} {a:Act} {Q:Exit->Act->World->Prop} (hgd:o.guard=none) (s x:Operand)
  (ho:o.op = .call { callee:=.builtin .append,args:=#[s,x],argTypes:=#[48,48] })
  (B:Nat) (v:Value) (l:List UInt8) (hs:a.eval s=v) (hown:Bytes w B v l) (y:List UInt8) (g n c:Nat) (hn:y.length=n)
  (hx:a.eval x = .slice (some ⟨g,0,none⟩) n c) (hb:w.heap[g]?=some (.cells (byV y).toArray 5 (0,0))) (hlen:l.length+y.length<=1000000000) (hB:B<=w.heap.size)
  (h:∀ v' w',Bytes w' B v' (l++y)->w.grownBy w' v.ownBlock->wpList Tryz.prog ops Q rest (a.put o.dst v') w'):wpList Tryz.prog ops Q (o::rest) a w:=by
 subst hn;obtain ⟨i0,hi,hz0,hz1,hz2⟩:=info_parts Qk5;refine wpList_append_own _ hgd s x _ ho B 5 i0 (.int .u8 0) 1 1 Tryz.underlying48 hi hz0 hz1 hz2 rfl (by decide) v l.length _ hs hown ⟨g,0,none⟩ y.length c (byV y) hx (by rw [Qit];omega) ?_ ?_ (by unfold maxLen;omega) (by omega) hB ?_
 ·intro j z hj;have:=cell_of_row w g j _ 5 (0,0) hb;by_cases h0:j=0
  ·subst h0;simpa [Addr.add,hj] using this
  ·simpa [Addr.add,h0,hj] using this
 ·intro z hz;unfold byV at hz;obtain ⟨b,_,rfl⟩:=List.mem_map.1 hz;rfl
 ·intro v' w' h1 h2 _;refine h v' w' ?_ h2;unfold Bytes;rw [List.length_append,Qlu];exact h1
structure EnC (w:World) (B:Nat) (v:Value) (p:List Nd) (m:Int):Prop where
 sl:NSl w v p
 lo:∀ g off n c,v = .slice (some ⟨g,off,none⟩) n c->p≠[]->g<B
 mx:w.cell? ⟨0,0,none⟩=some (.int .i64 m)
 ml:0<B
 sz:B<=w.heap.size
theorem EnC.below {w w':World} {B:Nat} {v:Value} {p:List Nd} {m:Int} (h:EnC w B v p m) (hb:Below B w w'):EnC w' B v p m:=by
 refine ⟨?_,h.lo,(hb.cell (p:=⟨0,0,none⟩) h.ml).trans h.mx,h.ml,Nat.le_trans h.sz hb.size⟩;obtain ⟨⟨a,cap,hv,hc⟩,hs⟩:=h.sl;refine ⟨⟨a,cap,hv,fun hn=>?_⟩,hs⟩;obtain ⟨b,off,ha,hk⟩:=hc hn;exact ⟨b,off,ha,fun i hi=>(hk i hi).belowB hb (h.lo b off _ _ (by rw [hv,ha]) hn)⟩
theorem EnC.base {w:World} {B B':Nat} {v:Value} {p:List Nd} {m:Int} (h:EnC w B v p m) (hB:B<=B') (hs:B'<=w.heap.size):EnC w B' v p m :=
 ⟨h.sl,fun g off n c hv hn=>Nat.lt_of_lt_of_le (h.lo g off n c hv hn) hB,h.mx,Nat.lt_of_lt_of_le h.ml hB,hs⟩
theorem EnC.start {w:World} {v:Value} {p:List Nd} {m:Int} (h:NSl w v p) (hm:w.cell? ⟨0,0,none⟩=some (.int .i64 m)):EnC w w.heap.size v p m:=by
 refine ⟨h,fun g off n c hv hn=>?_,hm,World.block_lt_of_cell? w _ hm,Nat.le_refl _⟩;obtain ⟨⟨a,cap,hv',hc⟩,_⟩:=h;obtain ⟨b,off',ha,hk⟩:=hc hn;rw [hv',ha] at hv;injection hv with h1 _ _;injection h1 with h1;injection h1 with h1 _ _;rw [<- h1];exact World.block_lt_of_cell? w _ (hk 0 (List.length_pos_iff.2 hn)).1
def KeepNd (w w':World):Prop:=∀ (k:Nat) (a b:Int) (c:List UInt8) (d:Int),w.heap[k]?=some (Qae a b c d)->w'.heap[k]?=some (Qae a b c d)
theorem KeepNd.below {w w':World} (h:Below w.heap.size w w'):KeepNd w w':=fun k a b c d hk=>Qad hk h
theorem KeepNd.grown {w w':World} {B:Nat} {v:Value} {l:List UInt8} (ho:Bytes w B v l) (h:w.grownBy w' v.ownBlock):KeepNd w w':=fun k a b c d hk=>by
 refine (h.block k (lt_of_block hk) (fun e=>?_)).trans hk;obtain ⟨cur,hc⟩:=Qcp ho e.symm;rw [hk] at hc;injection hc with hc;injection hc with _ h2 _;exact absurd h2 (by decide)
def EnB (B:Nat) (w w':World):Prop:=Below B w w'/\KeepNd w w'
theorem EnB.refl (B:Nat) (w:World):EnB B w w:=⟨Zb,fun _ _ _ _ _ h=>h⟩
theorem EnB.trans {B:Nat} {a b c:World} (h:EnB B a b) (k:EnB B b c):EnB B a c:=⟨h.1.trans k.1,fun i x y z u hk=>k.2 i x y z u (h.2 i x y z u hk)⟩
theorem EnB.then {B:Nat} {a b c:World} (h:EnB B a b) (hB:B<=a.heap.size) (k:Below b.heap.size b c):EnB B a c:=h.trans ⟨k.mono (Nat.le_trans hB h.1.size),.below k⟩
theorem EnB.kept {B B2:Nat} {a b c:World} {v:Value} {l:List UInt8} (ho:Bytes b B2 v l) (h:EnB B a b) (hg:b.grownBy c v.ownBlock) (hB:B<=a.heap.size) (hB2:B<=B2):EnB B a c :=
 ⟨ho.kept h.1 hg (Nat.le_trans hB h.1.size) hB2,fun i x y z u hk=>KeepNd.grown ho hg i x y z u (h.2 i x y z u hk)⟩
def Qiq (w:World) (B:Nat) (l:List UInt8) (j:Nat) (e:Ending) (w':World):Prop:=∃ cv',e = .returned (.tuple #[cv',.int .i64 j])/\Bytes w' B cv' l/\EnB B w w'
def EnT (v : Value) (p : List Nd) (m : Int) (d : Nat) : Prop := ∀ (b : Bool) (k : UInt8) (i j : Nat) (cv : Value) (l : List UInt8) (B : Nat) (w : World), Qaz p d b k i = some j → Bytes w B cv l → EnC w B v p m → l.length + (QaB p d i).1.length ≤ 100000000 →
    Calls Tryz.prog 42 #[cv,v,.int .i64 i] w (Qiq w B (l++(QaB p d i).1) j)
def EnK (v : Value) (p : List Nd) (m : Int) (d : Nat) : Prop := ∀ (M i j : Nat) (cv : Value) (l : List UInt8) (B : Nat) (w : World), M ≤ 1000000 → chV p d M i j → Bytes w B cv l → EnC w B v p m → l.length + (Qa4 (QaB p d) M i).1.length ≤ 100000000 →
    Calls Tryz.prog 85 #[cv,v,.int .i64 i,.int .i64 M] w (Qiq w B (l++(Qa4 (QaB p d) M i).1) j)
theorem Qke (v:Value) (p:List Nd) (m:Int) (d:Nat) (ih:EnT v p m d):EnK v p m d:=by
 intro M i j cv l B w hM hc hbt hen hlen;have IH:=Za ih;unfold EnT at IH;have HB0:=Za hbt;have HE0:=Za hen;have HC0:=Za hc;obtain ⟨T,hT⟩:∃ T,l++(Qa4 (QaB p d) M i).1=T:=⟨_,rfl⟩;have HT0:=Za hT;have HTL:Hid (T.length<=100000000):=Za (by rw [<- hT,List.length_append];exact hlen);rw [hT];obtain ⟨ca,cc,rfl⟩:=hbt.form;obtain ⟨a,cap,hv,_⟩:=hen.sl.1;obtain ⟨L,hL⟩:∃ L,p.length=L:=⟨_,rfl⟩;rw [hL] at hv;subst hv;have HBW0:Hid (EnB B w w):=Za (EnB.refl _ _);clear hbt hen hc hT hlen ih hL;obtain ⟨ll,hll⟩:∃ n,l.length=n:=⟨_,rfl⟩;rw [hll] at HB0 |-;clear hll;go_enter Tryz.func85,Tryz.ntmps85;go_wp2_with fail;go_loopw [0,2,11] (fun x y z wr=>∃ (u:Value) (q ii:Nat) (st:List UInt8),u=x/\y = .int .i64 ii/\z = .int .i64 q/\q<=M/\Hid (chV p d (M-q) ii j)/\Hid (Bytes wr B u st)/\Hid (st++(Qa4 (QaB p d) (M-q) ii).1=T)/\Hid (EnB B w wr)) (fun _ _ z _=>M-(intOf z).toNat)
 case atStart=>exact ⟨_,0,i,l,rfl,rfl,rfl,by omega,HC0,HB0,HT0,HBW0⟩
 case round =>
  obtain ⟨u,q,ii,st,rfl,rfl,rfl,hq,HC,HB,HT,HBW⟩:=hrel;obtain ⟨w3,rfl⟩:∃ y:World,y=wr:=⟨_,rfl⟩;clear HC0 HB0 HT0 HBW0;by_cases hlt:q<M
  ·have hlt':(q:Int)<(M:Int):=by omega
   obtain ⟨m',hMq⟩:∃ m',M-q=m'+1:=⟨M-q-1,by omega⟩;have hx2:=HC.out;rw [hMq] at hx2;obtain ⟨b,k,j1,hv1,hx2⟩:=hx2;have HT1:Hid ((st++(QaB p d ii).1)++(Qa4 (QaB p d) (M-(q+1)) j1).1=T):=Za (by
    rw [<- HT.out,hMq,Qa4,show M-(q+1)=m' by omega,Qds p d b k ii j1 hv1,List.append_assoc])
   have HC1:Hid (chV p d (M-(q+1)) j1 j):=Za (by rw [show M-(q+1)=m' by omega];exact hx2);have HCL:=Za (IH.out b k ii j1 u st B w3 hv1 HB.out (HE0.out.below HBW.out.1) (by
    have h1:=congrArg List.length HT1.out;have h2:=HTL.out;rw [List.length_append,List.length_append] at h1;omega))
   clear hv1 hx2 HC HB HT;go_wp2_with fail;((with_reducible refine HCL.out.mono ?_));rintro e w4 ⟨cv',rfl,hb4,hbw4⟩;have HB4:=Za hb4;have HBW4:=Za (HBW.out.trans hbw4);clear hb4 hbw4 HCL HBW;go_wp2_with fail;go_roundw
   case rel=>exact ⟨_,q+1,j1,_,rfl,rfl,by go_num,by omega,HC1,HB4,HT1,HBW4⟩
   case measure=>simp [intOf];omega
  ·have hlt':¬ (q:Int)<(M:Int):=by omega
   have hqM:q=M:=by omega
   have hfin:st=T/\ii=j:=by
    have h1:=HT.out;have h2:=HC.out;rw [hqM,Nat.sub_self] at h1 h2;rw [Qa4,List.append_nil] at h1;exact ⟨h1,h2⟩
   obtain ⟨rfl,rfl⟩:=hfin;go_wp2_with fail;go_ret2;exact ⟨_,rfl,HB.out,HBW.out⟩
theorem Qfz (s:List UInt8) (m:Int) (cv:Value) (l:List UInt8) (B:Nat) (w:World) (hs:QaW s=true) (hs2:s.length<=4000000000) (hbt:Bytes w B cv l) (hm:w.cell? ⟨0,0,none⟩=some (.int .i64 m)) (hB:B<=w.heap.size) (hlen:l.length<=900000000) :
  Calls Tryz.prog 84 #[cv,.string ⟨s.toArray⟩] w fun e w'=>∃ cv',e = .returned cv'/\Bytes w' B cv' (l++QbQ s)/\EnB B w w':=by
 have HP:=Za (Qkv s m w hm hs2);unfold Qck QhW at HP;simp only [hs,if_true,Bool.true_and] at HP;have HB:=Za hbt;have hpl:=QfV hs;have hv:QaI (QaJ s) (Qbp s) (QaG s)=true:=hs;have hap:QfR (QaJ s) (Qbp s) (QaG s)=QbQ s:=by
  unfold QfR QbQ;rw [if_pos hv,Int.toNat_natCast]
 have HSG:Hid (∀ x∈QaG s,x.length<=9223372036854775000):=Za (fun x hx=>by
  have:=(Qcj (QbN hv x hx)).2;omega)
 have hpre:=(QeN hs).2;obtain ⟨y,hy⟩:∃ y,QbQ s=y:=⟨_,rfl⟩;rw [hy] at hap hpl |-;obtain ⟨R,hR⟩:∃ R,QaJ s=R:=⟨_,rfl⟩;obtain ⟨U,hU⟩:∃ U:Int,(Qbp s:Int)=U:=⟨_,rfl⟩;obtain ⟨SG,hSG⟩:∃ SG,QaG s=SG:=⟨_,rfl⟩;rw [hR,hU,hSG] at HP hap;rw [hSG] at hpre HSG;have HAX:Hid (∀ w P,PathV w P R U SG->Calls Tryz.prog 130 #[.string ⟨#[]⟩,P] w fun e w'=>e = .returned (.string ⟨y.toArray⟩)/\Below w.heap.size w w'):=Za (fun w P h=>by
  have h1:=QpB [] P R U SG w h HSG.out (by simp);rw [hap] at h1;exact h1)
 obtain ⟨ca,cc,rfl⟩:=hbt.form;obtain ⟨ll,hll⟩:∃ n,l.length=n:=⟨_,rfl⟩;have HLL:=Za hll;rw [hll] at HB hlen |-;have HYL:=Za hpl;clear hbt hs hll hv hap hy hR hU hSG hm HSG hpl;go_enter Tryz.func84,Tryz.ntmps84;go_wp2_with fail;((with_reducible refine HP.out.mono ?_));rintro e w1 ⟨v1,rfl,ho1,hb1⟩;have HB1:=Za (HB.out.below hb1);have HW1:Hid (EnB B w w1):=Za ((EnB.refl _ _).then hB hb1);have HS1:=Za (StrsAt.of_own ho1 (by omega));obtain ⟨a1,c1,rfl⟩:=Qg5 ho1;obtain ⟨n1,hn1⟩:∃ n,SG.length=n:=⟨_,rfl⟩;rw [hn1] at HS1 |-;have hal:∀ o,Below w1.heap.size w1 (w1.alloc o):=fun o=>Zb.alloc Zc o;have HX:=Za (BoxAt.start (root:=R) (up:=U) HS1.out);have HB2:=Za (HB1.out.below (hal (.cells #[.bool R,.int .i64 U,.slice a1 n1 c1] 128)));have HW2:=Za (HW1.out.then hB (hal (.cells #[.bool R,.int .i64 U,.slice a1 n1 c1] 128)));clear ho1 hb1 hal HB1 HW1 HS1 HP hn1 HB;go_upto_region 2 with fail;generalize w1.alloc (.cells #[.bool R,.int .i64 U,.slice a1 n1 c1] 128)=w2 at HX HB2 HW2 |-;have HC:=Za (HAX.out w2 _ HX.out.pathV);obtain ⟨p0,p1,p2⟩:=HX.out.cells;clear HX HAX;go_wp2_with fail;((with_reducible refine HC.out.mono ?_));rintro e w3 ⟨rfl,hb3⟩;have HB3:=Za (HB2.out.below hb3);have HW3:=Za (HW2.out.then hB hb3);clear hb3 HB2 HW2 p0 p1 p2 HC;go_wp2_with (at_builtin;refine Qb0 rfl _ _ rfl B _ l rfl HB3.out y rfl (by have:=HYL.out;have:=HLL.out;omega) (Nat.le_trans hB HW3.out.1.size) ?_;intro v4 w4 hb4 hg4;have HB4:=Za hb4;have HW4:=Za (EnB.kept HB3.out HW3.out hg4 hB Zc);clear hb4 hg4);go_ret;exact ⟨_,rfl,HB4.out,HW4.out⟩
end
section
open Go.RowKit
attribute [local go_sem] ByteArray.mk_append_mk Qah Qai Qag QcV Qc6
def EnR (v : Value) (p : List Nd) (d : Nat) : Prop := ∀ (b : Bool) (k : UInt8) (i j : Nat) (w : World), Qaz p d b k i = some j → NSl w v p →
    Calls Tryz.prog 43 #[v,.int .i64 i] w fun e w'=>e = .returned (.tuple #[.string ⟨(QaB p d i).1.toArray⟩,.int .i64 j])/\Below w.heap.size w w'
theorem Qd3 (op c:Int) (b:Bool) (h:((QbL op:Nat):Int)=c) (k:Qcv op=b) (w:World):Calls Tryz.prog 88 #[.int .i64 op] w fun e w'=>e = .returned (.tuple #[.int .u8 c,.bool b])/\w=w':=by
 have:=QpK op w;rw [h,k] at this;exact this
theorem Qh9 (s:List UInt8) (hs:QaW s=true) (w:World) (R:Bool) (U:Int) (SG:List (List UInt8)) (hR:QaJ s=R) (hU:(Qbp s:Int)=U) (hSG:QaG s=SG) (P:Value) (hP:PathV w P R U SG) :
  Calls Tryz.prog 92 #[P] w fun e w'=>e = .returned (.string ⟨(QbQ s).toArray⟩)/\Below w.heap.size w w':=by
 subst hR hU hSG;have hv:QaI (QaJ s) (Qbp s) (QaG s)=true:=hs;have hpre:=QeN hs;refine (QpA P _ _ _ w hP hpre.1 (by omega) (fun x hx=>Qcj (QbN hv x hx))).mono ?_;rintro e w' ⟨y,hy,_,he,hb⟩;refine ⟨?_,hb.out⟩;rw [he,hy.out];rfl
set_option maxRecDepth 100000 in
theorem Qta (v:Value) (p:List Nd) (i:Nat) (w:World) (nn np:Int) (ns:List UInt8) (hn:p[i]?=some ⟨1,nn,ns,np⟩) (hv:NSl w v p) (hpl:p.length<=1000000) (h0:0<=nn) :
  Calls Tryz.prog 43 #[v,.int .i64 i] w fun e w'=>e = .returned (.tuple #[.string ⟨(QaX nn.toNat).toArray⟩,.int .i64 (i+1:Nat)])/\Below w.heap.size w w':=by
 have HV0:=Za hv;obtain ⟨hip,hpe⟩:=List.getElem?_eq_some_iff.1 hn;obtain ⟨a,cap,rfl,hcc⟩:=hv.1;obtain ⟨g,off,rfl,hk⟩:=hcc (by rintro rfl;simp at hip);obtain ⟨d0,d1,d2,d3⟩:=hk i hip;rw [hpe] at d0 d1 d2 d3;simp only at d0 d1 d2 d3;have hi2:(i:Int)<(p.length:Int):=by omega
 obtain ⟨L,hL⟩:∃ L,p.length=L:=⟨_,rfl⟩;have HL:=Za hL;rw [hL] at hi2 HV0 hpl |-;have hi3:(i:Int)<1000000:=by omega
 have HB0:Hid (Below w.heap.size w (w.alloc (Qae 1 nn ns np))):=Za (Zb.alloc Zc _);have HE0:=Za (heap_alloc_new w (Qae 1 nn ns np));have HV1:=Za (HV0.out.below HB0.out);obtain ⟨P,hP⟩:∃ P,w.heap.size=P:=⟨_,rfl⟩;have HPE:=Za hP;clear hcc hk hv hn hpe hip HV0 hL ;go_enter Tryz.func43,Tryz.ntmps43;go_upto_region 3 with fail;generalize w.alloc (Qae 1 nn ns np)=W at HB0 HE0 HV1 |-;(try simp only [hP]);rw [hP] at HB0 HE0;clear hP d0 d1 d2 d3 hi2;obtain ⟨e0,e1,e2,e3⟩:=Qac HE0.out;have HCO:=Za (fun w=>Qd3 1 0 false rfl rfl w);go_wp2_with fail;((with_reducible refine (HCO.out _).mono ?_));rintro e w1 ⟨rfl,rfl⟩;clear HCO;have HC:=Za (Qi4 nn W h0);go_wp2_with fail;((with_reducible refine HC.out.mono ?_));rintro e w2 ⟨rfl,hb2⟩;have HB2:=Za (Qar HB0.out (by rw [<- HPE.out];exact Nat.le_refl _) hb2);clear hb2 HC;go_wp2_with fail;go_ret2;exact ⟨by first|rfl|(simp;done),by rw [HPE.out];exact HB2.out⟩
set_option maxRecDepth 100000 in
theorem Qtb (v:Value) (p:List Nd) (i:Nat) (w:World) (nn np:Int) (ns:List UInt8) (hn:p[i]?=some ⟨2,nn,ns,np⟩) (hv:NSl w v p) (hpl:p.length<=1000000) (h0:ns.length<=255) :
  Calls Tryz.prog 43 #[v,.int .i64 i] w fun e w'=>e = .returned (.tuple #[.string ⟨(Qdy ns).toArray⟩,.int .i64 (i+1:Nat)])/\Below w.heap.size w w':=by
 have HV0:=Za hv;obtain ⟨hip,hpe⟩:=List.getElem?_eq_some_iff.1 hn;obtain ⟨a,cap,rfl,hcc⟩:=hv.1;obtain ⟨g,off,rfl,hk⟩:=hcc (by rintro rfl;simp at hip);obtain ⟨d0,d1,d2,d3⟩:=hk i hip;rw [hpe] at d0 d1 d2 d3;simp only at d0 d1 d2 d3;have hi2:(i:Int)<(p.length:Int):=by omega
 obtain ⟨L,hL⟩:∃ L,p.length=L:=⟨_,rfl⟩;have HL:=Za hL;rw [hL] at hi2 HV0 hpl |-;have hi3:(i:Int)<1000000:=by omega
 have HB0:Hid (Below w.heap.size w (w.alloc (Qae 2 nn ns np))):=Za (Zb.alloc Zc _);have HE0:=Za (heap_alloc_new w (Qae 2 nn ns np));have HV1:=Za (HV0.out.below HB0.out);obtain ⟨P,hP⟩:∃ P,w.heap.size=P:=⟨_,rfl⟩;have HPE:=Za hP;clear hcc hk hv hn hpe hip HV0 hL ;go_enter Tryz.func43,Tryz.ntmps43;go_upto_region 3 with fail;generalize w.alloc (Qae 2 nn ns np)=W at HB0 HE0 HV1 |-;(try simp only [hP]);rw [hP] at HB0 HE0;clear hP d0 d1 d2 d3 hi2;obtain ⟨e0,e1,e2,e3⟩:=Qac HE0.out;have HCO:=Za (fun w=>Qd3 2 0 false rfl rfl w);go_wp2_with fail;((with_reducible refine (HCO.out _).mono ?_));rintro e w1 ⟨rfl,rfl⟩;clear HCO;have HC:=Za (Qkb ns W h0);go_wp2_with fail;((with_reducible refine HC.out.mono ?_));rintro e w2 ⟨rfl,hb2⟩;have HB2:=Za (Qar HB0.out (by rw [<- HPE.out];exact Nat.le_refl _) hb2);clear hb2 HC;go_wp2_with fail;go_ret2;exact ⟨by first|rfl|(simp;done),by rw [HPE.out];exact HB2.out⟩
set_option maxRecDepth 100000 in
theorem Qtc (v:Value) (p:List Nd) (i:Nat) (w:World) (nn np:Int) (ns:List UInt8) (hn:p[i]?=some ⟨6,nn,ns,np⟩) (hv:NSl w v p) (hpl:p.length<=1000000) (h0:0<=nn) (h1:nn<8) :
  Calls Tryz.prog 43 #[v,.int .i64 i] w fun e w'=>e = .returned (.tuple #[.string ⟨[UInt8.ofNat (96+nn.toNat)].toArray⟩,.int .i64 (i+1:Nat)])/\Below w.heap.size w w':=by
 have hw1:IntKind.u8.wrap nn=nn:=by rw [IntKind.wrap_u8];omega
 have hw2:IntKind.u8.wrap (96+nn)=96+nn:=by rw [IntKind.wrap_u8];omega
 have HTN:Hid ((96+nn).toNat=96+nn.toNat):=Za (by omega);have HV0:=Za hv;obtain ⟨hip,hpe⟩:=List.getElem?_eq_some_iff.1 hn;obtain ⟨a,cap,rfl,hcc⟩:=hv.1;obtain ⟨g,off,rfl,hk⟩:=hcc (by rintro rfl;simp at hip);obtain ⟨d0,d1,d2,d3⟩:=hk i hip;rw [hpe] at d0 d1 d2 d3;simp only at d0 d1 d2 d3;have hi2:(i:Int)<(p.length:Int):=by omega
 obtain ⟨L,hL⟩:∃ L,p.length=L:=⟨_,rfl⟩;have HL:=Za hL;rw [hL] at hi2 HV0 hpl |-;have hi3:(i:Int)<1000000:=by omega
 have HB0:Hid (Below w.heap.size w (w.alloc (Qae 6 nn ns np))):=Za (Zb.alloc Zc _);have HE0:=Za (heap_alloc_new w (Qae 6 nn ns np));have HV1:=Za (HV0.out.below HB0.out);obtain ⟨P,hP⟩:∃ P,w.heap.size=P:=⟨_,rfl⟩;have HPE:=Za hP;clear hcc hk hv hn hpe hip HV0 hL ;go_enter Tryz.func43,Tryz.ntmps43;go_upto_region 3 with fail;generalize w.alloc (Qae 6 nn ns np)=W at HB0 HE0 HV1 |-;(try simp only [hP]);rw [hP] at HB0 HE0;clear hP d0 d1 d2 d3 hi2;obtain ⟨e0,e1,e2,e3⟩:=Qac HE0.out;have HCO:=Za (fun w=>Qd3 6 96 true rfl rfl w);go_wp2_with fail;((with_reducible refine (HCO.out _).mono ?_));rintro e w1 ⟨rfl,rfl⟩;clear HCO;have HBA:Hid (∀ o,Below P w (W.alloc o)):=Za (fun o=>Qar HB0.out (by rw [<- HPE.out];exact Nat.le_refl _) (Zb.alloc Zc o));go_wp2_with fail;go_ret2;rw [HPE.out];exact ⟨by first|rfl|(rw [HTN.out];done)|(simp [HTN.out];done),HBA.out _⟩
set_option maxRecDepth 100000 in
theorem Qtd (v:Value) (p:List Nd) (i:Nat) (w:World) (nn np:Int) (ns:List UInt8) (hn:p[i]?=some ⟨7,nn,ns,np⟩) (hv:NSl w v p) (hpl:p.length<=1000000) (h0:0<=nn) (h1:nn<7) :
  Calls Tryz.prog 43 #[v,.int .i64 i] w fun e w'=>e = .returned (.tuple #[.string ⟨[UInt8.ofNat (104+nn.toNat)].toArray⟩,.int .i64 (i+1:Nat)])/\Below w.heap.size w w':=by
 have hw1:IntKind.u8.wrap nn=nn:=by rw [IntKind.wrap_u8];omega
 have hw2:IntKind.u8.wrap (104+nn)=104+nn:=by rw [IntKind.wrap_u8];omega
 have HTN:Hid ((104+nn).toNat=104+nn.toNat):=Za (by omega);have HV0:=Za hv;obtain ⟨hip,hpe⟩:=List.getElem?_eq_some_iff.1 hn;obtain ⟨a,cap,rfl,hcc⟩:=hv.1;obtain ⟨g,off,rfl,hk⟩:=hcc (by rintro rfl;simp at hip);obtain ⟨d0,d1,d2,d3⟩:=hk i hip;rw [hpe] at d0 d1 d2 d3;simp only at d0 d1 d2 d3;have hi2:(i:Int)<(p.length:Int):=by omega
 obtain ⟨L,hL⟩:∃ L,p.length=L:=⟨_,rfl⟩;have HL:=Za hL;rw [hL] at hi2 HV0 hpl |-;have hi3:(i:Int)<1000000:=by omega
 have HB0:Hid (Below w.heap.size w (w.alloc (Qae 7 nn ns np))):=Za (Zb.alloc Zc _);have HE0:=Za (heap_alloc_new w (Qae 7 nn ns np));have HV1:=Za (HV0.out.below HB0.out);obtain ⟨P,hP⟩:∃ P,w.heap.size=P:=⟨_,rfl⟩;have HPE:=Za hP;clear hcc hk hv hn hpe hip HV0 hL ;go_enter Tryz.func43,Tryz.ntmps43;go_upto_region 3 with fail;generalize w.alloc (Qae 7 nn ns np)=W at HB0 HE0 HV1 |-;(try simp only [hP]);rw [hP] at HB0 HE0;clear hP d0 d1 d2 d3 hi2;obtain ⟨e0,e1,e2,e3⟩:=Qac HE0.out;have HCO:=Za (fun w=>Qd3 7 104 true rfl rfl w);go_wp2_with fail;((with_reducible refine (HCO.out _).mono ?_));rintro e w1 ⟨rfl,rfl⟩;clear HCO;have HBA:Hid (∀ o,Below P w (W.alloc o)):=Za (fun o=>Qar HB0.out (by rw [<- HPE.out];exact Nat.le_refl _) (Zb.alloc Zc o));go_wp2_with fail;go_ret2;rw [HPE.out];exact ⟨by first|rfl|(rw [HTN.out];done)|(simp [HTN.out];done),HBA.out _⟩
end
section
open Go.RowKit
def Qlv (n:Nd):List UInt8 :=
 if n.kind=5 then 63::(QbQ n.str++[UInt8.ofNat n.pos.toNat]) else if n.kind=33 then [115,UInt8.ofNat n.pos.toNat] else if n.kind=4 then [] else [UInt8.ofNat (QbL n.kind)]
def Qb1 (sub:Nat->List UInt8×Nat) (op:Int) (M q ii:Nat):List UInt8 :=
 if op=31/\q<=2 then (Qa4 sub (2-q) ii).1++UInt8.ofNat (M-2)::(Qa4 sub (M-2) (Qa4 sub (2-q) ii).2).1
 else (Qa4 sub (M-q) ii).1
def QpT (op:Int) (q:Nat):List UInt8:=if op=31/\q=2 then [1] else []
def QnK (op:Int) (M:Nat):List UInt8:=if op=31/\M=2 then [0] else []
theorem Qmk {p:List Nd} {d:Nat} {op:Int} {M q ii j1:Nat} (hq:q<M) (h31:op=31->M=2\/M=3) (h1:(QaB p d ii).2=j1) :
  Qb1 (QaB p d) op M q ii=QpT op q++((QaB p d ii).1++Qb1 (QaB p d) op M (q+1) j1):=by
 unfold Qb1 QpT;by_cases h:op=31
 ·rcases h31 h with rfl|rfl
  ·rcases (show q=0\/q=1 by omega) with rfl|rfl<;>simp [h,Qa4,h1]
  ·rcases (show q=0\/q=1\/q=2 by omega) with rfl|rfl|rfl<;>simp [h,Qa4,h1]
 ·rw [if_neg (fun x=>h x.1),if_neg (fun x=>h x.1),if_neg (fun x=>h x.1)];obtain ⟨m,hm⟩:∃ m,M-q=m+1:=⟨M-q-1,by omega⟩;rw [hm,Qa4,show M-(q+1)=m by omega,h1,List.nil_append]
theorem QnL {p:List Nd} {d:Nat} {op:Int} {M ii:Nat} (h31:op=31->M=2\/M=3):Qb1 (QaB p d) op M M ii=QnK op M:=by
 unfold Qb1 QnK;by_cases h:op=31
 ·rcases h31 h with rfl|rfl<;>simp [h,Qa4]
 ·rw [if_neg (fun x=>h x.1),if_neg (fun x=>h x.1),Nat.sub_self,Qa4]
theorem QkM {p:List Nd} {d i:Nat} {n:Nd} (hn:p[i]?=some n) (hv:NdV n) (hk:n.kind≠1/\n.kind≠2/\n.kind≠3/\n.kind≠6/\n.kind≠7) :
  (QaB p (d+1) i).1=(if n.kind=4 then Qa3 ((Qb1 (QaB p d) n.kind n.pos.toNat 0 (i+1)).length:Nat) else Qlv n)++Qb1 (QaB p d) n.kind n.pos.toNat 0 (i+1):=by
 obtain ⟨k1,k2,k3,k6,k7⟩:=hk;rw [QaB,hn];simp only [];rw [if_neg k1,if_neg k2,if_neg k3];by_cases h4:n.kind=4
 ·rw [if_pos h4,if_pos h4];unfold Qb1;rw [if_neg (fun x=>by omega),Nat.sub_zero]
 rw [if_neg h4,if_neg h4,if_neg (by omega)];unfold Qlv Qb1;by_cases h5:n.kind=5
 ·rw [if_pos h5,if_pos h5,if_neg (fun x=>by omega),Nat.sub_zero];simp
 rw [if_neg h5,if_neg h5];by_cases h33:n.kind=33
 ·rw [if_pos h33,if_pos h33,if_neg (fun x=>by omega),Nat.sub_zero];rfl
 rw [if_neg h33,if_neg h33,if_neg h4];by_cases h31:n.kind=31
 ·rw [if_pos h31,if_pos ⟨h31,by omega⟩,h31,show QbL 31=113 by decide,show (n.pos-2).toNat=n.pos.toNat-2 by omega];rfl
 ·rw [if_neg h31,if_neg (fun x=>h31 x.1),Nat.sub_zero];rfl
end
end Go.Proofs.YtoohondkpddmcaaGreatDoor
