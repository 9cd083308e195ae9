/- Nsp0 Sa -/
import Derived.Test.YtoohondkpddmcaaGreatDoorUzz
import Derived.Test.YtoohondkpddmcaaGreatDoorUah
import Derived.Test.YtoohondkpddmcaaGreatDoorUab
import Derived.Test.YtoohondkpddmcaaGreatDoorUae
import Derived.Laws.AppendOwnNone
import Derived.Lib.Join
namespace Go.Proofs.YtoohondkpddmcaaGreatDoor
set_option maxHeartbeats 32000000
set_option linter.unusedVariables false
set_option linter.unusedSimpArgs false
section
open Go.RowKit
attribute [local go_sem] ByteArray.mk_append_mk Qac Qad Qae
theorem Quo:(Tryz.prog.info? 9).map (fun i=>(i.zero,i.size,i.bytes))=some (some (.string ⟨#[]⟩),1,16):=by kernel_rfl
def QwV (w:World) (l:List (List UInt8)) (e:Ending) (w':World):Prop:=∃ v,e = .returned v/\w'.ownsRow w.heap.size 9 1 v l.length (l.map Qb4)/\Below w.heap.size w w'
theorem Qm3 (w:World) (B:Nat):w.ownsRow B 9 1 (.slice none 0 0) 0 []:=⟨rfl,.inl ⟨rfl,rfl⟩⟩
theorem QhM {w:World} {ops:Array Oper} {rest:List Oper} {o:Oper} {a:Act} {Q:Exit->Act->World->Prop} (hgd:o.guard=none) (s x:Operand)
  (ho:o.op = .call { callee:=.builtin .append,args:=#[s,x],argTypes:=#[49,49] })
  (base:Nat) (v:Value) (l1:List (List UInt8)) (hs:a.eval s=v) (hown:w.ownsRow base 9 1 v l1.length (l1.map Qb4))
  (y:Value) (l2:List (List UInt8)) (hx:a.eval x=y) (hy:StrsAt w y l2) (hlen:l1.length+l2.length<=1000000) (hbase:base<=w.heap.size)
  (h:∀ v' w',w'.ownsRow base 9 1 v' (l1++l2).length ((l1++l2).map Qb4)->w.grownBy w' v.ownBlock->wpList Tryz.prog ops Q rest (a.put o.dst v') w'):wpList Tryz.prog ops Q (o::rest) a w:=by
 obtain ⟨i0,hi,hz0,hz1,hz2⟩:=info_parts Quo;obtain ⟨ad,cap,rfl,hl,hz,hc⟩:=hy;cases ad with
 | none =>
   have hn:l2=[]:=by
    by_cases hn:l2=[]
    ·exact hn
    ·obtain ⟨b,off,hb,_⟩:=hc hn;cases hb
   subst hn;rw [hz.1 rfl] at hx;refine wpList_append_own_none hgd s x _ ho base 9 i0 1 Tryz.underlying49 hi v l1.length _ hs hown hx ?_;have:=h v w (by simpa using hown) (World.grownBy.refl _ _);exact this
 | some ad =>
   refine wpList_append_own _ hgd s x _ ho base 9 i0 (.string ⟨#[]⟩) 1 16 Tryz.underlying49 hi hz0 hz1 hz2 rfl (by decide) v l1.length _ hs hown ad l2.length cap (l2.map Qb4) hx (by simp) ?_ ?_ (by unfold maxLen;omega) (by omega) hbase ?_
   ·intro j u hj;rw [List.getElem?_map] at hj;have hj2:j<l2.length:=by
     rcases Nat.lt_or_ge j l2.length with h'|h'
     ·exact h'
     ·rw [List.getElem?_eq_none h'] at hj;cases hj
    rw [List.getElem?_eq_getElem hj2] at hj;have hj:=Option.some.inj hj;subst hj;have hn:l2≠[]:=by rintro rfl;simp at hj2
    obtain ⟨b,off,hb,hk⟩:=hc hn;obtain rfl:=Option.some.inj hb;have e:(⟨b,off,none⟩:Addr).add j=⟨b,off+j,none⟩:=by by_cases h:j=0<;>simp [Addr.add,h]
    rw [e];exact hk j hj2
   ·intro u hu;obtain ⟨x,_,rfl⟩:=List.mem_map.1 hu;rfl
   ·intro v' w' h1 h2 _;refine h v' w' ?_ h2;rw [List.length_append,List.map_append];exact h1
def Qjt (w:World) (root:Bool) (up:Int) (l:List (List UInt8)) (ok:Bool) (e:Ending) (w':World):Prop:=∃ v,e = .returned (.tuple #[.agg #[.bool root,.int .i64 up,v],.bool ok])/\w'.ownsRow w.heap.size 9 1 v l.length (l.map Qb4)/\Below w.heap.size w w'
def PAt (w wr:World) (root:Bool) (up:Int) (v:Value) (l:List (List UInt8)):Prop:=BoxAt w wr root up v l/\wr.heap[w.heap.size+1]?=some (QjR false 0 (.slice none 0 0))
theorem PAt.start {w:World} {root:Bool} {up:Int} {v:Value} {l:List (List UInt8)} (h:StrsAt w v l):PAt w ((w.alloc (.cells #[.bool root,.int .i64 up,v] 128)).alloc (.cells #[.bool false,.int .i64 0,.slice none 0 0] 128)) root up v l :=
 ⟨(BoxAt.start h).below (Zb.alloc Zc _),heap_alloc2_new _ _ _⟩
theorem PAt.below {w wr w2:World} {root:Bool} {up:Int} {v:Value} {l:List (List UInt8)} (h:PAt w wr root up v l) (hb:Below wr.heap.size wr w2):PAt w w2 root up v l:=⟨h.1.below hb,Qab h.2 hb⟩
theorem QjT {w:World} {b t:Nat} {c0 c1 c2:Value} (h:w.heap[b]?=some (.cells #[c0,c1,c2] t (0,0))) (a0 a1 a2:Value) :
  (((w.setCell ⟨b,0,none⟩ a0).setCell ⟨b,1,none⟩ a1).setCell ⟨b,2,none⟩ a2).heap[b]?=some (.cells #[a0,a1,a2] t (0,0)):=by
 have e0:=(heap_setCell_same w _ 0 _ _ a0 h);have e1:=(heap_setCell_same _ _ 1 _ _ a1 e0);exact (heap_setCell_same _ _ 2 _ _ a2 e1).trans rfl
theorem QjU {B:Nat} {w w1:World} {b:Nat} (h:Below B w w1) (hb:B<=b) (a0 a1 a2:Value):Below B w (((w1.setCell ⟨b,0,none⟩ a0).setCell ⟨b,1,none⟩ a1).setCell ⟨b,2,none⟩ a2) :=
 ((h.setCell hb _).setCell hb _).setCell hb _
theorem QnK {w:World} {B e z:Nat} {v:Value} {n:Nat} {xs:List Value} (h:w.ownsRow B e z v n xs) (b:Nat) (a0 a1 a2:Value) (hb:b<B):(((w.setCell ⟨b,0,none⟩ a0).setCell ⟨b,1,none⟩ a1).setCell ⟨b,2,none⟩ a2).ownsRow B e z v n xs :=
 Qdx (Qdx (Qdx h _ _ hb) _ _ hb) _ _ hb
theorem BoxAt.strs {w wr:World} {root:Bool} {up:Int} {v:Value} {l:List (List UInt8)} (h:BoxAt w wr root up v l):StrsAt wr v l:=h.2.1
def QbK (l:List (List UInt8)):List UInt8:=Lib.join l [46]
theorem Qd5:QbK []=[]:=rfl
theorem Qcs (x:List UInt8):QbK [x]=x:=by simp [QbK,Lib.join,List.intercalate]
theorem Qb5 (x y:List UInt8) (r:List (List UInt8)):QbK (x::y::r)=x++46::QbK (y::r):=by
 simp [QbK,Lib.join,List.intercalate]
theorem Qkl:∀ (l:List (List UInt8)) (x:List UInt8),l≠[]->QbK (l++[x])=QbK l++46::x
 | [],_,h=>absurd rfl h
 | [y],x,_=>by rw [List.singleton_append,Qb5,Qcs,Qcs]
 | y::z::r,x,_=>by
   have:=Qkl (z::r) x (by simp);rw [List.cons_append,List.cons_append,Qb5,Qb5];rw [List.cons_append] at this;rw [this];simp
theorem QiR:∀ (l:List (List UInt8)),(∀ x∈l,x.length<=4)->(QbK l).length<=5 * l.length
 | [],_=>by simp [Qd5]
 | [x],h=>by rw [Qcs];have:=h x (by simp);simp;omega
 | x::y::r,h=>by
   rw [Qb5];have:=QiR (y::r) (fun z hz=>h z (by simp [hz]));have:=h x (by simp);simp only [List.length_append,List.length_cons] at *;omega
def QjV (root:Bool) (up:Int) (l:List (List UInt8)):List UInt8:=(if root then [92] else List.replicate up.toNat 94)++QbK l
def QdR (root:Bool) (up:Int) (l:List (List UInt8)):List UInt8:=if QaD root up l then QjV root up l else []
theorem Qju (c:UInt8):∀ n,Lib.repeatL [c] n=List.replicate n c
 | 0=>rfl
 | n+1=>by rw [Lib.repeatL,Qju c n];rfl
theorem QbM {root:Bool} {up:Int} {l:List (List UInt8)} (h:QaD root up l=true):∀ x∈l,Qa2 x=true:=by
 unfold QaD at h;simp only [Bool.and_eq_true,List.all_eq_true] at h;exact h.2
theorem Qd6 {root:Bool} {up:Int} {l:List (List UInt8)} (h:QaD root up l=true):0<=up/\up<=32/\(root=true->up=0)/\(l.length:Int)<=32-up/\(root=true\/0<up\/0<l.length):=by
 unfold QaD at h;simp only [Bool.and_eq_true] at h;exact of_decide_eq_true h.1
theorem Qjv {root:Bool} {up:Int} {l:List (List UInt8)} (h:QaD root up l=true):(QbK l).length<=160:=by
 have:=QiR l (fun x hx=>(QbG (QbM h x hx)).2);have:=Qd6 h;omega
theorem Qm4 (n:Nat) (w:World) (h:n<=1000):Calls Tryz.prog 188 #[.string ⟨#[94]⟩,.int .i64 n] w fun e w'=>e = .returned (.string ⟨(List.replicate n (94:UInt8)).toArray⟩)/\Below w.heap.size w w':=by
 refine (Tryz.strings_Repeat ⟨#[94]⟩ n w (by omega) (by show 1 * n<=_;omega)).mono ?_;rintro e w' ⟨he,hb⟩;refine ⟨?_,hb⟩;rw [he];show Ending.returned (.string ⟨(Lib.repeatL [94] n).toArray⟩)=_;rw [Qju]
theorem Qrb (v:Value) (l:List (List UInt8)) (w:World) (h:StrsAt w v l) (hl:l.length<=1000000) (hx:(QbK l).length<=1000000):Calls Tryz.prog 206 #[v,.string ⟨#[46]⟩] w fun e w'=>e = .returned (.string ⟨(QbK l).toArray⟩)/\Below w.heap.size w w':=by
 have hlt:=h.lt;obtain ⟨a,cap,rfl,hl2,hz,hc⟩:=h;by_cases hn:l=[]
 ·subst hn;exact (Tryz.strings_Join_none a cap _ w).mono fun e w' ⟨he,hw⟩=>⟨he,hw▸Zb⟩
 ·obtain ⟨b,off,rfl,hk⟩:=hc hn;have hm:((l.map fun x=>(⟨x.toArray⟩:ByteArray)).map (·.data.toList))=l:=by
   rw [List.map_map];exact (List.map_congr_left (fun x _=>rfl)).trans (List.map_id l)
  have hj:Lib.join ((l.map fun x=>(⟨x.toArray⟩:ByteArray)).map (·.data.toList)) (ByteArray.mk #[46]).data.toList=QbK l:=by rw [hm];rfl
  have h0:=Tryz.strings_Join b off cap (l.map fun x=>(⟨x.toArray⟩:ByteArray)) ⟨#[46]⟩ w ?_ (hlt _ _ _ rfl hn) (by rw [List.length_map];omega) (by rw [List.length_map];omega) (by rw [hj];omega)
  ·rw [hj,List.length_map] at h0;exact h0
  ·intro j x hj;rw [List.getElem?_map] at hj;have hj2:j<l.length:=by
    rcases Nat.lt_or_ge j l.length with h'|h'
    ·exact h'
    ·rw [List.getElem?_eq_none h'] at hj;cases hj
   rw [List.getElem?_eq_getElem hj2] at hj;injection hj with hj;subst hj;exact hk j hj2
theorem Qpc (p:Value) (root:Bool) (up:Int) (l:List (List UInt8)) (w:World) (hp:PathV w p root up l) (hx:∀ x∈l,x.length<=9223372036854775000) :
  Calls Tryz.prog 153 #[p] w fun e w'=>e = .returned (.string ⟨(QdR root up l).toArray⟩)/\Below w.heap.size w w':=by
 obtain ⟨v,rfl,hs⟩:=hp;have HA:=Za (BoxAt.start (root:=root) (up:=up) hs);have HX:=Za hx;clear hx;obtain ⟨a,cap,rfl,hcap⟩:=hs.form;clear hs;obtain ⟨p0,p1,p2⟩:=HA.out.cells;have HN:=Za (QdD _ root up l _ HA.out.pathV HX.out);cases hv:QaD root up l
 ·have HV:=Za hv;clear hv;go_enter Tryz.func153,Tryz.ntmps153;go_wp2_with fail;((with_reducible refine HN.out.mono ?_));rintro e w1 ⟨rfl,hb⟩;have HB:=Za (HA.out.below hb);clear hb HN HA p0 p1 p2;rw [HV.out];go_wp2_with fail;go_ret;exact ⟨by unfold QdR;rw [HV.out];rfl,HB.out.2.2⟩
 ·have HV:=Za hv;obtain ⟨v1,v2,v3,v4,v5⟩:=Qd6 hv;obtain ⟨n,rfl⟩:∃ n:Nat,up=n:=⟨up.toNat,by omega⟩;have HF:Hid (QdR root n l=(if root then [92] else List.replicate n 94)++QbK l):=Za (by unfold QdR QjV;rw [if_pos hv]<;>rfl);have hj:=Qjv hv;have hll:l.length<=32:=by omega
  clear hv v3 v4 v5;go_enter Tryz.func153,Tryz.ntmps153;go_wp2_with fail;((with_reducible refine HN.out.mono ?_));rintro e w1 ⟨rfl,hb⟩;have HB:=Za (HA.out.below hb);clear hb HN HA p0 p1 p2;obtain ⟨p0,p1,p2⟩:=HB.out.cells;rw [HV.out];go_wp2_with fail;((with_reducible refine (Qm4 n _ (by omega)).mono ?_));rintro e w2 ⟨rfl,hb⟩;have HC:=Za (HB.out.below hb);clear hb HB p0 p1 p2;obtain ⟨p0,p1,p2⟩:=HC.out.cells;cases root
  all_goals
   go_wp2_with fail;((with_reducible refine (Qrb _ l _ HC.out.strs (by omega) (by omega)).mono ?_));rintro e w3 ⟨rfl,hb⟩;have HD:=Za (HC.out.below hb);clear hb HC p0 p1 p2;go_wp2_with fail;go_ret;exact ⟨by rw [HF.out];rfl,HD.out.2.2⟩
theorem Qpd (l:List (List UInt8)) (k:Nat) (hk:k<l.length):QbK (l.take (k+1))=(if 0<k then QbK (l.take k)++[46] else QbK (l.take k))++l[k]:=by
 rw [<- List.take_append_getElem hk];by_cases h:0<k
 ·rw [if_pos h,Qkl _ _ (by intro e;have:=congrArg List.length e;rw [List.length_take] at this;simp only [List.length_nil] at this;omega)];simp
 ·obtain rfl:k=0:=by omega
  simp [Qcs,Qd5]
theorem QgE (p:Value) (root:Bool) (up:Int) (l:List (List UInt8)) (w:World) (hp:PathV w p root up l) (hx:∀ x∈l,x.length<=9223372036854775000) :
  Calls Tryz.prog 146 #[p] w fun e w'=>e = .returned (.string ⟨(QdR root up l).toArray⟩)/\Below w.heap.size w w':=by
 obtain ⟨v,rfl,hs⟩:=hp;have HA:=Za (BoxAt.start (root:=root) (up:=up) hs);have HX:=Za hx;clear hx;obtain ⟨a,cap,rfl,hcap⟩:=hs.form;clear hs;obtain ⟨p0,p1,p2⟩:=HA.out.cells;have HN:=Za (Qhy _ root up l _ HA.out.pathV HX.out);cases hv:QaD root up l
 ·have HV:=Za hv;clear hv;go_enter Tryz.func146,Tryz.ntmps146;go_wp2_with fail;((with_reducible refine HN.out.mono ?_));rintro e w1 ⟨rfl,hb⟩;have HB:=Za (HA.out.below hb);clear hb HN HA p0 p1 p2;rw [HV.out];go_wp2_with fail;go_ret;exact ⟨by unfold QdR;rw [HV.out];rfl,HB.out.2.2⟩
 ·have HV:=Za hv;obtain ⟨v1,v2,v3,v4,v5⟩:=Qd6 hv;obtain ⟨n,rfl⟩:∃ n:Nat,up=n:=⟨up.toNat,by omega⟩;have HF:Hid (QdR root n l=(if root then [92] else List.replicate n 94)++QbK l):=Za (by unfold QdR QjV;rw [if_pos hv]<;>rfl);have hll:l.length<=32:=by omega
  have HR:=Za v3;clear hv v3 v4 v5;go_enter Tryz.func146,Tryz.ntmps146;go_wp2_with fail;((with_reducible refine HN.out.mono ?_));rintro e w1 ⟨rfl,hb⟩;have HB:=Za (HA.out.below hb);clear hb HN HA p0 p1 p2;obtain ⟨p0,p1,p2⟩:=HB.out.cells;rw [HV.out];go_upto_if 10 with fail;go_cut [3] (fun s wx=>s = .string ⟨(if root then [92] else []:List UInt8).toArray⟩/\w1=wx)
  case first =>
   cases root
   all_goals
    go_wp2_with fail;go_meet;exact ⟨rfl,rfl⟩
  case rest =>
   obtain ⟨rfl,rfl⟩:=hcut;generalize hpre:(if root then [92] else []:List UInt8)=pre;have HP:Hid ((if root then [92] else List.replicate n 94)=pre++List.replicate n (94:UInt8)):=Za (by
    subst hpre;cases root with
    | true => have := HR.out rfl; obtain rfl : n = 0 := by omega
              rfl
    | false=>rfl)
   have hpl:pre.length<=1:=by subst hpre;cases root<;>simp
   clear hpre;go_wp2_with fail;go_loop [3,4] (fun s i=>∃ k:Nat,i = .int .i64 k/\k<=n/\s = .string ⟨(pre++List.replicate k 94).toArray⟩) (fun s i=>n-(intOf i).toNat)
   case atStart=>exact ⟨0,rfl,Nat.zero_le _,by simp⟩
   case round =>
    obtain ⟨k,rfl,hk,rfl⟩:=hrel;by_cases hlt:k<n
    ·have hlt':(k:Int)<n:=by omega
     go_wp2_with fail;go_round
     case rel=>exact ⟨k+1,by go_num,by omega,by simp [List.replicate_succ']⟩
     case measure=>simp [intOf];omega
    ·have hlt':¬ (k:Int)<n:=by omega
     obtain rfl:k=n:=by omega
     go_wp2_with fail;generalize hpre2:pre++List.replicate k (94:UInt8)=pre2;rw [hpre2] at HP;have hpl2:pre2.length<=33:=by rw [<- hpre2,List.length_append,List.length_replicate];omega
     clear hpre2;go_loop [3,5] (fun s i=>∃ j:Nat,i = .int .i64 j/\j<=l.length/\s = .string ⟨(pre2++QbK (l.take j)).toArray⟩) (fun s i=>l.length-(intOf i).toNat)
     case atStart=>exact ⟨0,rfl,Nat.zero_le _,by simp [Qd5]⟩
     case round =>
      obtain ⟨j,rfl,hj,rfl⟩:=hrel;by_cases hlt:j<l.length
      ·obtain ⟨b,off,rfl,hcell⟩:=Qj1 HB.out.2.1 j hlt;have HT:=Za (Qpd l j hlt);have hxl:l[j].length<=4:=(QbG (QbM HV.out _ (List.getElem_mem hlt))).2;have hsl:(QbK (l.take j)).length<=160:=by
        have:=QiR (l.take j) (fun x hx=>(QbG (QbM HV.out x (List.mem_of_mem_take hx))).2);rw [List.length_take] at this;omega
       generalize l[j]=x at *;generalize QbK (l.take j)=s0 at *;by_cases h0:0<j
       ·have h0':(0:Int)<j:=by omega
        go_wp2_with fail;go_round
        case rel=>exact ⟨j+1,by go_num,by omega,by rw [HT.out,if_pos h0];simp⟩
        case measure=>simp [intOf];omega
       ·have h0':¬ (0:Int)<j:=by omega
        go_wp2_with fail;go_round
        case rel=>exact ⟨j+1,by go_num,by omega,by rw [HT.out,if_neg h0]⟩
        case measure=>simp [intOf];omega
      ·have HE:Hid (QbK (l.take j)=QbK l):=Za (by rw [List.take_of_length_le (by omega)]);generalize QbK (l.take j)=s0 at *;go_wp2_with fail;go_ret;exact ⟨by rw [HF.out,HP.out,HE.out];rfl,HB.out.2.2⟩
def QaM:List UInt8->List (List UInt8)
 | []=>[[]]
 | c::s=>if c=46 then []::QaM s else match QaM s with|[]=>[[c]]|x::r=>(c::x)::r
theorem Qdh (s:List UInt8):QaM (46::s)=[]::QaM s:=by rw [QaM,if_pos rfl]
theorem Qfh (s:List UInt8):QaM s≠[]:=by
 cases s with
 | nil=>simp [QaM]
 | cons c s =>
   unfold QaM;split
   ·simp
   ·split<;>simp
theorem Qbx (c:UInt8) (s:List UInt8) (h:c≠46) (x:List UInt8) (r:List (List UInt8)) (hs:QaM s=x::r):QaM (c::s)=(c::x)::r:=by
 rw [QaM,if_neg h,hs]
theorem QcE:∀ s:List UInt8,(QaM s).length=s.count 46+1
 | []=>rfl
 | c::s=>by
   have ih:=QcE s;by_cases h:c=46
   ·subst h;rw [Qdh];simp [ih]
   ·cases hs:QaM s with
    | nil=>exact absurd hs (Qfh s)
    | cons x r =>
      rw [Qbx c s h x r hs];rw [hs] at ih;rw [List.count_cons_of_ne (by simpa using h)];simpa using ih
theorem Qrc (s:List UInt8):Lib.index (46::s) [46]=0:=by simp [Lib.index]
theorem QnL (c:UInt8) (s:List UInt8) (h:c≠46):Lib.index (c::s) [46]=if Lib.index s [46]==-1 then -1 else Lib.index s [46]+1:=by
 rw [Lib.index,if_neg (by simpa using fun e=>h e.symm)]
theorem QnM:∀ s:List UInt8,Lib.splitK [46] 0 (s.count 46) s=QaM s
 | []=>rfl
 | c::s=>by
   have ih:=QnM s;by_cases h:c=46
   ·subst h;rw [Qdh,List.count_cons_self,Lib.splitK,Qrc];simp [ih]
   ·rw [List.count_cons_of_ne (by simpa using h)];cases hk:s.count 46 with
    | zero =>
      rw [hk,Lib.splitK] at ih;rw [Lib.splitK,Qbx c s h s [] ih.symm]
    | succ k =>
      rw [hk,Lib.splitK] at ih;rw [Lib.splitK,QnL c s h];by_cases hi:(Lib.index s [46]==-1)=true
      ·rw [if_pos hi] at ih;rw [if_pos hi,if_pos (by rfl),Qbx c s h s [] ih.symm]
      ·rw [if_neg hi] at ih;have hi':Lib.index s [46]≠-1:=by simpa using hi
       have hge:=Lib.index_ge s [46];rw [if_neg hi,if_neg (by simp;omega),Qbx c s h _ _ ih.symm];obtain ⟨i,hi2⟩:∃ i:Nat,Lib.index s [46]=i:=⟨(Lib.index s [46]).toNat,by omega⟩;rw [hi2];have e1:((i:Int)+1).toNat=i+1:=by omega
       have e2:((i:Int)).toNat=i:=by omega
       rw [e1,e2];simp
theorem QnN (s:List UInt8):Lib.countB ⟨s.toArray⟩ ⟨#[46]⟩=s.count 46/\(Lib.splitB ⟨#[46]⟩ 0 (s.count 46) ⟨s.toArray⟩).map Value.string=(QaM s).map Qb4:=by
 refine ⟨Lib.count_one 46 s,?_⟩;have h:=Lib.splitB_data ⟨#[46]⟩ 0 (s.count 46) ⟨s.toArray⟩;have h2:Lib.splitK (ByteArray.mk #[46]).data.toList 0 (s.count 46) (ByteArray.mk s.toArray).data.toList=QaM s:=QnM s;rw [h2] at h;rw [<- h,List.map_map];apply List.map_congr_left;intro x _;show Value.string x = .string ⟨x.data.toList.toArray⟩;simp
theorem Qrd (w:World) (B:Nat) (hB:B<=w.heap.size) (l:List (List UInt8)) (n:Nat) (hn:n=l.length) (hl:l.length<=5000000000):(w.alloc (.cells (l.map Qb4).toArray 9)).ownsRow B 9 1 (.slice (some ⟨w.heap.size,0,none⟩) n n) l.length (l.map Qb4):=by
 subst hn;refine ⟨by simp,.inr ⟨w.heap.size,l.length,(l.map Qb4).toArray,rfl,hB,heap_alloc_new _ _,Nat.le_refl _,by unfold maxLen;omega,by simp,?_⟩⟩;rw [List.take_of_length_le (by simp)]
theorem Qpe (s:List UInt8) (m:Int) (w:World) (hm:w.cell? ⟨0,0,none⟩=some (.int .i64 m)) (hs:s.length<=4000000000) :
  Calls Tryz.prog 186 #[.string ⟨s.toArray⟩,.string ⟨#[46]⟩] w (QwV w (QaM s)):=by
 refine (Tryz.strings_Split ⟨s.toArray⟩ ⟨#[46]⟩ m w (by show s.toArray.size<_;simp;omega) hm (by decide)).mono ?_;rintro e w' ⟨he,hw⟩;rw [(QnN s).1] at he hw;rw [(QnN s).2] at hw;subst hw;refine ⟨_,he,Qrd w _ Zc _ _ (QcE s).symm (by have:=QcE s;have:=List.count_le_length (a:=(46:UInt8)) (l:=s);omega),Zb.alloc Zc _⟩
def QaO (s:List UInt8):Bool:=Lib.hasPrefix s [92]
def Qby (s:List UInt8):List UInt8:=if QaO s then s.drop 1 else s.dropWhile (·==94)
def Qbm (s:List UInt8):Nat:=if QaO s then 0 else (s.takeWhile (·==94)).length
def QaF (s:List UInt8):List (List UInt8):=if Qby s=[] then [] else QaM (Qby s)
def QaY (s:List UInt8):Bool:=QaD (QaO s) (Qbm s) (QaF s)
def Qct (w:World) (s:List UInt8):Ending->World->Prop:=Qjt w (QaY s&&QaO s) (if QaY s=true then (Qbm s:Int) else 0) (if QaY s=true then QaF s else []) (QaY s)
def QAt (w wr:World) (root:Bool) (up:Int) (v:Value):Prop:=wr.heap[w.heap.size]?=some (QjR false 0 (.slice none 0 0))/\wr.heap[w.heap.size+1]?=some (QjR root up v)/\Below w.heap.size w wr
theorem QAt.start (w:World):QAt w ((w.alloc (.cells #[.bool false,.int .i64 0,.slice none 0 0] 128)).alloc (.cells #[.bool false,.int .i64 0,.slice none 0 0] 128)) false 0 (.slice none 0 0) :=
 ⟨QqI (heap_alloc_new _ _) _,heap_alloc2_new _ _ _,(Zb.alloc Zc _).alloc (by simp) _⟩
theorem QAt.below {w wr w2:World} {root:Bool} {up:Int} {v:Value} (h:QAt w wr root up v) (hb:Below wr.heap.size wr w2):QAt w w2 root up v:=⟨Qab h.1 hb,Qab h.2.1 hb,Qah h.2.2 Zc hb⟩
theorem QAt.root {w wr:World} {root:Bool} {up:Int} {v:Value} (h:QAt w wr root up v) (r:Bool):QAt w (wr.setCell ⟨w.heap.size+1,0,none⟩ (.bool r)) r up v :=
 ⟨QbF h.1 _ _ (by show w.heap.size≠w.heap.size+1;omega),(heap_setCell_same _ _ 0 _ _ _ h.2.1).trans rfl,h.2.2.setCell (by show w.heap.size<=w.heap.size+1;omega) _⟩
theorem QAt.up {w wr:World} {root:Bool} {up:Int} {v:Value} (h:QAt w wr root up v) (u:Int):QAt w (wr.setCell ⟨w.heap.size+1,1,none⟩ (.int .i64 u)) root u v :=
 ⟨QbF h.1 _ _ (by show w.heap.size≠w.heap.size+1;omega),(heap_setCell_same _ _ 1 _ _ _ h.2.1).trans rfl,h.2.2.setCell (by show w.heap.size<=w.heap.size+1;omega) _⟩
theorem QAt.segs {w wr:World} {root:Bool} {up:Int} {v:Value} (h:QAt w wr root up v) (u:Value):QAt w (wr.setCell ⟨w.heap.size+1,2,none⟩ u) root up u :=
 ⟨QbF h.1 _ _ (by show w.heap.size≠w.heap.size+1;omega),(heap_setCell_same _ _ 2 _ _ _ h.2.1).trans rfl,h.2.2.setCell (by show w.heap.size<=w.heap.size+1;omega) _⟩
theorem QAt.cell {w wr:World} {root:Bool} {up:Int} {v:Value} (h:QAt w wr root up v) {m:Int} (hm:w.cell? ⟨0,0,none⟩=some (.int .i64 m)):wr.cell? ⟨0,0,none⟩=some (.int .i64 m):=by
 rw [h.2.2.cell (p:=⟨0,0,none⟩) (World.block_lt_of_cell? w _ hm)];exact hm
theorem Qfi (tmps:Array Value) (w:World) (b:Nat) (c0 c1 c2:Value) (h2:tmps.getD 2 undef = .pointer (some ⟨b,0,none⟩)) (hb:w.heap[b]?=some (.cells #[c0,c1,c2] 128 (0,0))) :
  (results Tryz.f129 tmps).run Tryz.prog w = .ok (.tuple #[.agg #[c0,c1,c2],tmps.getD 3 undef]) w:=by
 obtain ⟨e0,e1,e2⟩:=Qa4 hb;have h2':tmps[2]?.getD undef = .pointer (some ⟨b,0,none⟩):=by rw [<- h2];simp
 simp [results];go_simp
def Qv1:Value->Nat
 | .string b=>b.size
 | _=>0
def CarJ (root:Bool) (N:Nat) (R:List UInt8) (k:Nat) (r:List UInt8):Prop:=(root=true->k=N/\r=R)/\(root=false->k+(r.takeWhile (·==94)).length=N/\r.dropWhile (·==94)=R)
theorem Qin (r:List UInt8):Lib.hasPrefix r [94]=true->∃ t,r=94::t:=by
 cases r with
 | nil=>intro h;cases h
 | cons c t =>
   intro h;refine ⟨t,?_⟩;have:(94==c)=true:=by simpa [Lib.hasPrefix] using h
   rw [beq_iff_eq.1 this]
theorem Qpf (r:List UInt8) (h:Lib.hasPrefix r [94]=false):r.takeWhile (·==94)=[]/\r.dropWhile (·==94)=r:=by
 cases r with
 | nil=>exact ⟨rfl,rfl⟩
 | cons c t =>
   have:(c==94)=false:=by
    cases hc:(c==94)
    ·rfl
    ·rw [beq_iff_eq.1 hc] at h;simp [Lib.hasPrefix] at h
   constructor
   ·rw [List.takeWhile_cons,this];rfl
   ·rw [List.dropWhile_cons,this];rfl
theorem CarJ.step {N:Nat} {R:List UInt8} {k:Nat} {t:List UInt8} (h:CarJ false N R k (94::t)):CarJ false N R (k+1) t:=by
 refine ⟨(fun h=>by cases h),fun _=>?_⟩;obtain ⟨h1,h2⟩:=h.2 rfl;have e1:List.takeWhile (·==(94:UInt8)) (94::t)=94::List.takeWhile (·==94) t:=by simp
 have e2:List.dropWhile (·==(94:UInt8)) (94::t)=List.dropWhile (·==94) t:=by simp
 rw [e1,List.length_cons] at h1;rw [e2] at h2;exact ⟨by omega,h2⟩
theorem CarJ.last {root:Bool} {N:Nat} {R:List UInt8} {k:Nat} {r:List UInt8} (h:CarJ root N R k r) (hb:(!root&&Lib.hasPrefix r [94])=false):k=N/\r=R:=by
 cases root with
 | true=>exact h.1 rfl
 | false =>
   obtain ⟨h1,h2⟩:=h.2 rfl;obtain ⟨h3,h4⟩:=Qpf r (by simpa using hb);rw [h3] at h1;rw [h4] at h2;exact ⟨by simpa using h1,h2⟩
theorem Qkm:∀ (s:List UInt8) (x:List UInt8),x∈QaM s->x.length<=s.length
 | [],x,h=>by simp [QaM] at h;subst h;simp
 | c::s,x,h=>by
   have ih:=Qkm s;by_cases hc:c=46
   ·subst hc;rw [Qdh] at h;rcases List.mem_cons.1 h with h|h
    ·subst h;simp
    ·have:=ih x h;simp;omega
   ·cases hs:QaM s with
    | nil=>exact absurd hs (Qfh s)
    | cons y r =>
      rw [Qbx c s hc y r hs] at h;rw [hs] at ih;rcases List.mem_cons.1 h with h|h
      ·have:=ih y (by simp);subst h;simp;omega
      ·have:=ih x (by simp [h]);simp;omega
theorem Qea {w w':World} {s:List UInt8} (h:QaY s=false) (hb:Below w.heap.size w w'):Qct w s (.returned (.tuple #[.agg #[.bool false,.int .i64 0,.slice none 0 0],.bool false])) w':=by
 unfold Qct;rw [h];exact ⟨_,rfl,Qm3 _ _,hb⟩
theorem QgF {w w':World} {s:List UInt8} {v:Value} (h:QaY s=true) (ho:w'.ownsRow w.heap.size 9 1 v (QaF s).length ((QaF s).map Qb4)) (hb:Below w.heap.size w w'):Qct w s (.returned (.tuple #[.agg #[.bool (QaO s),.int .i64 (Qbm s),v],.bool true])) w':=by
 unfold Qct;rw [h];exact ⟨_,rfl,ho,hb⟩
theorem Ql4 (s:List UInt8) (m:Int) (w:World) (hm:w.cell? ⟨0,0,none⟩=some (.int .i64 m)) (hs:s.length<=4000000000) :
  Calls Tryz.prog 129 #[.string ⟨s.toArray⟩] w (Qct w s):=by
 have HM:=Za hm;have HQ:=Za (QAt.start w);have HC:=Za (Tryz.strings_CutPrefix ⟨s.toArray⟩ ⟨#[92]⟩);clear hm;obtain ⟨root,hroot⟩:∃ b,QaO s=b:=⟨_,rfl⟩;obtain ⟨N,hN⟩:∃ b,Qbm s=b:=⟨_,rfl⟩;obtain ⟨R,hR⟩:∃ b,Qby s=b:=⟨_,rfl⟩;obtain ⟨r0,hr0⟩:∃ b,Lib.trimPrefix s [92]=b:=⟨_,rfl⟩;have HJ:Hid (CarJ root N R 0 r0):=Za (by
  subst hroot hN hR hr0;refine ⟨fun h=>?_,fun h=>?_⟩
  ·refine ⟨by unfold Qbm;rw [if_pos h],?_⟩;unfold Qby Lib.trimPrefix;rw [if_pos h,if_pos (by exact h)];rfl
  ·have h':Lib.hasPrefix s [92]=false:=h;have e1:Qbm s=(s.takeWhile (·==94)).length:=by unfold Qbm;rw [h];rfl
   have e2:Qby s=s.dropWhile (·==94):=by unfold Qby;rw [h];rfl
   have e3:Lib.trimPrefix s [92]=s:=by unfold Lib.trimPrefix;rw [h'];rfl
   rw [e1,e2,e3];exact ⟨by omega,rfl⟩)
 have hr0l:r0.length<=4000000000:=by
  rw [<- hr0];unfold Lib.trimPrefix;split
  ·rw [List.length_drop];omega
  ·exact hs
 have HN:Hid (N<=4000000000):=Za (by
  subst hN;unfold Qbm;split
  ·omega
  ·have:=(List.takeWhile_sublist (l:=s) (·==(94:UInt8))).length_le;omega)
 have HRR:=Za hroot;have HRN:=Za hN;have HRR2:=Za hR;have HT:=Za hr0;clear hroot hN hR hr0;go_enter Tryz.func129,Tryz.ntmps129;go_wp2_with fail;((with_reducible refine (HC.out _).mono ?_));rintro e w' ⟨rfl,rfl⟩;rw [show Lib.trimPrefix (ByteArray.mk s.toArray).data.toList (ByteArray.mk #[92]).data.toList=r0 from HT.out,show Lib.hasPrefix (ByteArray.mk s.toArray).data.toList (ByteArray.mk #[92]).data.toList=root from HRR.out];clear HC;obtain ⟨w0,hw0⟩:∃ x,((w.alloc (.cells #[.bool false,.int .i64 0,.slice none 0 0] 128)).alloc (.cells #[.bool false,.int .i64 0,.slice none 0 0] 128))=x:=⟨_,rfl⟩;rw [hw0] at HQ;simp only [hw0];have hn:=HQ.out.2.1;obtain ⟨c0,c1,c2⟩:=Qa4 hn;have f0:=Qay hn 0;clear hn hw0;go_wp2_with fail;go_loopw [5] (fun z wr=>∃ (k:Nat) (r:List UInt8),z = .string ⟨r.toArray⟩/\r.length+k<=4000000000/\Hid (CarJ root N R k r)/\Hid (QAt w wr root k (.slice none 0 0))) (fun z _=>Qv1 z)
 case atStart=>exact ⟨0,r0,rfl,by omega,HJ,Za (HQ.out.root root)⟩
 case round =>
  obtain ⟨k,r,rfl,hk,HJ2,HQ2⟩:=hrel;have HP:=Za (Tryz.strings_HasPrefix ⟨r.toArray⟩ ⟨#[94]⟩);go_upto_region 4 with fail;go_cut [19] (fun z wx=>z = .bool (!root&&Lib.hasPrefix r [94])/\wr=wx)
  case first =>
   cases root
   ·go_wp2_with fail;((with_reducible refine (HP.out _).mono ?_));rintro e w' ⟨rfl,rfl⟩;rw [show Lib.hasPrefix (ByteArray.mk r.toArray).data.toList (ByteArray.mk #[94]).data.toList=Lib.hasPrefix r [94] from rfl];go_wp2_with fail;go_meet;exact ⟨rfl,rfl⟩
   ·go_wp2_with fail;go_meet;exact ⟨rfl,rfl⟩
  case rest =>
   obtain ⟨rfl,rfl⟩:=hcut;have hn:=HQ2.out.2.1;obtain ⟨d0,d1,d2⟩:=Qa4 hn;have g1:=Qay hn 1;have g2:=Qay hn 2;clear hn HP;cases hb:(!root&&Lib.hasPrefix r [94])
   ·obtain ⟨rfl,rfl⟩:=HJ2.out.last hb;clear hb;have hn:=HQ2.out.1;obtain ⟨e0,e1,e2⟩:=Qa4 hn;have i0:=Qay hn 0;have i1:=Qay hn 1;have i2:=Qay hn 2;clear hn;by_cases hr:r=[]
    ·have hr':(r != [])=false:=by rw [hr];rfl
     have HS:Hid (QaF s=[]):=Za (by unfold QaF;rw [if_pos (HRR2.out.trans hr)]);have HO:Hid (QaY s=QaD root k []):=Za (by unfold QaY;rw [HS.out,HRR.out,HRN.out]);have HV:=Za (QdD (.agg #[.bool root,.int .i64 k,.slice none 0 0]) root k [] wr (PathV.mk (StrsAt.nil _)) (by simp));subst hr;cases hv:QaD root k []
     all_goals
      rw [hv] at HO;rw [hv] at HV;clear hv;go_wp2_with fail;((with_reducible refine HV.out.mono ?_));rintro e w2 ⟨rfl,hb⟩;have HQ3:=Za (HQ2.out.below hb);clear hb HV HQ2 HQ d0 d1 d2 g1 g2 e0 e1 e2 i0 i1 i2;obtain ⟨d0,d1,d2⟩:=Qa4 HQ3.out.2.1;obtain ⟨e0,e1,e2⟩:=Qa4 HQ3.out.1;have i0:=Qay HQ3.out.1 0;have i1:=Qay HQ3.out.1 1;have i2:=Qay HQ3.out.1 2;go_wp2_with fail
     ·exact bodyPost_ret (Qfi _ _ _ _ _ _ rfl (QjT HQ3.out.1 _ _ _)) rfl (Qea HO.out (QjU HQ3.out.2.2 Zc _ _ _))
     ·refine bodyPost_ret (Qfi _ _ _ _ _ _ rfl (QjT HQ3.out.1 _ _ _)) rfl ?_;have:=QgF (v:=.slice none 0 0) HO.out (by rw [HS.out];exact Qm3 _ _) (QjU HQ3.out.2.2 Zc (.bool root) (.int .i64 k) (.slice none 0 0));rw [HRR.out,HRN.out] at this;exact this
    ·have hr':r.isEmpty=false:=by simpa using hr
     have HL:Hid (QaM r=QaF s):=Za (by unfold QaF;rw [if_neg (fun e=>hr (HRR2.out.symm.trans e)),HRR2.out]);have HK:=Za (QcE r);have HCn:=Za (Tryz.strings_Count_one ⟨r.toArray⟩ 46);go_wp2_with fail;((with_reducible refine (HCn.out _).mono ?_));rintro e w2 ⟨rfl,rfl⟩;rw [show Lib.countByte (ByteArray.mk r.toArray).data.toList 46=r.count 46 from rfl];by_cases hc:32<=r.count 46
     ·have HO:Hid (QaY s=false):=Za (by
       unfold QaY;apply QcN;apply QcJ;rw [<- HL.out,HK.out];have:=HRN.out;omega)
      have hc':(32:Int)<=((r.count 46:Nat):Int):=by omega
      go_wp2_with fail;exact bodyPost_ret (Qfi _ _ _ _ _ _ rfl (QjT HQ2.out.1 _ _ _)) rfl (Qea HO.out (QjU HQ2.out.2.2 Zc _ _ _))
     ·have hc':¬ (32:Int)<=((r.count 46:Nat):Int):=by omega
      have HSp:=Za (Qpe r m _ (HQ2.out.cell HM.out) (by omega));go_wp2_with fail;((with_reducible refine HSp.out.mono ?_));rintro e w3 ⟨v,rfl,ho,hb⟩;have HZ:Hid (w.heap.size+1<w2.heap.size):=Za (lt_of_block HQ2.out.2.1);have HO:=Za ho;have HQ3:=Za (HQ2.out.below hb);have HQ4:=Za (HQ3.out.segs v);have HO4:=Za (Qdx ho ⟨w.heap.size+1,2,none⟩ v HZ.out);clear HO ho hb HSp d0 d1 d2 g1 g2 e0 e1 e2 i0 i1 i2 HQ2 HQ;obtain ⟨d0,d1,d2⟩:=Qa4 HQ3.out.2.1;have g2:=Qay HQ3.out.2.1 2;obtain ⟨a4,m4,c4,rfl⟩:=QqH HO4.out;obtain ⟨w4,hw4⟩:∃ x,w3.setCell ⟨w.heap.size+1,2,none⟩ (.slice a4 m4 c4)=x:=⟨_,rfl⟩;rw [hw4] at HQ4 HO4;go_upto_region 11 with fail;have HS4:Hid (StrsAt w4 (.slice a4 m4 c4) (QaM r)):=Za (StrsAt.of_own HO4.out (by have:=HK.out;have:=List.count_le_length (a:=(46:UInt8)) (l:=r);omega));have HX:Hid (∀ x∈QaM r,x.length<=9223372036854775000):=Za (fun x hx=>by have:=Qkm r x hx;omega);have HV:=Za (QdD (.agg #[.bool root,.int .i64 k,.slice a4 m4 c4]) root k (QaM r) w4 (PathV.mk HS4.out) HX.out);clear HQ3 d0 d1 d2 g2 hw4 HS4;obtain ⟨d0,d1,d2⟩:=Qa4 HQ4.out.2.1;have HO:Hid (QaY s=QaD root k (QaM r)):=Za (by unfold QaY;rw [HL.out,HRR.out,HRN.out]);cases hv:QaD root k (QaM r)
      all_goals
       rw [hv] at HO;rw [hv] at HV;clear hv;go_wp2_with fail;((with_reducible refine HV.out.mono ?_));rintro e w5 ⟨rfl,hb⟩;have HQ5:=Za (HQ4.out.below hb);have HO5:=Za (QbY HO4.out hb);clear hb HV HQ4 d0 d1 d2;obtain ⟨d0,d1,d2⟩:=Qa4 HQ5.out.2.1;obtain ⟨e0,e1,e2⟩:=Qa4 HQ5.out.1;have i0:=Qay HQ5.out.1 0;have i1:=Qay HQ5.out.1 1;have i2:=Qay HQ5.out.1 2;go_wp2_with fail
      ·exact bodyPost_ret (Qfi _ _ _ _ _ _ rfl (QjT HQ5.out.1 _ _ _)) rfl (Qea HO.out (QjU HQ5.out.2.2 Zc _ _ _))
      ·refine bodyPost_ret (Qfi _ _ _ _ _ _ rfl (QjT HQ5.out.1 _ _ _)) rfl ?_;have:=QgF (v:=.slice a4 m4 c4) HO.out (by rw [<- HL.out];exact Qgz (QnK HO5.out w.heap.size (.bool root) (.int .i64 k) (.slice a4 m4 c4) (by have:=HZ.out;omega)) (by have:=HZ.out;omega)) (QjU HQ5.out.2.2 Zc (.bool root) (.int .i64 k) (.slice a4 m4 c4));rw [HRR.out,HRN.out] at this;exact this
   ·obtain rfl:root=false:=by cases root with
     | false=>rfl
     | true=>cases hb
    obtain ⟨t,rfl⟩:=Qin r (by simpa using hb);have HJ3:=Za HJ2.out.step;clear hb HJ2;have hk':t.length+(k+1)<=4000000000:=by simp at hk;omega
    go_wp2_with fail;go_roundw
    case rel=>exact ⟨k+1,t,by simp,hk',HJ3,Za (by have:=HQ2.out.up ((k:Int)+1);exact_mod_cast this)⟩
    case measure=>show t.toArray.size<(94::t).toArray.size;simp
end
section
open Go.RowKit
abbrev Nd:=TokI
def declT:List (List UInt8×List UInt8):=[([83,99,111,112,101],[110,68]),([68,101,118,105,99,101],[115,68]),([80,111,119,101,114,82,101,115,111,117,114,99,101],[115,105,105,68]),([78,97,109,101],[115,100]),([77,101,116,104,111,100],[115,105,105,105,83]),([79,112,101,114,97,116,105,111,110,82,101,103,105,111,110],[115,105,105,105]),([70,105,101,108,100],[110,105,105,70]),([73,110,100,101,120,70,105,101,108,100],[110,110,105,105,70]),([85,110,105,116],[115,105]),([83,107,105,112],[105]),([77,117,116,101,120],[115,105]),([69,118,101,110,116],[115])]
def stmtT:List (List UInt8×List UInt8):=[([83,116,111,114,101],[101,116]),([73,102],[101,83]),([87,104,105,108,101],[101,83]),([82,101,116,117,114,110],[]),([66,114,101,97,107],[]),([67,111,110,116,105,110,117,101],[]),([82,101,108,101,97,115,101],[110]),([83,105,103,110,97,108],[110]),([82,101,115,101,116],[110]),([83,108,101,101,112],[101]),([78,111,116,105,102,121],[110,101]),([65,99,113,117,105,114,101],[110,105]),([87,97,105,116],[110,101])]
def exprT:List (List UInt8×List UInt8):=[([65,100,100],[101,101]),([83,117,98,116,114,97,99,116],[101,101]),([77,117,108,116,105,112,108,121],[101,101]),([68,105,118,105,100,101],[101,101]),([77,111,100],[101,101]),([65,110,100],[101,101]),([79,114],[101,101]),([88,111,114],[101,101]),([83,104,105,102,116,76,101,102,116],[101,101]),([83,104,105,102,116,82,105,103,104,116],[101,101]),([76,65,110,100],[101,101]),([76,79,114],[101,101]),([76,69,113,117,97,108],[101,101]),([76,76,101,115,115],[101,101]),([76,71,114,101,97,116,101,114],[101,101]),([67,111,110,99,97,116,101,110,97,116,101],[101,101]),([73,110,100,101,120],[101,101]),([78,111,116],[101]),([76,78,111,116],[101]),([83,105,122,101,79,102],[101]),([84,111,73,110,116,101,103,101,114],[101]),([84,111,66,117,102,102,101,114],[101]),([84,111,72,101,120,83,116,114,105,110,103],[101]),([84,111,68,101,99,105,109,97,108,83,116,114,105,110,103],[101]),([68,101,114,101,102,79,102],[101]),([82,101,102,79,102],[116]),([67,111,110,100,82,101,102,79,102],[110]),([79,98,106,101,99,116,84,121,112,101],[116]),([77,105,100],[101,101,101])]
def QcR (op:Int):Bool:=op==18||op==19
def Qcm (op:Int):Bool:=op==1||op==2||op==50||op==51
def Qeb (op:Int):Bool:=op==3||op==5||op==6||op==7||op==41||op==42||Qcm op||(decide (60<=op)&&decide (op<=88))
def Qar (k:UInt8) (op:Int):Bool :=
 if k=110\/k=115 then op==3 else if k=105\/k=73 then op==1 else if k=101 then Qeb op
 else if k=116 then op==3||op==6||op==7||op==76||op==84
 else if k=100 then Qcm op else if k=80 then Qcm op||op==3
 else if k=68 then decide (10<=op)&&decide (op<=21)&&!QcR op
 else if k=70 then QcR op
 else if k=83 then (decide (30<=op)&&decide (op<=42))||op==5 else false
def QaQ (k:UInt8):Bool:=decide (65<=k.toNat)&&decide (k.toNat<=90)
def Qgq (k:UInt8):Bool:=k==73||k==80
def QaE (op:Int):List UInt8×List UInt8 :=
 if 10<=op/\op<=21 then declT.getD (op-10).toNat ([],[])
 else if 30<=op/\op<=42 then stmtT.getD (op-30).toNat ([],[])
 else if 60<=op/\op<=88 then exprT.getD (op-60).toNat ([],[])
 else if op=50 then ([66,117,102,102,101,114],[105,73])
 else if op=51 then ([80,97,99,107,97,103,101],[105,80]) else ([],[])
def Ql5 (w:List UInt8):List (List UInt8×List UInt8)->Nat->Option Nat
 | [],_=>none
 | x::r,i=>if x.1=w then some i else Ql5 w r (i+1)
def opW (w:List UInt8):Int :=
 match Ql5 w exprT 60 with
 | some i=>i
 | none=>match Ql5 w stmtT 30 with
   | some i=>i
   | none=>match Ql5 w declT 10 with
     | some i=>i
     | none=>if w=[66,117,102,102,101,114] then 50 else if w=[80,97,99,107,97,103,101] then 51 else 0
def Qkn (w:List UInt8):Option (Int×Nat) :=
 match w.getLast? with
 | none=>none
 | some c=>if w.dropLast=[76,111,99,97,108]/\48<=c.toNat/\c.toNat<56 then some (6,c.toNat-48)
   else if w.dropLast=[65,114,103]/\48<=c.toNat/\c.toNat<55 then some (7,c.toNat-48) else none
def Qfj (s:List UInt8):Bool:=!QaO s&&decide (Qbm s=0)&&decide ((QaF s).length=1)
def Qec (k:UInt8) (s:List UInt8):Bool:=QaY s&&(k != 115||Qfj s)
inductive PR where
 | no (r:List TokI)
 | ok (r:List TokI) (ns:List Nd)
def atT (k:Int):List TokI->Bool
 | []=>false
 | t::_=>t.kind==k
def Qfk:List TokI->Bool
 | []=>false
 | t::_=>t.kind==2&&t.str==[69,108,115,101]
def QwW (E:Int):List TokI->Int
 | []=>E
 | t::_=>t.pos
section
variable (sub:UInt8->List TokI->PR)
def Qgr (text:List UInt8):Nat->Nat->List Nd->List TokI->PR
 | 0,_,_,r=>.no r
 | f+1,m,ns,r=>match sub 101 r with
   | .no x=>.no x
   | .ok r1 n1=>if m+1=7\/atT 9 r1=false then (if atT 6 r1=true then .ok r1.tail (⟨5,0,text,(m+1:Nat)⟩::(ns++n1)) else .no r1)
     else Qgr text f (m+1) (ns++n1) r1.tail
def QeI (text:List UInt8) (r:List TokI):PR:=if atT 6 r=true then .ok r.tail [⟨5,0,text,0⟩] else Qgr sub text 7 0 [] r
def Ql6 (k:UInt8) (text:List UInt8) (r:List TokI):PR :=
 if Qec k text=false then .no r
 else if Qar k 3=false/\Qar k 5=false then .no r
 else if Qar k 5=true/\atT 5 r.tail=true then QeI sub text r.tail.tail
 else if Qar k 3=false then .no r.tail
 else .ok r.tail [⟨3,0,text,0⟩]
def Qb6 (k:UInt8):Nat->Nat->List Nd->List TokI->PR
 | 0,_,_,r=>.no r
 | f+1,m,ns,r=>if atT 8 r=true then .ok r.tail (⟨4,0,[],(m:Nat)⟩::ns)
   else if Qgq k=true/\0<m/\atT 9 r=false then .no r
   else match sub k (if Qgq k=true/\0<m then r.tail else r) with
    | .no x=>.no x
    | .ok r1 n1=>Qb6 k f (m+1) (ns++n1) r1
def QbC (k:UInt8) (r:List TokI):PR:=if atT 7 r=true then Qb6 sub k r.length 0 [] r.tail else .no r
def QcZ:List UInt8->Bool->List Nd->List TokI->PR
 | [],_,ns,r=>if atT 6 r=true then .ok r.tail ns else .no r
 | k::ks,first,ns,r=>if QaQ k=true then (if atT 6 r=true then .ok r.tail ns else .no r)
   else if first=false/\atT 9 r=false then .no r
   else match sub k (if first=false then r.tail else r) with
    | .no x=>.no x
    | .ok r1 n1=>QcZ ks false (ns++n1) r1
def Qc0:List UInt8->List Nd->List TokI->PR
 | [],ns,r=>.ok r ns
 | k::ks,ns,r=>match QbC sub k r with
   | .no x=>.no x
   | .ok r1 n1=>Qc0 ks (ns++n1) r1
def Qca (kinds:List UInt8) (r:List TokI):PR :=
 if kinds=[] then .ok r [] else if atT 5 r=false then .no r
 else match QcZ sub kinds true [] r.tail with
  | .no x=>.no x
  | .ok r1 n1=>Qc0 sub (kinds.dropWhile fun k=>!QaQ k) n1 r1
def Ql7 (k:UInt8) (w:List UInt8) (r:List TokI):PR :=
 match Qkn w with
 | some (op,n)=>if Qar k op=true then .ok r.tail [⟨op,n,[],0⟩] else .no r
 | none =>
   if opW w=0\/Qar k (opW w)=false then .no r
   else if opW w=33 then (if atT 5 r.tail=true then (match Qca sub [101] r.tail with|.no x=>.no x|.ok r1 n1=>.ok r1 (⟨33,0,[],1⟩::n1)) else .ok r.tail [⟨33,0,[],0⟩])
   else match Qca sub (QaE (opW w)).2 r.tail with
    | .no x=>.no x
    | .ok r1 n1 =>
      if opW w=31/\Qfk r1=true then (match QbC sub 83 r1.tail with|.no x=>.no x|.ok r2 n2=>.ok r2 (⟨31,0,[],3⟩::(n1++n2)))
      else .ok r1 (⟨opW w,0,[],((QaE (opW w)).2.length:Nat)⟩::n1)
end
def QfW:Nat->UInt8->List TokI->PR
 | 0,_,r=>.no r
 | f+1,k,r=>match r with
   | []=>.no []
   | t::q=>if t.kind=1 then Ql6 (QfW f) k t.str r else if t.kind=2 then Ql7 (QfW f) k t.str r
     else if t.kind=3/\Qar k 1=true then .ok q [⟨1,t.num,[],0⟩]
     else if t.kind=4/\Qar k 2=true then .ok q [⟨2,0,t.str,0⟩] else .no r
def PGood (r:List TokI):PR->Prop
 | .no x=>∃ k,x=r.drop k
 | .ok x ns=>∃ k,k<=r.length/\x=r.drop k/\ns.length<=k
def PGood1 (r:List TokI):PR->Prop
 | .no x=>∃ k,x=r.drop k
 | .ok x ns=>∃ k,1<=k/\k<=r.length/\x=r.drop k/\ns.length<=k
theorem PGood1.good {r:List TokI} {x:PR} (h:PGood1 r x):PGood r x:=by
 cases x with
 | no y=>exact h
 | ok y ns=>obtain ⟨k,_,h2,h3,h4⟩:=h;exact ⟨k,h2,h3,h4⟩
theorem QcK {k:Int} {r:List TokI} (h:atT k r=true):1<=r.length:=by
 cases r with
 | nil=>cases h
 | cons t q=>simp
theorem PGood.after {r:List TokI} {j n:Nat} {x:PR} (hj:j<=r.length) (h:PGood (r.drop j) x):match x with|.no y=>∃ k,y=r.drop k|.ok y ns=>∃ k,j<=k/\k<=r.length/\y=r.drop k/\ns.length+j<=k:=by
 cases x with
 | no y=>obtain ⟨k,rfl⟩:=h;exact ⟨j+k,by rw [List.drop_drop]⟩
 | ok y ns =>
   obtain ⟨k,h1,rfl,h3⟩:=h;rw [List.length_drop] at h1;exact ⟨j+k,by omega,by omega,by rw [List.drop_drop],by omega⟩
section
variable {sub:UInt8->List TokI->PR} (hs:∀ k r,PGood1 r (sub k r))
include hs
theorem Qko (text:List UInt8) (R:List TokI):∀ (f m j:Nat) (ns:List Nd),j<=R.length->1<=j->ns.length+1<=j ->
  PGood1 R (Qgr sub text f m ns (R.drop j))
 | 0,m,j,ns,h,h1,h2=>⟨j,rfl⟩
 | f+1,m,j,ns,h,h1,h2=>by
   rw [Qgr];have hk:=hs 101 (R.drop j);cases hx:sub 101 (R.drop j) with
   | no x=>rw [hx] at hk;obtain ⟨k,rfl⟩:=hk;exact ⟨j+k,by rw [List.drop_drop]⟩
   | ok r1 n1 =>
     rw [hx] at hk;obtain ⟨k,k1,k2,rfl,k4⟩:=hk;rw [List.length_drop] at k2;rw [List.drop_drop];simp only [];split
     ·split
      ·rename_i h6
       have:=QcK h6;rw [List.length_drop] at this;rw [List.tail_drop];exact ⟨j+k+1,by omega,by omega,rfl,by simp only [List.length_cons,List.length_append];omega⟩
      ·exact ⟨_,rfl⟩
     ·rename_i h9
      have h9':atT 9 (R.drop (j+k))=true:=by
       cases h:atT 9 (R.drop (j+k)) with
       | true=>rfl
       | false=>exact absurd (Or.inr h) h9
      have:=QcK h9';rw [List.length_drop] at this;rw [List.tail_drop];exact Qko text R f (m+1) (j+k+1) _ (by omega) (by omega) (by simp only [List.length_append];omega)
theorem Qpg (text:List UInt8) (R:List TokI) (j:Nat) (h:j<=R.length) (h1:1<=j):PGood1 R (QeI sub text (R.drop j)):=by
 unfold QeI;split
 ·rename_i h6
  have:=QcK h6;rw [List.length_drop] at this;rw [List.tail_drop];exact ⟨j+1,by omega,by omega,rfl,by simp⟩
 ·exact Qko hs text R 7 0 j [] h h1 (by simp;omega)
theorem Qph (k:UInt8) (text:List UInt8) (R:List TokI) (h:1<=R.length):PGood1 R (Ql6 sub k text R):=by
 unfold Ql6;split
 ·exact ⟨0,rfl⟩
 split
 ·exact ⟨0,rfl⟩
 split
 ·rename_i h5
  have:=QcK h5.2;rw [List.length_tail] at this;rw [show R.tail.tail=R.drop 2 by cases R with|nil=>rfl|cons a q=>cases q<;>rfl];exact Qpg hs text R 2 (by omega) (by omega)
 split
 ·exact ⟨1,by rw [List.drop_one]⟩
 ·exact ⟨1,by omega,h,by rw [List.drop_one],by simp⟩
theorem Qjw (k:UInt8) (R:List TokI):∀ (f m j:Nat) (ns:List Nd),j<=R.length->1<=j->ns.length+1<=j ->
  PGood1 R (Qb6 sub k f m ns (R.drop j))
 | 0,m,j,ns,h,h1,h2=>⟨j,rfl⟩
 | f+1,m,j,ns,h,h1,h2=>by
   rw [Qb6];split
   ·rename_i h8
    have:=QcK h8;rw [List.length_drop] at this;rw [List.tail_drop];exact ⟨j+1,by omega,by omega,rfl,by simp only [List.length_cons];omega⟩
   split
   ·exact ⟨j,rfl⟩
   rename_i h9
   obtain ⟨i,hi1,hi2,hi3⟩:∃ i,j<=i/\i<=R.length/\(if Qgq k=true/\0<m then (R.drop j).tail else R.drop j)=R.drop i:=by
    by_cases hl:Qgq k=true/\0<m
    ·rw [if_pos hl];have h9':atT 9 (R.drop j)=true:=by
      cases h:atT 9 (R.drop j) with
      | true=>rfl
      | false=>exact absurd ⟨hl.1,hl.2,h⟩ h9
     have:=QcK h9';rw [List.length_drop] at this;exact ⟨j+1,by omega,by omega,by rw [List.tail_drop]⟩
    ·rw [if_neg hl];exact ⟨j,by omega,h,rfl⟩
   rw [hi3];have hk:=hs k (R.drop i);cases hx:sub k (R.drop i) with
   | no x=>rw [hx] at hk;obtain ⟨k,rfl⟩:=hk;exact ⟨i+k,by rw [List.drop_drop]⟩
   | ok r1 n1 =>
     rw [hx] at hk;obtain ⟨q,k1,k2,rfl,k4⟩:=hk;rw [List.length_drop] at k2;rw [List.drop_drop];exact Qjw k R f (m+1) (i+q) _ (by omega) (by omega) (by simp only [List.length_append];omega)
theorem QgG (k:UInt8) (R:List TokI):PGood1 R (QbC sub k R):=by
 unfold QbC;split
 ·rename_i h7
  have:=QcK h7;rw [<- List.drop_one];exact Qjw hs k R _ 0 1 [] this (by omega) (by simp)
 ·exact ⟨0,rfl⟩
theorem Qkp (R:List TokI):∀ (ks:List UInt8) (first:Bool) (j:Nat) (ns:List Nd),j<=R.length->ns.length<=j ->
  match QcZ sub ks first ns (R.drop j) with|.no x=>∃ k,x=R.drop k|.ok x ns=>∃ k,j+1<=k/\k<=R.length/\x=R.drop k/\ns.length+1<=k
 | [],first,j,ns,h,h2=>by
   rw [QcZ];by_cases h6:atT 6 (R.drop j)=true
   ·rw [if_pos h6];have:=QcK h6;rw [List.length_drop] at this;exact ⟨j+1,by omega,by omega,by rw [List.tail_drop],by omega⟩
   ·rw [if_neg h6];exact ⟨j,rfl⟩
 | k::ks,first,j,ns,h,h2=>by
   rw [QcZ];by_cases hb:QaQ k=true
   ·rw [if_pos hb];by_cases h6:atT 6 (R.drop j)=true
    ·rw [if_pos h6];have:=QcK h6;rw [List.length_drop] at this;exact ⟨j+1,by omega,by omega,by rw [List.tail_drop],by omega⟩
    ·rw [if_neg h6];exact ⟨j,rfl⟩
   rw [if_neg hb];by_cases h9:first=false/\atT 9 (R.drop j)=false
   ·rw [if_pos h9];exact ⟨j,rfl⟩
   rw [if_neg h9];obtain ⟨i,hi1,hi2,hi3⟩:∃ i,j<=i/\i<=R.length/\(if first=false then (R.drop j).tail else R.drop j)=R.drop i:=by
    by_cases hl:first=false
    ·rw [if_pos hl];have h9':atT 9 (R.drop j)=true:=by
      cases h:atT 9 (R.drop j) with
      | true=>rfl
      | false=>exact absurd ⟨hl,h⟩ h9
     have:=QcK h9';rw [List.length_drop] at this;exact ⟨j+1,by omega,by omega,by rw [List.tail_drop]⟩
    ·rw [if_neg hl];exact ⟨j,by omega,h,rfl⟩
   rw [hi3];have hk:=hs k (R.drop i);cases hx:sub k (R.drop i) with
   | no x=>rw [hx] at hk;obtain ⟨k,rfl⟩:=hk;exact ⟨i+k,by rw [List.drop_drop]⟩
   | ok r1 n1 =>
     rw [hx] at hk;obtain ⟨q,k1,k2,rfl,k4⟩:=hk;rw [List.length_drop] at k2;rw [List.drop_drop];simp only [];have:=Qkp R ks false (i+q) (ns++n1) (by omega) (by simp only [List.length_append];omega);cases hy:QcZ sub ks false (ns++n1) (R.drop (i+q)) with
     | no x=>rw [hy] at this;exact this
     | ok x n2=>rw [hy] at this;obtain ⟨z,z1,z2,z3,z4⟩:=this;exact ⟨z,by omega,z2,z3,z4⟩
theorem Qkq (R:List TokI):∀ (ks:List UInt8) (j:Nat) (ns:List Nd),j<=R.length->ns.length+1<=j ->
  match Qc0 sub ks ns (R.drop j) with|.no x=>∃ k,x=R.drop k|.ok x ns=>∃ k,j<=k/\k<=R.length/\x=R.drop k/\ns.length+1<=k
 | [],j,ns,h,h2=>⟨j,Nat.le_refl _,h,rfl,h2⟩
 | k::ks,j,ns,h,h2=>by
   rw [Qc0];have hk:=QgG hs k (R.drop j);cases hx:QbC sub k (R.drop j) with
   | no x=>rw [hx] at hk;obtain ⟨k,rfl⟩:=hk;exact ⟨j+k,by rw [List.drop_drop]⟩
   | ok r1 n1 =>
     rw [hx] at hk;obtain ⟨q,k1,k2,rfl,k4⟩:=hk;rw [List.length_drop] at k2;rw [List.drop_drop];simp only [];have:=Qkq R ks (j+q) (ns++n1) (by omega) (by simp only [List.length_append];omega);cases hy:Qc0 sub ks (ns++n1) (R.drop (j+q)) with
     | no x=>rw [hy] at this;exact this
     | ok x n2=>rw [hy] at this;obtain ⟨z,z1,z2,z3,z4⟩:=this;exact ⟨z,by omega,z2,z3,z4⟩
theorem QiS (kinds:List UInt8) (R:List TokI) (j:Nat) (h:j<=R.length) (h1:1<=j) :
  match Qca sub kinds (R.drop j) with|.no x=>∃ k,x=R.drop k|.ok x ns=>∃ k,j<=k/\k<=R.length/\x=R.drop k/\ns.length+1<=k:=by
 unfold Qca;by_cases hn:kinds=[]
 ·rw [if_pos hn];exact ⟨j,Nat.le_refl _,h,rfl,by simpa using h1⟩
 rw [if_neg hn];by_cases h5:atT 5 (R.drop j)=false
 ·rw [if_pos h5];exact ⟨j,rfl⟩
 rw [if_neg h5];have h5':atT 5 (R.drop j)=true:=by simpa using h5
 have:=QcK h5';rw [List.length_drop] at this;rw [List.tail_drop];have ha:=Qkp hs R kinds true (j+1) [] (by omega) (by simp);cases hx:QcZ sub kinds true [] (R.drop (j+1)) with
 | no x=>rw [hx] at ha;exact ha
 | ok r1 n1 =>
   rw [hx] at ha;obtain ⟨q,k1,k2,rfl,k4⟩:=ha;simp only [];have hb:=Qkq hs R (kinds.dropWhile fun k=>!QaQ k) q n1 k2 k4;cases hy:Qc0 sub (kinds.dropWhile fun k=>!QaQ k) n1 (R.drop q) with
   | no x=>rw [hy] at hb;exact hb
   | ok x n2=>rw [hy] at hb;obtain ⟨z,z1,z2,z3,z4⟩:=hb;exact ⟨z,by omega,z2,z3,z4⟩
theorem Qpi (k:UInt8) (w:List UInt8) (R:List TokI) (h:1<=R.length):PGood1 R (Ql7 sub k w R):=by
 unfold Ql7;cases hv:Qkn w with
 | some x =>
   obtain ⟨op,n⟩:=x;simp only [];split
   ·exact ⟨1,by omega,h,by rw [List.drop_one],by simp⟩
   ·exact ⟨0,rfl⟩
 | none =>
   simp only [];split
   ·exact ⟨0,rfl⟩
   split
   ·split
    ·have:=QiS hs [101] R 1 h (by omega);rw [<- List.drop_one];cases hx:Qca sub [101] (R.drop 1) with
     | no x=>rw [hx] at this;exact this
     | ok x ns=>rw [hx] at this;obtain ⟨z,z1,z2,z3,z4⟩:=this;exact ⟨z,z1,z2,z3,by simpa using z4⟩
    ·exact ⟨1,by omega,h,by rw [List.drop_one],by simp⟩
   ·have:=QiS hs (QaE (opW w)).2 R 1 h (by omega);rw [<- List.drop_one];cases hx:Qca sub (QaE (opW w)).2 (R.drop 1) with
    | no x=>rw [hx] at this;exact this
    | ok x ns =>
      rw [hx] at this;obtain ⟨z,z1,z2,rfl,z4⟩:=this;simp only [];split
      ·rename_i he
       have hl:1<=(R.drop z).length:=by
        cases hd:R.drop z with
        | nil=>rw [hd] at he;cases he.2
        | cons t q=>simp
       rw [List.length_drop] at hl;rw [List.tail_drop];have hk:=QgG hs 83 (R.drop (z+1));cases hy:QbC sub 83 (R.drop (z+1)) with
       | no x=>rw [hy] at hk;obtain ⟨k,rfl⟩:=hk;exact ⟨z+1+k,by rw [List.drop_drop]⟩
       | ok r2 n2 =>
         rw [hy] at hk;obtain ⟨q,k1,k2,rfl,k4⟩:=hk;rw [List.length_drop] at k2;exact ⟨z+1+q,by omega,by omega,by rw [List.drop_drop],by simp only [List.length_cons,List.length_append];omega⟩
      ·exact ⟨z,z1,z2,rfl,by simpa using z4⟩
end
theorem Qg3:∀ (f:Nat) (k:UInt8) (R:List TokI),PGood1 R (QfW f k R)
 | 0,k,R=>⟨0,rfl⟩
 | f+1,k,R=>by
   cases R with
   | nil=>exact ⟨0,rfl⟩
   | cons t q =>
     unfold QfW;simp only [];split
     ·exact Qph (Qg3 f) _ _ _ (by simp)
     split
     ·exact Qpi (Qg3 f) _ _ _ (by simp)
     split
     ·exact ⟨1,by omega,by simp,rfl,by simp⟩
     split
     ·exact ⟨1,by omega,by simp,rfl,by simp⟩
     ·exact ⟨0,rfl⟩
end
end Go.Proofs.YtoohondkpddmcaaGreatDoor
