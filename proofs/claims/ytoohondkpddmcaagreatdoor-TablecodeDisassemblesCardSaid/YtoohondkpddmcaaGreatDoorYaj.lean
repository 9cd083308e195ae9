/- Nsp0 -/
import Derived.Test.YtoohondkpddmcaaGreatDoorYzz
import Derived.Test.YtoohondkpddmcaaGreatDoorYai
import Derived.Test.YtoohondkpddmcaaGreatDoorYab
import Derived.Test.YtoohondkpddmcaaGreatDoorYae
import Derived.Laws.AppendOwnNone
import Derived.Lib.Join
namespace Go.Proofs.YtoohondkpddmcaaGreatDoor
set_option maxHeartbeats 32000000
set_option linter.unusedVariables false
set_option linter.unusedSimpArgs false
open Go.RowKit
attribute [local go_sem] ByteArray.mk_append_mk Qah Qai Qag
theorem QsB:(Tryz.prog.info? 9).map (fun i=>(i.zero,i.size,i.bytes))=some (some (.string ⟨#[]⟩),1,16):=by kernel_rfl
def Qvk (w:World) (l:List (List UInt8)) (e:Ending) (w':World):Prop:=∃ v,e = .returned v/\w'.ownsRow w.heap.size 9 1 v l.length (l.map QbT)/\Below w.heap.size w w'
theorem Qlf (w:World) (B:Nat):w.ownsRow B 9 1 (.slice none 0 0) 0 []:=⟨rfl,.inl ⟨rfl,rfl⟩⟩
theorem Qgi {w:World} {ops:Array Oper} {rest:List Oper} {o:Oper} {a:Act} {Q:Exit->Act->World->Prop} (hgd:o.guard=none) (s x:Operand)
  (ho:o.op = .call { callee:=.builtin .append,args:=#[s,x],argTypes:=#[49,49] })
  (base:Nat) (v:Value) (l1:List (List UInt8)) (hs:a.eval s=v) (hown:w.ownsRow base 9 1 v l1.length (l1.map QbT))
  (y:Value) (l2:List (List UInt8)) (hx:a.eval x=y) (hy:StrsAt w y l2) (hlen:l1.length+l2.length<=1000000) (hbase:base<=w.heap.size)
  (h:∀ v' w',w'.ownsRow base 9 1 v' (l1++l2).length ((l1++l2).map QbT)->w.grownBy w' v.ownBlock->wpList Tryz.prog ops Q rest (a.put o.dst v') w'):wpList Tryz.prog ops Q (o::rest) a w:=by
 obtain ⟨i0,hi,hz0,hz1,hz2⟩:=info_parts QsB;obtain ⟨ad,cap,rfl,hl,hz,hc⟩:=hy;cases ad with
 | none =>
   have hn:l2=[]:=by
    by_cases hn:l2=[]
    ·exact hn
    ·obtain ⟨b,off,hb,_⟩:=hc hn;cases hb
   subst hn;rw [hz.1 rfl] at hx;refine wpList_append_own_none hgd s x _ ho base 9 i0 1 Tryz.underlying49 hi v l1.length _ hs hown hx ?_;have:=h v w (by simpa using hown) (World.grownBy.refl _ _);exact this
 | some ad =>
   refine wpList_append_own _ hgd s x _ ho base 9 i0 (.string ⟨#[]⟩) 1 16 Tryz.underlying49 hi hz0 hz1 hz2 rfl (by decide) v l1.length _ hs hown ad l2.length cap (l2.map QbT) hx (by simp) ?_ ?_ (by unfold maxLen;omega) (by omega) hbase ?_
   ·intro j u hj;rw [List.getElem?_map] at hj;have hj2:j<l2.length:=by
     rcases Nat.lt_or_ge j l2.length with h'|h'
     ·exact h'
     ·rw [List.getElem?_eq_none h'] at hj;cases hj
    rw [List.getElem?_eq_getElem hj2] at hj;have hj:=Option.some.inj hj;subst hj;have hn:l2≠[]:=by rintro rfl;simp at hj2
    obtain ⟨b,off,hb,hk⟩:=hc hn;obtain rfl:=Option.some.inj hb;have e:(⟨b,off,none⟩:Addr).add j=⟨b,off+j,none⟩:=by by_cases h:j=0<;>simp [Addr.add,h]
    rw [e];exact hk j hj2
   ·intro u hu;obtain ⟨x,_,rfl⟩:=List.mem_map.1 hu;rfl
   ·intro v' w' h1 h2 _;refine h v' w' ?_ h2;rw [List.length_append,List.map_append];exact h1
def QhW (w:World) (root:Bool) (up:Int) (l:List (List UInt8)) (ok:Bool) (e:Ending) (w':World):Prop:=∃ v,e = .returned (.tuple #[.agg #[.bool root,.int .i64 up,v],.bool ok])/\w'.ownsRow w.heap.size 9 1 v l.length (l.map QbT)/\Below w.heap.size w w'
def PAt (w wr:World) (root:Bool) (up:Int) (v:Value) (l:List (List UInt8)):Prop:=BoxAt w wr root up v l/\wr.heap[w.heap.size+1]?=some (QgR false 0 (.slice none 0 0))
theorem PAt.start {w:World} {root:Bool} {up:Int} {v:Value} {l:List (List UInt8)} (h:StrsAt w v l):PAt w ((w.alloc (.cells #[.bool root,.int .i64 up,v] 128)).alloc (.cells #[.bool false,.int .i64 0,.slice none 0 0] 128)) root up v l :=
 ⟨(BoxAt.start h).below (Zb.alloc Zc _),heap_alloc2_new _ _ _⟩
theorem PAt.below {w wr w2:World} {root:Bool} {up:Int} {v:Value} {l:List (List UInt8)} (h:PAt w wr root up v l) (hb:Below wr.heap.size wr w2):PAt w w2 root up v l:=⟨h.1.below hb,Qad h.2 hb⟩
theorem Qio {w:World} {b t:Nat} {c0 c1 c2:Value} (h:w.heap[b]?=some (.cells #[c0,c1,c2] t (0,0))) (a0 a1 a2:Value) :
  (((w.setCell ⟨b,0,none⟩ a0).setCell ⟨b,1,none⟩ a1).setCell ⟨b,2,none⟩ a2).heap[b]?=some (.cells #[a0,a1,a2] t (0,0)):=by
 have e0:=(heap_setCell_same w _ 0 _ _ a0 h);have e1:=(heap_setCell_same _ _ 1 _ _ a1 e0);exact (heap_setCell_same _ _ 2 _ _ a2 e1).trans rfl
theorem Qip {B:Nat} {w w1:World} {b:Nat} (h:Below B w w1) (hb:B<=b) (a0 a1 a2:Value):Below B w (((w1.setCell ⟨b,0,none⟩ a0).setCell ⟨b,1,none⟩ a1).setCell ⟨b,2,none⟩ a2) :=
 ((h.setCell hb _).setCell hb _).setCell hb _
theorem QlV {w:World} {B e z:Nat} {v:Value} {n:Nat} {xs:List Value} (h:w.ownsRow B e z v n xs) (b:Nat) (a0 a1 a2:Value) (hb:b<B):(((w.setCell ⟨b,0,none⟩ a0).setCell ⟨b,1,none⟩ a1).setCell ⟨b,2,none⟩ a2).ownsRow B e z v n xs :=
 Qdl (Qdl (Qdl h _ _ hb) _ _ hb) _ _ hb
theorem BoxAt.strs {w wr:World} {root:Bool} {up:Int} {v:Value} {l:List (List UInt8)} (h:BoxAt w wr root up v l):StrsAt wr v l:=h.2.1
def QbE (l:List (List UInt8)):List UInt8:=Lib.join l [46]
theorem QdQ:QbE []=[]:=rfl
theorem QcK (x:List UInt8):QbE [x]=x:=by simp [QbE,Lib.join,List.intercalate]
theorem Qcc (x y:List UInt8) (r:List (List UInt8)):QbE (x::y::r)=x++46::QbE (y::r):=by
 simp [QbE,Lib.join,List.intercalate]
theorem QiP:∀ (l:List (List UInt8)) (x:List UInt8),l≠[]->QbE (l++[x])=QbE l++46::x
 | [],_,h=>absurd rfl h
 | [y],x,_=>by rw [List.singleton_append,Qcc,QcK,QcK]
 | y::z::r,x,_=>by
   have:=QiP (z::r) x (by simp);rw [List.cons_append,List.cons_append,Qcc,Qcc];rw [List.cons_append] at this;rw [this];simp
theorem Qho:∀ (l:List (List UInt8)),(∀ x∈l,x.length<=4)->(QbE l).length<=5 * l.length
 | [],_=>by simp [QdQ]
 | [x],h=>by rw [QcK];have:=h x (by simp);simp;omega
 | x::y::r,h=>by
   rw [Qcc];have:=Qho (y::r) (fun z hz=>h z (by simp [hz]));have:=h x (by simp);simp only [List.length_append,List.length_cons] at *;omega
def QiQ (root:Bool) (up:Int) (l:List (List UInt8)):List UInt8:=(if root then [92] else List.replicate up.toNat 94)++QbE l
def Qdw (root:Bool) (up:Int) (l:List (List UInt8)):List UInt8:=if QaI root up l then QiQ root up l else []
theorem QhX (c:UInt8):∀ n,Lib.repeatL [c] n=List.replicate n c
 | 0=>rfl
 | n+1=>by rw [Lib.repeatL,QhX c n];rfl
theorem QbN {root:Bool} {up:Int} {l:List (List UInt8)} (h:QaI root up l=true):∀ x∈l,QaV x=true:=by
 unfold QaI at h;simp only [Bool.and_eq_true,List.all_eq_true] at h;exact h.2
theorem QdR {root:Bool} {up:Int} {l:List (List UInt8)} (h:QaI root up l=true):0<=up/\up<=32/\(root=true->up=0)/\(l.length:Int)<=32-up/\(root=true\/0<up\/0<l.length):=by
 unfold QaI at h;simp only [Bool.and_eq_true] at h;exact of_decide_eq_true h.1
theorem QhY {root:Bool} {up:Int} {l:List (List UInt8)} (h:QaI root up l=true):(QbE l).length<=160:=by
 have:=Qho l (fun x hx=>(Qcj (QbN h x hx)).2);have:=QdR h;omega
theorem Qlg (n:Nat) (w:World) (h:n<=1000):Calls Tryz.prog 188 #[.string ⟨#[94]⟩,.int .i64 n] w fun e w'=>e = .returned (.string ⟨(List.replicate n (94:UInt8)).toArray⟩)/\Below w.heap.size w w':=by
 refine (Tryz.strings_Repeat ⟨#[94]⟩ n w (by omega) (by show 1 * n<=_;omega)).mono ?_;rintro e w' ⟨he,hb⟩;refine ⟨?_,hb⟩;rw [he];show Ending.returned (.string ⟨(Lib.repeatL [94] n).toArray⟩)=_;rw [QhX]
theorem Qpn (v:Value) (l:List (List UInt8)) (w:World) (h:StrsAt w v l) (hl:l.length<=1000000) (hx:(QbE l).length<=1000000):Calls Tryz.prog 206 #[v,.string ⟨#[46]⟩] w fun e w'=>e = .returned (.string ⟨(QbE l).toArray⟩)/\Below w.heap.size w w':=by
 have hlt:=h.lt;obtain ⟨a,cap,rfl,hl2,hz,hc⟩:=h;by_cases hn:l=[]
 ·subst hn;exact (Tryz.strings_Join_none a cap _ w).mono fun e w' ⟨he,hw⟩=>⟨he,hw▸Zb⟩
 ·obtain ⟨b,off,rfl,hk⟩:=hc hn;have hm:((l.map fun x=>(⟨x.toArray⟩:ByteArray)).map (·.data.toList))=l:=by
   rw [List.map_map];exact (List.map_congr_left (fun x _=>rfl)).trans (List.map_id l)
  have hj:Lib.join ((l.map fun x=>(⟨x.toArray⟩:ByteArray)).map (·.data.toList)) (ByteArray.mk #[46]).data.toList=QbE l:=by rw [hm];rfl
  have h0:=Tryz.strings_Join b off cap (l.map fun x=>(⟨x.toArray⟩:ByteArray)) ⟨#[46]⟩ w ?_ (hlt _ _ _ rfl hn) (by rw [List.length_map];omega) (by rw [List.length_map];omega) (by rw [hj];omega)
  ·rw [hj,List.length_map] at h0;exact h0
  ·intro j x hj;rw [List.getElem?_map] at hj;have hj2:j<l.length:=by
    rcases Nat.lt_or_ge j l.length with h'|h'
    ·exact h'
    ·rw [List.getElem?_eq_none h'] at hj;cases hj
   rw [List.getElem?_eq_getElem hj2] at hj;injection hj with hj;subst hj;exact hk j hj2
theorem Qnh (p:Value) (root:Bool) (up:Int) (l:List (List UInt8)) (w:World) (hp:PathV w p root up l) (hx:∀ x∈l,x.length<=9223372036854775000) :
  Calls Tryz.prog 153 #[p] w fun e w'=>e = .returned (.string ⟨(Qdw root up l).toArray⟩)/\Below w.heap.size w w':=by
 obtain ⟨v,rfl,hs⟩:=hp;have HA:=Za (BoxAt.start (root:=root) (up:=up) hs);have HX:=Za hx;clear hx;obtain ⟨a,cap,rfl,hcap⟩:=hs.form;clear hs;obtain ⟨p0,p1,p2⟩:=HA.out.cells;have HN:=Za (Qdp _ root up l _ HA.out.pathV HX.out);cases hv:QaI root up l
 ·have HV:=Za hv;clear hv;go_enter Tryz.func153,Tryz.ntmps153;go_wp2_with fail;((with_reducible refine HN.out.mono ?_));rintro e w1 ⟨rfl,hb⟩;have HB:=Za (HA.out.below hb);clear hb HN HA p0 p1 p2;rw [HV.out];go_wp2_with fail;go_ret;exact ⟨by unfold Qdw;rw [HV.out];rfl,HB.out.2.2⟩
 ·have HV:=Za hv;obtain ⟨v1,v2,v3,v4,v5⟩:=QdR hv;obtain ⟨n,rfl⟩:∃ n:Nat,up=n:=⟨up.toNat,by omega⟩;have HF:Hid (Qdw root n l=(if root then [92] else List.replicate n 94)++QbE l):=Za (by unfold Qdw QiQ;rw [if_pos hv];rfl);have hj:=QhY hv;have hll:l.length<=32:=by omega
  clear hv v3 v4 v5;go_enter Tryz.func153,Tryz.ntmps153;go_wp2_with fail;((with_reducible refine HN.out.mono ?_));rintro e w1 ⟨rfl,hb⟩;have HB:=Za (HA.out.below hb);clear hb HN HA p0 p1 p2;obtain ⟨p0,p1,p2⟩:=HB.out.cells;rw [HV.out];go_wp2_with fail;((with_reducible refine (Qlg n _ (by omega)).mono ?_));rintro e w2 ⟨rfl,hb⟩;have HC:=Za (HB.out.below hb);clear hb HB p0 p1 p2;obtain ⟨p0,p1,p2⟩:=HC.out.cells;cases root
  all_goals
   go_wp2_with fail;((with_reducible refine (Qpn _ l _ HC.out.strs (by omega) (by omega)).mono ?_));rintro e w3 ⟨rfl,hb⟩;have HD:=Za (HC.out.below hb);clear hb HC p0 p1 p2;go_wp2_with fail;go_ret;exact ⟨by rw [HF.out];rfl,HD.out.2.2⟩
theorem Qni (l:List (List UInt8)) (k:Nat) (hk:k<l.length):QbE (l.take (k+1))=(if 0<k then QbE (l.take k)++[46] else QbE (l.take k))++l[k]:=by
 rw [<- List.take_append_getElem hk];by_cases h:0<k
 ·rw [if_pos h,QiP _ _ (by intro e;have:=congrArg List.length e;rw [List.length_take] at this;simp only [List.length_nil] at this;omega)];simp
 ·obtain rfl:k=0:=by omega
  simp [QcK,QdQ]
theorem QdX (p:Value) (root:Bool) (up:Int) (l:List (List UInt8)) (w:World) (hp:PathV w p root up l) (hx:∀ x∈l,x.length<=9223372036854775000) :
  Calls Tryz.prog 146 #[p] w fun e w'=>e = .returned (.string ⟨(Qdw root up l).toArray⟩)/\Below w.heap.size w w':=by
 obtain ⟨v,rfl,hs⟩:=hp;have HA:=Za (BoxAt.start (root:=root) (up:=up) hs);have HX:=Za hx;clear hx;obtain ⟨a,cap,rfl,hcap⟩:=hs.form;clear hs;obtain ⟨p0,p1,p2⟩:=HA.out.cells;have HN:=Za (Qf5 _ root up l _ HA.out.pathV HX.out);cases hv:QaI root up l
 ·have HV:=Za hv;clear hv;go_enter Tryz.func146,Tryz.ntmps146;go_wp2_with fail;((with_reducible refine HN.out.mono ?_));rintro e w1 ⟨rfl,hb⟩;have HB:=Za (HA.out.below hb);clear hb HN HA p0 p1 p2;rw [HV.out];go_wp2_with fail;go_ret;exact ⟨by unfold Qdw;rw [HV.out];rfl,HB.out.2.2⟩
 ·have HV:=Za hv;obtain ⟨v1,v2,v3,v4,v5⟩:=QdR hv;obtain ⟨n,rfl⟩:∃ n:Nat,up=n:=⟨up.toNat,by omega⟩;have HF:Hid (Qdw root n l=(if root then [92] else List.replicate n 94)++QbE l):=Za (by unfold Qdw QiQ;rw [if_pos hv];rfl);have hll:l.length<=32:=by omega
  have HR:=Za v3;clear hv v3 v4 v5;go_enter Tryz.func146,Tryz.ntmps146;go_wp2_with fail;((with_reducible refine HN.out.mono ?_));rintro e w1 ⟨rfl,hb⟩;have HB:=Za (HA.out.below hb);clear hb HN HA p0 p1 p2;obtain ⟨p0,p1,p2⟩:=HB.out.cells;rw [HV.out];go_upto_if 10 with fail;go_cut [3] (fun s wx=>s = .string ⟨(if root then [92] else []:List UInt8).toArray⟩/\w1=wx)
  case first =>
   cases root
   all_goals
    go_wp2_with fail;go_meet;exact ⟨rfl,rfl⟩
  case rest =>
   obtain ⟨rfl,rfl⟩:=hcut;generalize hpre:(if root then [92] else []:List UInt8)=pre;have HP:Hid ((if root then [92] else List.replicate n 94)=pre++List.replicate n (94:UInt8)):=Za (by
    subst hpre;cases root with
    | true => have := HR.out rfl; obtain rfl : n = 0 := by omega
              rfl
    | false=>rfl)
   have hpl:pre.length<=1:=by subst hpre;cases root<;>simp
   clear hpre;go_wp2_with fail;go_loop [3,4] (fun s i=>∃ k:Nat,i = .int .i64 k/\k<=n/\s = .string ⟨(pre++List.replicate k 94).toArray⟩) (fun s i=>n-(intOf i).toNat)
   case atStart=>exact ⟨0,rfl,Nat.zero_le _,by simp⟩
   case round =>
    obtain ⟨k,rfl,hk,rfl⟩:=hrel;by_cases hlt:k<n
    ·have hlt':(k:Int)<n:=by omega
     go_wp2_with fail;go_round
     case rel=>exact ⟨k+1,by go_num,by omega,by simp [List.replicate_succ']⟩
     case measure=>simp [intOf];omega
    ·have hlt':¬ (k:Int)<n:=by omega
     obtain rfl:k=n:=by omega
     go_wp2_with fail;generalize hpre2:pre++List.replicate k (94:UInt8)=pre2;rw [hpre2] at HP;have hpl2:pre2.length<=33:=by rw [<- hpre2,List.length_append,List.length_replicate];omega
     clear hpre2;go_loop [3,5] (fun s i=>∃ j:Nat,i = .int .i64 j/\j<=l.length/\s = .string ⟨(pre2++QbE (l.take j)).toArray⟩) (fun s i=>l.length-(intOf i).toNat)
     case atStart=>exact ⟨0,rfl,Nat.zero_le _,by simp [QdQ]⟩
     case round =>
      obtain ⟨j,rfl,hj,rfl⟩:=hrel;by_cases hlt:j<l.length
      ·obtain ⟨b,off,rfl,hcell⟩:=Qiv HB.out.2.1 j hlt;have HT:=Za (Qni l j hlt);have hxl:l[j].length<=4:=(Qcj (QbN HV.out _ (List.getElem_mem hlt))).2;have hsl:(QbE (l.take j)).length<=160:=by
        have:=Qho (l.take j) (fun x hx=>(Qcj (QbN HV.out x (List.mem_of_mem_take hx))).2);rw [List.length_take] at this;omega
       generalize l[j]=x at *;generalize QbE (l.take j)=s0 at *;by_cases h0:0<j
       ·have h0':(0:Int)<j:=by omega
        go_wp2_with fail;go_round
        case rel=>exact ⟨j+1,by go_num,by omega,by rw [HT.out,if_pos h0];simp⟩
        case measure=>simp [intOf];omega
       ·have h0':¬ (0:Int)<j:=by omega
        go_wp2_with fail;go_round
        case rel=>exact ⟨j+1,by go_num,by omega,by rw [HT.out,if_neg h0]⟩
        case measure=>simp [intOf];omega
      ·have HE:Hid (QbE (l.take j)=QbE l):=Za (by rw [List.take_of_length_le (by omega)]);generalize QbE (l.take j)=s0 at *;go_wp2_with fail;go_ret;exact ⟨by rw [HF.out,HP.out,HE.out];rfl,HB.out.2.2⟩
def QaE:List UInt8->List (List UInt8)
 | []=>[[]]
 | c::s=>if c=46 then []::QaE s else match QaE s with|[]=>[[c]]|x::r=>(c::x)::r
theorem Qc9 (s:List UInt8):QaE (46::s)=[]::QaE s:=by rw [QaE,if_pos rfl]
theorem QeH (s:List UInt8):QaE s≠[]:=by
 cases s with
 | nil=>simp [QaE]
 | cons c s =>
   unfold QaE;split
   ·simp
   ·split<;>simp
theorem Qbu (c:UInt8) (s:List UInt8) (h:c≠46) (x:List UInt8) (r:List (List UInt8)) (hs:QaE s=x::r):QaE (c::s)=(c::x)::r:=by
 rw [QaE,if_neg h,hs]
theorem Qcs:∀ s:List UInt8,(QaE s).length=s.count 46+1
 | []=>rfl
 | c::s=>by
   have ih:=Qcs s;by_cases h:c=46
   ·subst h;rw [Qc9];simp [ih]
   ·cases hs:QaE s with
    | nil=>exact absurd hs (QeH s)
    | cons x r =>
      rw [Qbu c s h x r hs];rw [hs] at ih;rw [List.count_cons_of_ne (by simpa using h)];simpa using ih
theorem Qpo (s:List UInt8):Lib.index (46::s) [46]=0:=by simp [Lib.index]
theorem QlW (c:UInt8) (s:List UInt8) (h:c≠46):Lib.index (c::s) [46]=if Lib.index s [46]==-1 then -1 else Lib.index s [46]+1:=by
 rw [Lib.index,if_neg (by simpa using fun e=>h e.symm)]
theorem QlX:∀ s:List UInt8,Lib.splitK [46] 0 (s.count 46) s=QaE s
 | []=>rfl
 | c::s=>by
   have ih:=QlX s;by_cases h:c=46
   ·subst h;rw [Qc9,List.count_cons_self,Lib.splitK,Qpo];simp [ih]
   ·rw [List.count_cons_of_ne (by simpa using h)];cases hk:s.count 46 with
    | zero =>
      rw [hk,Lib.splitK] at ih;rw [Lib.splitK,Qbu c s h s [] ih.symm]
    | succ k =>
      rw [hk,Lib.splitK] at ih;rw [Lib.splitK,QlW c s h];by_cases hi:(Lib.index s [46]==-1)=true
      ·rw [if_pos hi] at ih;rw [if_pos hi,if_pos (by rfl),Qbu c s h s [] ih.symm]
      ·rw [if_neg hi] at ih;have hi':Lib.index s [46]≠-1:=by simpa using hi
       have hge:=Lib.index_ge s [46];rw [if_neg hi,if_neg (by simp;omega),Qbu c s h _ _ ih.symm];obtain ⟨i,hi2⟩:∃ i:Nat,Lib.index s [46]=i:=⟨(Lib.index s [46]).toNat,by omega⟩;rw [hi2];have e1:((i:Int)+1).toNat=i+1:=by omega
       have e2:((i:Int)).toNat=i:=by omega
       rw [e1,e2];simp
theorem QlY (s:List UInt8):Lib.countB ⟨s.toArray⟩ ⟨#[46]⟩=s.count 46/\(Lib.splitB ⟨#[46]⟩ 0 (s.count 46) ⟨s.toArray⟩).map Value.string=(QaE s).map QbT:=by
 refine ⟨Lib.count_one 46 s,?_⟩;have h:=Lib.splitB_data ⟨#[46]⟩ 0 (s.count 46) ⟨s.toArray⟩;have h2:Lib.splitK (ByteArray.mk #[46]).data.toList 0 (s.count 46) (ByteArray.mk s.toArray).data.toList=QaE s:=QlX s;rw [h2] at h;rw [<- h,List.map_map];apply List.map_congr_left;intro x _;show Value.string x = .string ⟨x.data.toList.toArray⟩;simp
theorem Qpp (w:World) (B:Nat) (hB:B<=w.heap.size) (l:List (List UInt8)) (n:Nat) (hn:n=l.length) (hl:l.length<=5000000000):(w.alloc (.cells (l.map QbT).toArray 9)).ownsRow B 9 1 (.slice (some ⟨w.heap.size,0,none⟩) n n) l.length (l.map QbT):=by
 subst hn;refine ⟨by simp,.inr ⟨w.heap.size,l.length,(l.map QbT).toArray,rfl,hB,heap_alloc_new _ _,Nat.le_refl _,by unfold maxLen;omega,by simp,?_⟩⟩;rw [List.take_of_length_le (by simp)]
theorem Qnj (s:List UInt8) (m:Int) (w:World) (hm:w.cell? ⟨0,0,none⟩=some (.int .i64 m)) (hs:s.length<=4000000000) :
  Calls Tryz.prog 186 #[.string ⟨s.toArray⟩,.string ⟨#[46]⟩] w (Qvk w (QaE s)):=by
 refine (Tryz.strings_Split ⟨s.toArray⟩ ⟨#[46]⟩ m w (by show s.toArray.size<_;simp;omega) hm (by decide)).mono ?_;rintro e w' ⟨he,hw⟩;rw [(QlY s).1] at he hw;rw [(QlY s).2] at hw;subst hw;refine ⟨_,he,Qpp w _ Zc _ _ (Qcs s).symm (by have:=Qcs s;have:=List.count_le_length (a:=(46:UInt8)) (l:=s);omega),Zb.alloc Zc _⟩
def QaJ (s:List UInt8):Bool:=Lib.hasPrefix s [92]
def Qbv (s:List UInt8):List UInt8:=if QaJ s then s.drop 1 else s.dropWhile (·==94)
def Qbp (s:List UInt8):Nat:=if QaJ s then 0 else (s.takeWhile (·==94)).length
def QaG (s:List UInt8):List (List UInt8):=if Qbv s=[] then [] else QaE (Qbv s)
def QaW (s:List UInt8):Bool:=QaI (QaJ s) (Qbp s) (QaG s)
def Qck (w:World) (s:List UInt8):Ending->World->Prop:=QhW w (QaW s&&QaJ s) (if QaW s=true then (Qbp s:Int) else 0) (if QaW s=true then QaG s else []) (QaW s)
def QAt (w wr:World) (root:Bool) (up:Int) (v:Value):Prop:=wr.heap[w.heap.size]?=some (QgR false 0 (.slice none 0 0))/\wr.heap[w.heap.size+1]?=some (QgR root up v)/\Below w.heap.size w wr
theorem QAt.start (w:World):QAt w ((w.alloc (.cells #[.bool false,.int .i64 0,.slice none 0 0] 128)).alloc (.cells #[.bool false,.int .i64 0,.slice none 0 0] 128)) false 0 (.slice none 0 0) :=
 ⟨QoU (heap_alloc_new _ _) _,heap_alloc2_new _ _ _,(Zb.alloc Zc _).alloc (by simp) _⟩
theorem QAt.below {w wr w2:World} {root:Bool} {up:Int} {v:Value} (h:QAt w wr root up v) (hb:Below wr.heap.size wr w2):QAt w w2 root up v:=⟨Qad h.1 hb,Qad h.2.1 hb,Qar h.2.2 Zc hb⟩
theorem QAt.root {w wr:World} {root:Bool} {up:Int} {v:Value} (h:QAt w wr root up v) (r:Bool):QAt w (wr.setCell ⟨w.heap.size+1,0,none⟩ (.bool r)) r up v :=
 ⟨QbB h.1 _ _ (by show w.heap.size≠w.heap.size+1;omega),(heap_setCell_same _ _ 0 _ _ _ h.2.1).trans rfl,h.2.2.setCell (by show w.heap.size<=w.heap.size+1;omega) _⟩
theorem QAt.up {w wr:World} {root:Bool} {up:Int} {v:Value} (h:QAt w wr root up v) (u:Int):QAt w (wr.setCell ⟨w.heap.size+1,1,none⟩ (.int .i64 u)) root u v :=
 ⟨QbB h.1 _ _ (by show w.heap.size≠w.heap.size+1;omega),(heap_setCell_same _ _ 1 _ _ _ h.2.1).trans rfl,h.2.2.setCell (by show w.heap.size<=w.heap.size+1;omega) _⟩
theorem QAt.segs {w wr:World} {root:Bool} {up:Int} {v:Value} (h:QAt w wr root up v) (u:Value):QAt w (wr.setCell ⟨w.heap.size+1,2,none⟩ u) root up u :=
 ⟨QbB h.1 _ _ (by show w.heap.size≠w.heap.size+1;omega),(heap_setCell_same _ _ 2 _ _ _ h.2.1).trans rfl,h.2.2.setCell (by show w.heap.size<=w.heap.size+1;omega) _⟩
theorem QAt.cell {w wr:World} {root:Bool} {up:Int} {v:Value} (h:QAt w wr root up v) {m:Int} (hm:w.cell? ⟨0,0,none⟩=some (.int .i64 m)):wr.cell? ⟨0,0,none⟩=some (.int .i64 m):=by
 rw [h.2.2.cell (p:=⟨0,0,none⟩) (World.block_lt_of_cell? w _ hm)];exact hm
theorem QeI (tmps:Array Value) (w:World) (b:Nat) (c0 c1 c2:Value) (h2:tmps.getD 2 undef = .pointer (some ⟨b,0,none⟩)) (hb:w.heap[b]?=some (.cells #[c0,c1,c2] 128 (0,0))) :
  (results Tryz.f129 tmps).run Tryz.prog w = .ok (.tuple #[.agg #[c0,c1,c2],tmps.getD 3 undef]) w:=by
 obtain ⟨e0,e1,e2⟩:=QaT hb;have h2':tmps[2]?.getD undef = .pointer (some ⟨b,0,none⟩):=by rw [<- h2];simp
 simp [results];go_simp
def Qun:Value->Nat
 | .string b=>b.size
 | _=>0
def CarJ (root:Bool) (N:Nat) (R:List UInt8) (k:Nat) (r:List UInt8):Prop:=(root=true->k=N/\r=R)/\(root=false->k+(r.takeWhile (·==94)).length=N/\r.dropWhile (·==94)=R)
theorem QgU (r:List UInt8):Lib.hasPrefix r [94]=true->∃ t,r=94::t:=by
 cases r with
 | nil=>intro h;cases h
 | cons c t =>
   intro h;refine ⟨t,?_⟩;have:(94==c)=true:=by simpa [Lib.hasPrefix] using h
   rw [beq_iff_eq.1 this]
theorem Qnk (r:List UInt8) (h:Lib.hasPrefix r [94]=false):r.takeWhile (·==94)=[]/\r.dropWhile (·==94)=r:=by
 cases r with
 | nil=>exact ⟨rfl,rfl⟩
 | cons c t =>
   have:(c==94)=false:=by
    cases hc:(c==94)
    ·rfl
    ·rw [beq_iff_eq.1 hc] at h;simp [Lib.hasPrefix] at h
   constructor
   ·rw [List.takeWhile_cons,this];rfl
   ·rw [List.dropWhile_cons,this];rfl
theorem CarJ.step {N:Nat} {R:List UInt8} {k:Nat} {t:List UInt8} (h:CarJ false N R k (94::t)):CarJ false N R (k+1) t:=by
 refine ⟨(fun h=>by cases h),fun _=>?_⟩;obtain ⟨h1,h2⟩:=h.2 rfl;have e1:List.takeWhile (·==(94:UInt8)) (94::t)=94::List.takeWhile (·==94) t:=by simp
 have e2:List.dropWhile (·==(94:UInt8)) (94::t)=List.dropWhile (·==94) t:=by simp
 rw [e1,List.length_cons] at h1;rw [e2] at h2;exact ⟨by omega,h2⟩
theorem CarJ.last {root:Bool} {N:Nat} {R:List UInt8} {k:Nat} {r:List UInt8} (h:CarJ root N R k r) (hb:(!root&&Lib.hasPrefix r [94])=false):k=N/\r=R:=by
 cases root with
 | true=>exact h.1 rfl
 | false =>
   obtain ⟨h1,h2⟩:=h.2 rfl;obtain ⟨h3,h4⟩:=Qnk r (by simpa using hb);rw [h3] at h1;rw [h4] at h2;exact ⟨by simpa using h1,h2⟩
theorem QiR:∀ (s:List UInt8) (x:List UInt8),x∈QaE s->x.length<=s.length
 | [],x,h=>by simp [QaE] at h;subst h;simp
 | c::s,x,h=>by
   have ih:=QiR s;by_cases hc:c=46
   ·subst hc;rw [Qc9] at h;rcases List.mem_cons.1 h with h|h
    ·subst h;simp
    ·have:=ih x h;simp;omega
   ·cases hs:QaE s with
    | nil=>exact absurd hs (QeH s)
    | cons y r =>
      rw [Qbu c s hc y r hs] at h;rw [hs] at ih;rcases List.mem_cons.1 h with h|h
      ·have:=ih y (by simp);subst h;simp;omega
      ·have:=ih x (by simp [h]);simp;omega
theorem QdY {w w':World} {s:List UInt8} (h:QaW s=false) (hb:Below w.heap.size w w'):Qck w s (.returned (.tuple #[.agg #[.bool false,.int .i64 0,.slice none 0 0],.bool false])) w':=by
 unfold Qck;rw [h];exact ⟨_,rfl,Qlf _ _,hb⟩
theorem Qft {w w':World} {s:List UInt8} {v:Value} (h:QaW s=true) (ho:w'.ownsRow w.heap.size 9 1 v (QaG s).length ((QaG s).map QbT)) (hb:Below w.heap.size w w'):Qck w s (.returned (.tuple #[.agg #[.bool (QaJ s),.int .i64 (Qbp s),v],.bool true])) w':=by
 unfold Qck;rw [h];exact ⟨_,rfl,ho,hb⟩
theorem Qkv (s:List UInt8) (m:Int) (w:World) (hm:w.cell? ⟨0,0,none⟩=some (.int .i64 m)) (hs:s.length<=4000000000) :
  Calls Tryz.prog 129 #[.string ⟨s.toArray⟩] w (Qck w s):=by
 have HM:=Za hm;have HQ:=Za (QAt.start w);have HC:=Za (Tryz.strings_CutPrefix ⟨s.toArray⟩ ⟨#[92]⟩);clear hm;obtain ⟨root,hroot⟩:∃ b,QaJ s=b:=⟨_,rfl⟩;obtain ⟨N,hN⟩:∃ b,Qbp s=b:=⟨_,rfl⟩;obtain ⟨R,hR⟩:∃ b,Qbv s=b:=⟨_,rfl⟩;obtain ⟨r0,hr0⟩:∃ b,Lib.trimPrefix s [92]=b:=⟨_,rfl⟩;have HJ:Hid (CarJ root N R 0 r0):=Za (by
  subst hroot hN hR hr0;refine ⟨fun h=>?_,fun h=>?_⟩
  ·refine ⟨by unfold Qbp;rw [if_pos h],?_⟩;unfold Qbv Lib.trimPrefix;rw [if_pos h,if_pos (by exact h)];rfl
  ·have h':Lib.hasPrefix s [92]=false:=h;have e1:Qbp s=(s.takeWhile (·==94)).length:=by unfold Qbp;rw [h];rfl
   have e2:Qbv s=s.dropWhile (·==94):=by unfold Qbv;rw [h];rfl
   have e3:Lib.trimPrefix s [92]=s:=by unfold Lib.trimPrefix;rw [h'];rfl
   rw [e1,e2,e3];exact ⟨by omega,rfl⟩)
 have hr0l:r0.length<=4000000000:=by
  rw [<- hr0];unfold Lib.trimPrefix;split
  ·rw [List.length_drop];omega
  ·exact hs
 have HN:Hid (N<=4000000000):=Za (by
  subst hN;unfold Qbp;split
  ·omega
  ·have:=(List.takeWhile_sublist (l:=s) (·==(94:UInt8))).length_le;omega)
 have HRR:=Za hroot;have HRN:=Za hN;have HRR2:=Za hR;have HT:=Za hr0;clear hroot hN hR hr0;go_enter Tryz.func129,Tryz.ntmps129;go_wp2_with fail;((with_reducible refine (HC.out _).mono ?_));rintro e w' ⟨rfl,rfl⟩;rw [show Lib.trimPrefix (ByteArray.mk s.toArray).data.toList (ByteArray.mk #[92]).data.toList=r0 from HT.out,show Lib.hasPrefix (ByteArray.mk s.toArray).data.toList (ByteArray.mk #[92]).data.toList=root from HRR.out];clear HC;obtain ⟨w0,hw0⟩:∃ x,((w.alloc (.cells #[.bool false,.int .i64 0,.slice none 0 0] 128)).alloc (.cells #[.bool false,.int .i64 0,.slice none 0 0] 128))=x:=⟨_,rfl⟩;rw [hw0] at HQ;simp only [hw0];have hn:=HQ.out.2.1;obtain ⟨c0,c1,c2⟩:=QaT hn;have f0:=Qam hn 0;clear hn hw0;go_wp2_with fail;go_loopw [5] (fun z wr=>∃ (k:Nat) (r:List UInt8),z = .string ⟨r.toArray⟩/\r.length+k<=4000000000/\Hid (CarJ root N R k r)/\Hid (QAt w wr root k (.slice none 0 0))) (fun z _=>Qun z)
 case atStart=>exact ⟨0,r0,rfl,by omega,HJ,Za (HQ.out.root root)⟩
 case round =>
  obtain ⟨k,r,rfl,hk,HJ2,HQ2⟩:=hrel;have HP:=Za (Tryz.strings_HasPrefix ⟨r.toArray⟩ ⟨#[94]⟩);go_upto_region 4 with fail;go_cut [19] (fun z wx=>z = .bool (!root&&Lib.hasPrefix r [94])/\wr=wx)
  case first =>
   cases root
   ·go_wp2_with fail;((with_reducible refine (HP.out _).mono ?_));rintro e w' ⟨rfl,rfl⟩;rw [show Lib.hasPrefix (ByteArray.mk r.toArray).data.toList (ByteArray.mk #[94]).data.toList=Lib.hasPrefix r [94] from rfl];go_wp2_with fail;go_meet;exact ⟨rfl,rfl⟩
   ·go_wp2_with fail;go_meet;exact ⟨rfl,rfl⟩
  case rest =>
   obtain ⟨rfl,rfl⟩:=hcut;have hn:=HQ2.out.2.1;obtain ⟨d0,d1,d2⟩:=QaT hn;have g1:=Qam hn 1;have g2:=Qam hn 2;clear hn HP;cases hb:(!root&&Lib.hasPrefix r [94])
   ·obtain ⟨rfl,rfl⟩:=HJ2.out.last hb;clear hb;have hn:=HQ2.out.1;obtain ⟨e0,e1,e2⟩:=QaT hn;have i0:=Qam hn 0;have i1:=Qam hn 1;have i2:=Qam hn 2;clear hn;by_cases hr:r=[]
    ·have hr':(r != [])=false:=by rw [hr];rfl
     have HS:Hid (QaG s=[]):=Za (by unfold QaG;rw [if_pos (HRR2.out.trans hr)]);have HO:Hid (QaW s=QaI root k []):=Za (by unfold QaW;rw [HS.out,HRR.out,HRN.out]);have HV:=Za (Qdp (.agg #[.bool root,.int .i64 k,.slice none 0 0]) root k [] wr (PathV.mk (StrsAt.nil _)) (by simp));subst hr;cases hv:QaI root k []
     all_goals
      rw [hv] at HO;rw [hv] at HV;clear hv;go_wp2_with fail;((with_reducible refine HV.out.mono ?_));rintro e w2 ⟨rfl,hb⟩;have HQ3:=Za (HQ2.out.below hb);clear hb HV HQ2 HQ d0 d1 d2 g1 g2 e0 e1 e2 i0 i1 i2;obtain ⟨d0,d1,d2⟩:=QaT HQ3.out.2.1;obtain ⟨e0,e1,e2⟩:=QaT HQ3.out.1;have i0:=Qam HQ3.out.1 0;have i1:=Qam HQ3.out.1 1;have i2:=Qam HQ3.out.1 2;go_wp2_with fail
     ·exact bodyPost_ret (QeI _ _ _ _ _ _ rfl (Qio HQ3.out.1 _ _ _)) rfl (QdY HO.out (Qip HQ3.out.2.2 Zc _ _ _))
     ·refine bodyPost_ret (QeI _ _ _ _ _ _ rfl (Qio HQ3.out.1 _ _ _)) rfl ?_;have:=Qft (v:=.slice none 0 0) HO.out (by rw [HS.out];exact Qlf _ _) (Qip HQ3.out.2.2 Zc (.bool root) (.int .i64 k) (.slice none 0 0));rw [HRR.out,HRN.out] at this;exact this
    ·have hr':r.isEmpty=false:=by simpa using hr
     have HL:Hid (QaE r=QaG s):=Za (by unfold QaG;rw [if_neg (fun e=>hr (HRR2.out.symm.trans e)),HRR2.out]);have HK:=Za (Qcs r);have HCn:=Za (Tryz.strings_Count_one ⟨r.toArray⟩ 46);go_wp2_with fail;((with_reducible refine (HCn.out _).mono ?_));rintro e w2 ⟨rfl,rfl⟩;rw [show Lib.countByte (ByteArray.mk r.toArray).data.toList 46=r.count 46 from rfl];by_cases hc:32<=r.count 46
     ·have HO:Hid (QaW s=false):=Za (by
       unfold QaW;apply QcD;apply Qcz;rw [<- HL.out,HK.out];have:=HRN.out;omega)
      have hc':(32:Int)<=((r.count 46:Nat):Int):=by omega
      go_wp2_with fail;exact bodyPost_ret (QeI _ _ _ _ _ _ rfl (Qio HQ2.out.1 _ _ _)) rfl (QdY HO.out (Qip HQ2.out.2.2 Zc _ _ _))
     ·have hc':¬ (32:Int)<=((r.count 46:Nat):Int):=by omega
      have HSp:=Za (Qnj r m _ (HQ2.out.cell HM.out) (by omega));go_wp2_with fail;((with_reducible refine HSp.out.mono ?_));rintro e w3 ⟨v,rfl,ho,hb⟩;have HZ:Hid (w.heap.size+1<w2.heap.size):=Za (lt_of_block HQ2.out.2.1);have HO:=Za ho;have HQ3:=Za (HQ2.out.below hb);have HQ4:=Za (HQ3.out.segs v);have HO4:=Za (Qdl ho ⟨w.heap.size+1,2,none⟩ v HZ.out);clear HO ho hb HSp d0 d1 d2 g1 g2 e0 e1 e2 i0 i1 i2 HQ2 HQ;obtain ⟨d0,d1,d2⟩:=QaT HQ3.out.2.1;have g2:=Qam HQ3.out.2.1 2;obtain ⟨a4,m4,c4,rfl⟩:=QoT HO4.out;obtain ⟨w4,hw4⟩:∃ x,w3.setCell ⟨w.heap.size+1,2,none⟩ (.slice a4 m4 c4)=x:=⟨_,rfl⟩;rw [hw4] at HQ4 HO4;go_upto_region 11 with fail;have HS4:Hid (StrsAt w4 (.slice a4 m4 c4) (QaE r)):=Za (StrsAt.of_own HO4.out (by have:=HK.out;have:=List.count_le_length (a:=(46:UInt8)) (l:=r);omega));have HX:Hid (∀ x∈QaE r,x.length<=9223372036854775000):=Za (fun x hx=>by have:=QiR r x hx;omega);have HV:=Za (Qdp (.agg #[.bool root,.int .i64 k,.slice a4 m4 c4]) root k (QaE r) w4 (PathV.mk HS4.out) HX.out);clear HQ3 d0 d1 d2 g2 hw4 HS4;obtain ⟨d0,d1,d2⟩:=QaT HQ4.out.2.1;have HO:Hid (QaW s=QaI root k (QaE r)):=Za (by unfold QaW;rw [HL.out,HRR.out,HRN.out]);cases hv:QaI root k (QaE r)
      all_goals
       rw [hv] at HO;rw [hv] at HV;clear hv;go_wp2_with fail;((with_reducible refine HV.out.mono ?_));rintro e w5 ⟨rfl,hb⟩;have HQ5:=Za (HQ4.out.below hb);have HO5:=Za (QbH HO4.out hb);clear hb HV HQ4 d0 d1 d2;obtain ⟨d0,d1,d2⟩:=QaT HQ5.out.2.1;obtain ⟨e0,e1,e2⟩:=QaT HQ5.out.1;have i0:=Qam HQ5.out.1 0;have i1:=Qam HQ5.out.1 1;have i2:=Qam HQ5.out.1 2;go_wp2_with fail
      ·exact bodyPost_ret (QeI _ _ _ _ _ _ rfl (Qio HQ5.out.1 _ _ _)) rfl (QdY HO.out (Qip HQ5.out.2.2 Zc _ _ _))
      ·refine bodyPost_ret (QeI _ _ _ _ _ _ rfl (Qio HQ5.out.1 _ _ _)) rfl ?_;have:=Qft (v:=.slice a4 m4 c4) HO.out (by rw [<- HL.out];exact Qfm (QlV HO5.out w.heap.size (.bool root) (.int .i64 k) (.slice a4 m4 c4) (by have:=HZ.out;omega)) (by have:=HZ.out;omega)) (Qip HQ5.out.2.2 Zc (.bool root) (.int .i64 k) (.slice a4 m4 c4));rw [HRR.out,HRN.out] at this;exact this
   ·obtain rfl:root=false:=by cases root with
     | false=>rfl
     | true=>cases hb
    obtain ⟨t,rfl⟩:=QgU r (by simpa using hb);have HJ3:=Za HJ2.out.step;clear hb HJ2;have hk':t.length+(k+1)<=4000000000:=by simp at hk;omega
    go_wp2_with fail;go_roundw
    case rel=>exact ⟨k+1,t,by simp,hk',HJ3,Za (by have:=HQ2.out.up ((k:Int)+1);exact_mod_cast this)⟩
    case measure=>show t.toArray.size<(94::t).toArray.size;simp
end Go.Proofs.YtoohondkpddmcaaGreatDoor
