/- Tla Mod Tlb Pv Nsv -/
import Derived.Test.YtoohondkpddmcaaGreatDoorUzz
import Derived.Test.YtoohondkpddmcaaGreatDoorUaa
import Derived.Laws.BitsAllLaws
import Derived.Laws.BitsLemmas
import Derived.IntWalk
import Derived.Test.YtoohondkpddmcaaGreatDoorUag
namespace Go.Proofs.YtoohondkpddmcaaGreatDoor
set_option maxHeartbeats 32000000
set_option linter.unusedVariables false
set_option linter.unusedSimpArgs false
section
open Go.RowKit
attribute [local go_sem] ByteArray.mk_append_mk Qac Qad Qae
def hexTab:List UInt8:=[48,49,50,51,52,53,54,55,56,57,65,66,67,68,69,70]
def QwT (d:Nat):UInt8:=hexTab.getD d 48
def QwU (v:Nat):List UInt8:=if h:v=0 then [] else QwU (v / 16)++[QwT (v % 16)]
termination_by v
decreasing_by omega
def Qum (v:Nat):List UInt8:=QwU (v / 16)++[QwT (v % 16)]
def Qxf (v:Nat):List UInt8:=if v<10 then Qum v else 48::120::Qum v
def Qxg (c:UInt8):List UInt8 :=
 if c=34\/c=92 then [92,c] else if 32<=c.toNat/\c.toNat<=126 then [c] else if c.toNat<16 then 92::120::48::Qum c.toNat else 92::120::Qum c.toNat
def Qxh (v:List UInt8) (k:Nat):List UInt8:=34::(v.take k).flatMap Qxg
def Qxi (v:List UInt8):List UInt8:=Qxh v v.length++[34]
end
section
open Go.RowKit
def Qij (v n:Int):Int:=(IntKind.u64.wrap v) % n
theorem QdC (v n:Int) (hn:0<n):0<=Qij v n:=Int.emod_nonneg _ (by omega)
theorem Qik (v n:Int) (hn:0<n):Qij v n<n:=Int.emod_lt_of_pos _ hn
theorem Qpa (v:Int):0<=IntKind.u64.wrap v:=by
 unfold IntKind.wrap;simp [IntKind.signed,IntKind.bits];exact Int.emod_nonneg _ (by decide)
theorem Qun (v n:Int) (hn:0<n) (hn2:n<=9223372036854775807):wrap64 ((IntKind.u64.wrap v).tmod n)=Qij v n:=by
 have h1:=QdC v n hn;have h2:=Qik v n hn;rw [Int.tmod_eq_emod_of_nonneg (Qpa v)];exact IntWalk.wrap64_in _ ⟨by unfold Qij at *;omega,by unfold Qij at *;omega⟩
theorem Qj0 (v n:Int) (w:World) (hn:0<n) (hn2:n<=9223372036854775807):Calls Tryz.prog 24 #[.int .i64 v,.int .i64 n] w fun e w'=>e = .returned (.int .i64 (Qij v n))/\w=w':=by
 have HM:=Za (Qun v n hn hn2);have hw1:IntKind.u64.wrap n=n:=IntWalk.u64_in _ (by omega);go_enter Tryz.func24,Tryz.ntmps24;go_wp2_with fail;go_ret;exact ⟨by rw [<- HM.out];rfl,rfl⟩
end
section
open Go.RowKit
attribute [local go_sem] ByteArray.mk_append_mk Qac Qad Qae
structure TokI where
 kind:Int
 num:Int
 str:List UInt8
 pos:Int
deriving DecidableEq
def TokI.val (t:TokI):Value:=QbB t.kind t.num t.str t.pos
def Tok.toI (t:Tok):TokI:=⟨t.kind,t.num,t.str,t.pos⟩
abbrev QsA (a b:Int) (c:List UInt8) (d:Int):Obj:=.cells #[.int .i64 a,.int .u64 b,.string ⟨c.toArray⟩,.int .i64 d] 34 (0,0)
def Ql3 (t:TokI):TokI:=if t.kind=1\/t.kind=2\/t.kind=4 then ⟨t.kind,0,t.str,0⟩ else if t.kind=3 then ⟨t.kind,t.num,[],0⟩ else ⟨t.kind,0,[],0⟩
end
section
open Go.RowKit
attribute [local go_sem] ByteArray.mk_append_mk Qac Qad Qae
def Qb4 (l:List UInt8):Value:=.string ⟨l.toArray⟩
def StrsAt (w:World) (v:Value) (l:List (List UInt8)):Prop :=
 ∃ (a:Option Addr) (cap:Nat),v = .slice a l.length cap/\l.length<=9223372036854775000/\((a=none->cap=0)/\l.length<=cap)/\(l≠[]->∃ b off,a=some ⟨b,off,none⟩/\∀ k (h:k<l.length),w.cell? ⟨b,off+k,none⟩=some (Qb4 l[k]))
theorem StrsAt.of_own {w:World} {B:Nat} {v:Value} {l:List (List UInt8)} (h:w.ownsRow B 9 1 v l.length (l.map Qb4)) (hl:l.length<=9223372036854775000):StrsAt w v l:=by
 obtain ⟨h1,h2⟩:=h;rcases h2 with ⟨hv,h0⟩|⟨g,cap,cur,hv,hb,hg,hn,hm,hs,ht⟩
 ·obtain rfl:l=[]:=List.eq_nil_of_length_eq_zero h0;exact ⟨none,0,hv,hl,⟨fun _=>rfl,by simp⟩,fun h=>absurd rfl h⟩
 ·refine ⟨_,cap,hv,hl,⟨(fun h=>by cases h),by omega⟩,fun _=>⟨g,0,rfl,fun k hk=>?_⟩⟩;rw [cell_of_row w g (0+k) cur 9 (0,0) hg];have h3:(l.map Qb4)[k]?=some (Qb4 l[k]):=by simp [hk]
  rw [<- ht,List.getElem?_take,if_pos (by omega)] at h3;simpa using h3
theorem StrsAt.below' {w w':World} {B:Nat} {v:Value} {l:List (List UInt8)} (h:StrsAt w v l) (hb:Below B w w') (hB:∀ a n c,v = .slice (some a) n c->l≠[]->a.block<B):StrsAt w' v l:=by
 obtain ⟨a,cap,hv,hl,hz,hc⟩:=h;refine ⟨a,cap,hv,hl,hz,fun hn=>?_⟩;obtain ⟨b,off,ha,hk⟩:=hc hn;refine ⟨b,off,ha,fun k h=>?_⟩;have:=hB ⟨b,off,none⟩ _ _ (by rw [hv,ha]) hn;rw [hb.cell (p:=⟨b,off+k,none⟩) this];exact hk k h
theorem StrsAt.lt {w:World} {v:Value} {l:List (List UInt8)} (h:StrsAt w v l):∀ a n c,v = .slice (some a) n c->l≠[]->a.block<w.heap.size:=by
 intro a n c hv hn;obtain ⟨a',cap,hv',hl,_,hc⟩:=h;obtain ⟨b,off,ha,hk⟩:=hc hn;rw [hv',ha] at hv;cases hv;have hp:0<l.length:=List.length_pos_iff.2 hn;exact World.block_lt_of_cell? w ⟨b,off+0,none⟩ (hk 0 hp)
theorem StrsAt.below {w w':World} {v:Value} {l:List (List UInt8)} (h:StrsAt w v l) (hb:Below w.heap.size w w'):StrsAt w' v l:=h.below' hb h.lt
theorem StrsAt.nil (w:World):StrsAt w (.slice none 0 0) []:=⟨none,0,rfl,by simp,⟨fun _=>rfl,by simp⟩,fun h=>absurd rfl h⟩
theorem StrsAt.front {w:World} {a:Option Addr} {n cap:Nat} {l:List (List UInt8)} (h:StrsAt w (.slice a n cap) l) (m:Nat) (hm:m<=l.length):StrsAt w (.slice a m cap) (l.take m):=by
 obtain ⟨a',cap',hv,hl,hz,hc⟩:=h;injection hv with h1 h2 h3;subst h1 h3;have hlen:(l.take m).length=m:=by rw [List.length_take];omega
 refine ⟨a,cap,by rw [hlen],by rw [hlen];omega,⟨hz.1,by rw [hlen];omega⟩,fun hn=>?_⟩;have hne:l≠[]:=by rintro rfl;simp at hn
 obtain ⟨b,off,ha,hk⟩:=hc hne;refine ⟨b,off,ha,fun k hk'=>?_⟩;rw [hk k (by rw [hlen] at hk';omega),List.getElem_take]
theorem StrsAt.form {w:World} {v:Value} {l:List (List UInt8)} (h:StrsAt w v l):∃ a c,v = .slice a l.length c/\l.length<=c:=by
 obtain ⟨a,c,hv,_,hz,_⟩:=h;exact ⟨a,c,hv,hz.2⟩
def PathV (w:World) (p:Value) (root:Bool) (up:Int) (l:List (List UInt8)):Prop:=∃ v,p = .agg #[.bool root,.int .i64 up,v]/\StrsAt w v l
theorem PathV.mk {w:World} {v:Value} {root:Bool} {up:Int} {l:List (List UInt8)} (h:StrsAt w v l):PathV w (.agg #[.bool root,.int .i64 up,v]) root up l:=⟨_,rfl,h⟩
theorem PathV.below {w w':World} {p:Value} {root:Bool} {up:Int} {l:List (List UInt8)} (h:PathV w p root up l) (hb:Below w.heap.size w w'):PathV w' p root up l:=by
 obtain ⟨v,rfl,hs⟩:=h;exact ⟨v,rfl,hs.below hb⟩
abbrev QjR (root:Bool) (up:Int) (v:Value):Obj:=.cells #[.bool root,.int .i64 up,v] 128 (0,0)
def BoxAt (w wr:World) (root:Bool) (up:Int) (v:Value) (l:List (List UInt8)):Prop :=
 wr.heap[w.heap.size]?=some (QjR root up v)/\StrsAt wr v l/\Below w.heap.size w wr
theorem BoxAt.start {w:World} {root:Bool} {up:Int} {v:Value} {l:List (List UInt8)} (h:StrsAt w v l):BoxAt w (w.alloc (.cells #[.bool root,.int .i64 up,v] 128)) root up v l :=
 ⟨heap_alloc_new w _,h.below (Zb.alloc Zc _),Zb.alloc Zc _⟩
theorem BoxAt.below {w wr w2:World} {root:Bool} {up:Int} {v:Value} {l:List (List UInt8)} (h:BoxAt w wr root up v l) (hb:Below wr.heap.size wr w2):BoxAt w w2 root up v l :=
 ⟨Qab h.1 hb,h.2.1.below hb,Qah h.2.2 Zc hb⟩
theorem BoxAt.drewN {w wr:World} {root:Bool} {up:Int} {v:Value} {l:List (List UInt8)} (h:BoxAt w wr root up v l) (n:Nat):BoxAt w (wr.drewN n) root up v l :=
 h.below (below_drewN Zb n)
theorem BoxAt.cells {w wr:World} {root:Bool} {up:Int} {v:Value} {l:List (List UInt8)} (h:BoxAt w wr root up v l):wr.cell? ⟨w.heap.size,0,none⟩=some (.bool root)/\wr.cell? ⟨w.heap.size,1,none⟩=some (.int .i64 up)/\wr.cell? ⟨w.heap.size,2,none⟩=some v:=Qa4 h.1
theorem BoxAt.pathV {w wr:World} {root:Bool} {up:Int} {v:Value} {l:List (List UInt8)} (h:BoxAt w wr root up v l):PathV wr (.agg #[.bool root,.int .i64 up,v]) root up l:=⟨v,rfl,h.2.1⟩
end
section
open Go.RowKit
attribute [local go_sem] ByteArray.mk_append_mk Qac Qad Qae
def Qpb (c:UInt8):Bool:=decide ((65<=c.toNat/\c.toNat<=90)\/c.toNat=95)
def Qkj (c:UInt8):Bool:=decide ((65<=c.toNat/\c.toNat<=90)\/c.toNat=95\/(48<=c.toNat/\c.toNat<=57))
theorem QnI (c:UInt8) (r:List UInt8):Qa2 (c::r)=(decide (r.length<=3)&&Qpb c&&r.all Qkj):=by
 have e1:∀ x:UInt8,(idB x&&!Qbz x)=Qkj x:=by
  intro x;unfold idB QaK Qba Qbz Qkj;rw [Bool.eq_iff_iff];simp only [Bool.and_eq_true,Bool.or_eq_true,decide_eq_true_eq,Bool.not_eq_true',decide_eq_false_iff_not];omega
 have e2:∀ x:UInt8,(QaK x&&(idB x&&!Qbz x))=Qpb x:=by
  intro x;unfold idB QaK Qba Qbz Qpb;rw [Bool.eq_iff_iff];simp only [Bool.and_eq_true,Bool.or_eq_true,decide_eq_true_eq,Bool.not_eq_true',decide_eq_false_iff_not];omega
 have e3:∀ l:List UInt8,(l.all idB&&!Qch l)=l.all Qkj:=by
  intro l;induction l with
  | nil=>rfl
  | cons x t ih =>
    unfold Qch at ih |-;rw [List.all_cons,List.any_cons,List.all_cons,<- ih,<- e1];cases idB x<;>cases Qbz x<;>cases t.all idB<;>cases t.any Qbz<;>rfl
 rw [Qa2];have h:=e3 r;unfold Qch at h |-;rw [List.all_cons,List.any_cons,<- h,<- e2 c];cases idB c<;>cases Qbz c<;>cases QaK c<;>cases r.all idB<;>cases r.any Qbz<;>simp
def QjS (c k:Nat):Prop:=(65<=c/\c<=90)\/c=95\/((48<=c/\c<=57)/\0<k)
theorem QnJ (s:List UInt8) (h1:1<=s.length) (h4:s.length<=4) (h:∀ k (hk:k<s.length),QjS s[k].toNat k):Qa2 s=true:=by
 match s,h1 with
 | c::r,_ =>
   rw [List.length_cons] at h4;have h0:=h 0 (by simp);unfold QjS at h0;simp only [List.getElem_cons_zero] at h0;rw [QnI,decide_eq_true (by omega),show Qpb c=true by unfold Qpb;rw [decide_eq_true_eq];omega];simp only [Bool.true_and,List.all_eq_true];intro x hx;obtain ⟨i,hi,rfl⟩:=List.mem_iff_getElem.1 hx;have h2:=h (i+1) (by simp;omega);unfold QjS at h2;simp only [List.getElem_cons_succ] at h2;unfold Qkj;rw [decide_eq_true_eq];omega
theorem QsB (s:List UInt8) (k:Nat) (hk:k<s.length) (h:¬ QjS s[k].toNat k):Qa2 s=false:=by
 match s,hk with
 | c::r,hk =>
   rw [QnI];unfold QjS at h
   match k,hk with
   | 0,_ =>
     simp only [List.getElem_cons_zero] at h;rw [show Qpb c=false by unfold Qpb;rw [decide_eq_false_iff_not];omega];simp
   | k+1,hk =>
     simp only [List.getElem_cons_succ] at h;have:r.all Qkj=false:=by
      rw [List.all_eq_false];refine ⟨r[k]'(by simpa using hk),List.getElem_mem _,?_⟩;unfold Qkj;rw [decide_eq_true_eq];omega
     rw [this];simp
theorem Qil (s:List UInt8) (h:s.length<1\/4<s.length):Qa2 s=false:=by
 match s with
 | []=>rfl
 | c::r=>rw [List.length_cons] at h;exact QlU (by omega)
theorem QbG {s:List UInt8} (h:Qa2 s=true):1<=s.length/\s.length<=4:=by
 by_cases h1:s.length<1\/4<s.length
 ·rw [Qil s h1] at h;cases h
 ·omega
theorem QlI (s:List UInt8) (w:World) (hs:s.length<=9223372036854775000) :
  Calls Tryz.prog 228 #[.string ⟨s.toArray⟩] w fun e w'=>e = .returned (.bool (Qa2 s))/\w=w':=by
 by_cases h1:s.length<1
 ·have HR:=Za (Qil s (.inl h1));have h1':(s.length:Int)<1:=by omega
  go_enter Tryz.func228,Tryz.ntmps228;go_wp2_with fail;go_ret;exact ⟨by rw [HR.out];rfl,rfl⟩
 ·have h1':¬ (s.length:Int)<1:=by omega
  by_cases h4:4<s.length
  ·have HR:=Za (Qil s (.inr h4));have h4':(4:Int)<s.length:=by omega
   go_enter Tryz.func228,Tryz.ntmps228;go_wp2_with fail;go_ret;exact ⟨by rw [HR.out];rfl,rfl⟩
  ·have h4':¬ (4:Int)<s.length:=by omega
   go_enter Tryz.func228,Tryz.ntmps228;go_wp2_with fail;go_loop [16] (fun i=>∃ k:Nat,i = .int .i64 k/\k<=s.length/\Hid (∀ j (hj:j<s.length),j<k->QjS s[j].toNat j)) (fun i=>s.length-(intOf i).toNat)
   case atStart=>exact ⟨0,rfl,Nat.zero_le _,Za (fun j _ h=>absurd h (by omega))⟩
   case round =>
    obtain ⟨k,rfl,hk,HO⟩:=hrel;by_cases hl:k<s.length
    ·have HN:Hid (¬ QjS s[k].toNat k->Qa2 s=false):=Za (QsB s k hl);have HY:Hid (QjS s[k].toNat k->∀ j (hj:j<s.length),j<k+1->QjS s[j].toNat j):=Za (fun h j hj hlt=>by
      rcases Nat.lt_or_ge j k with h0|h0
      ·exact HO.out j hj h0
      ·obtain rfl:j=k:=by omega
       exact h)
     clear HO;have hc:=s[k].toNat_lt;unfold QjS at HN;generalize hcc:s[k].toNat=c at *;have hgi:s[k]?=some s[k]:=List.getElem?_eq_getElem hl;have HCC:=Za hcc;by_cases hk0:0<k
     ·have hk0':(0:Int)<k:=by omega
      go_wp2_with fail
      all_goals first
       | (go_ret
          exact ⟨by rw [HN.out (by omega)];rfl,rfl⟩)
       | (go_round
          case measure=>simp [intOf];omega
          case rel =>
           first
            | exact ⟨k+1,by go_num,by omega,Za (HY.out (by unfold QjS;omega))⟩
            | (exfalso;simp_all;done)
            | (exfalso;simp_all;omega))
     ·have hk0':¬ (0:Int)<k:=by omega
      go_wp2_with fail
      all_goals first
       | (go_ret
          exact ⟨by rw [HN.out (by omega)];rfl,rfl⟩)
       | (go_round
          case measure=>simp [intOf];omega
          case rel =>
           first
            | exact ⟨k+1,by go_num,by omega,Za (HY.out (by unfold QjS;omega))⟩
            | (exfalso;simp_all;done)
            | (exfalso;simp_all;omega))
    ·have HR:Hid (Qa2 s=true):=Za (QnJ s (by omega) (by omega) (fun j hj=>HO.out j hj (by omega)));go_wp2_with fail;go_ret;exact ⟨by rw [HR.out];rfl,rfl⟩
theorem Qim (s:List UInt8) (b:Bool) (H:Hid (Qa2 s=b)) (w:World) (hs:s.length<=9223372036854775000) :
  Calls Tryz.prog 228 #[.string ⟨s.toArray⟩] w fun e w'=>e = .returned (.bool b)/\w=w' :=
 (QlI s w hs).mono fun _ _ ⟨he,hw⟩=>⟨by rw [he,H.out],hw⟩
def QfU (root:Bool) (up:Int) (n:Nat):Bool:=decide (0<=up/\up<=32/\(root=true->up=0)/\(n:Int)<=32-up/\(root=true\/0<up\/0<n))
def QaD (root:Bool) (up:Int) (l:List (List UInt8)):Bool:=QfU root up l.length&&l.all Qa2
theorem QcN {root:Bool} {up:Int} {l:List (List UInt8)} (h:QfU root up l.length=false):QaD root up l=false:=by unfold QaD;rw [h];rfl
theorem Qkk {root:Bool} {up:Int} {l:List (List UInt8)} (k:Nat) (hk:k<l.length) (h:Qa2 l[k]=false):QaD root up l=false:=by
 unfold QaD;have:l.all Qa2=false:=by rw [List.all_eq_false];exact ⟨l[k],List.getElem_mem hk,by rw [h];decide⟩
 rw [this,Bool.and_false]
theorem QfV {root:Bool} {up:Int} {l:List (List UInt8)} (h:QfU root up l.length=true) (h2:∀ k (hk:k<l.length),Qa2 l[k]=true):QaD root up l=true:=by
 unfold QaD;rw [h,Bool.true_and,List.all_eq_true];intro x hx;obtain ⟨i,hi,rfl⟩:=List.mem_iff_getElem.1 hx;exact h2 i hi
theorem QcJ {root:Bool} {up:Int} {n:Nat} (h:up<0\/32<up\/(root=true/\¬ up=0)\/32-up<n\/(root=false/\up<=0/\n=0)):QfU root up n=false:=by
 unfold QfU;rw [decide_eq_false_iff_not];rintro ⟨a,b,c,d,e⟩;rcases h with h|h|⟨h1,h2⟩|h|⟨h1,h2,h3⟩
 ·omega
 ·omega
 ·exact h2 (c h1)
 ·omega
 ·rcases e with e|e|e
  ·rw [h1] at e;cases e
  ·omega
  ·omega
theorem Qfg {root:Bool} {up:Int} {n:Nat} (h:0<=up/\up<=32/\(root=true->up=0)/\(n:Int)<=32-up/\(root=true\/0<up\/0<n)):QfU root up n=true:=by unfold QfU;exact decide_eq_true h
theorem Qj1 {w:World} {a:Option Addr} {n cap:Nat} {l:List (List UInt8)} (h:StrsAt w (.slice a n cap) l) (k:Nat) (hk:k<l.length):∃ b off,a=some ⟨b,off,none⟩/\w.cell? ⟨b,off+k,none⟩=some (.string ⟨l[k].toArray⟩):=by
 obtain ⟨a',cap',he,_,_,hc⟩:=h;cases he;have hne:l≠[]:=by rintro rfl;simp at hk
 obtain ⟨b,off,rfl,hcc⟩:=hc hne;exact ⟨b,off,rfl,hcc k hk⟩
theorem Qhy (p:Value) (root:Bool) (up:Int) (l:List (List UInt8)) (w:World) (hp:PathV w p root up l) (hx:∀ x∈l,x.length<=9223372036854775000) :
  Calls Tryz.prog 134 #[p] w fun e w'=>e = .returned (.bool (QaD root up l))/\Below w.heap.size w w':=by
 obtain ⟨v,rfl,hs⟩:=hp;have HB:Hid (BoxAt w (w.alloc (.cells #[.bool root,.int .i64 up,v] 128)) root up v l):=Za (BoxAt.start hs);obtain ⟨a,cap,rfl,hl,_⟩:=hs;have HX:=Za hx;clear hx;obtain ⟨p0,p1,p2⟩:=Qa4 HB.out.1;go_enter Tryz.func134,Tryz.ntmps134;go_upto_region 1 with fail;go_cut [45] (fun z wx=>z = .bool (!QfU root up l.length)/\w.alloc (.cells #[.bool root,.int .i64 up,.slice a l.length cap] 128)=wx)
 case first =>
  by_cases c1:up<0
  ·have HP:=Za (QcJ (root:=root) (up:=up) (n:=l.length) (.inl c1));go_wp2_with fail;go_meet;exact ⟨by rw [HP.out];rfl,rfl⟩
  ·by_cases c2:32<up
   ·have HP:=Za (QcJ (root:=root) (up:=up) (n:=l.length) (.inr (.inl c2)));go_wp2_with fail;go_meet;exact ⟨by rw [HP.out];rfl,rfl⟩
   ·cases root
    ·by_cases c4:32-up<l.length
     ·have HP:=Za (QcJ (root:=false) (up:=up) (n:=l.length) (.inr (.inr (.inr (.inl c4)))));go_wp2_with fail;go_meet;exact ⟨by rw [HP.out];rfl,rfl⟩
     ·by_cases c5:up=0
      ·have c5':(up==0)=true:=by rw [beq_iff_eq];exact c5
       by_cases c6:l.length=0
       ·have HP:=Za (QcJ (root:=false) (up:=up) (n:=l.length) (.inr (.inr (.inr (.inr ⟨rfl,by omega,c6⟩)))));have c6':((l.length:Int)==0)=true:=by rw [beq_iff_eq];omega
        clear c5 c6;go_wp2_with fail;go_meet;exact ⟨by rw [HP.out];rfl,rfl⟩
       ·have HP:=Za (Qfg (root:=false) (up:=up) (n:=l.length) ⟨by omega,by omega,(fun h=>by cases h),by omega,.inr (.inr (by omega))⟩);have c6':((l.length:Int)==0)=false:=by rw [beq_eq_false_iff_ne];omega
        clear c5 c6;go_wp2_with fail;go_meet;exact ⟨by rw [HP.out];rfl,rfl⟩
      ·have c5':(up==0)=false:=by rw [beq_eq_false_iff_ne];exact c5
       have HP:=Za (Qfg (root:=false) (up:=up) (n:=l.length) ⟨by omega,by omega,(fun h=>by cases h),by omega,.inr (.inl (by omega))⟩);clear c5;go_wp2_with fail;go_meet;exact ⟨by rw [HP.out];rfl,rfl⟩
    ·by_cases c3:0<up
     ·have HP:=Za (QcJ (root:=true) (up:=up) (n:=l.length) (.inr (.inr (.inl ⟨rfl,by omega⟩))));go_wp2_with fail;go_meet;exact ⟨by rw [HP.out];rfl,rfl⟩
     ·by_cases c4:32-up<l.length
      ·have HP:=Za (QcJ (root:=true) (up:=up) (n:=l.length) (.inr (.inr (.inr (.inl c4)))));go_wp2_with fail;go_meet;exact ⟨by rw [HP.out];rfl,rfl⟩
      ·have HP:=Za (Qfg (root:=true) (up:=up) (n:=l.length) ⟨by omega,by omega,(fun _=>by omega),by omega,.inl rfl⟩);go_wp2_with fail;go_meet;exact ⟨by rw [HP.out];rfl,rfl⟩
 case rest =>
  obtain ⟨rfl,rfl⟩:=hcut;by_cases hpre:QfU root up l.length=true
  ·have HPR:=Za hpre;rw [show (!QfU root up l.length)=false by rw [hpre];rfl];clear hpre;go_wp2_with fail;go_loop [3] (fun i=>∃ k:Nat,i = .int .i64 k/\k<=l.length/\Hid (∀ j (hj:j<l.length),j<k->Qa2 l[j]=true)) (fun i=>l.length-(intOf i).toNat)
   case atStart=>exact ⟨0,rfl,Nat.zero_le _,Za (fun j _ h=>absurd h (by omega))⟩
   case round =>
    obtain ⟨k,rfl,hk,HO⟩:=hrel;by_cases hlt:k<l.length
    ·obtain ⟨b,off,rfl,hcell⟩:=Qj1 HB.out.2.1 k hlt;have hxl:=HX.out _ (List.getElem_mem hlt);have hlt':(k:Int)<l.length:=by omega
     by_cases hsg:Qa2 l[k]=true
     ·have HO2:Hid (∀ j (hj:j<l.length),j<k+1->Qa2 l[j]=true):=Za (fun j hj h=>by
       rcases Nat.lt_or_ge j k with h0|h0
       ·exact HO.out j hj h0
       ·obtain rfl:j=k:=by omega
        exact hsg)
      have HSG:=Za hsg;clear hsg;generalize l[k]=x at *;go_wp2_with fail;((with_reducible refine (Qdy x true HSG _ hxl).mono ?_));rintro e w' ⟨rfl,rfl⟩;go_wp2_with fail;go_round
      case rel=>first|exact ⟨k+1,by go_num,by omega,HO2⟩|((repeat apply Exists.intro);exact ⟨⟨k+1,by go_num,by omega,HO2⟩,rfl⟩)
      case measure=>simp [intOf];omega
     ·have HR:Hid (QaD root up l=false):=Za (Qkk k hlt (by simpa using hsg));have HSG:Hid (Qa2 l[k]=false):=Za (by simpa using hsg);clear hsg;generalize l[k]=x at *;go_wp2_with fail;((with_reducible refine (Qdy x false HSG _ hxl).mono ?_));rintro e w' ⟨rfl,rfl⟩;go_wp2_with fail;go_ret;exact ⟨by rw [HR.out];rfl,HB.out.2.2⟩
    ·have hlt':¬ (k:Int)<l.length:=by omega
     have HR:Hid (QaD root up l=true):=Za (QfV HPR.out (fun j hj=>HO.out j hj (by omega)));go_wp2_with fail;go_ret;exact ⟨by rw [HR.out];rfl,HB.out.2.2⟩
  ·have hpre':QfU root up l.length=false:=by simpa using hpre
   have HR:=Za (QcN hpre');rw [show (!QfU root up l.length)=true by rw [hpre'];rfl];clear hpre hpre';go_wp2_with fail;go_ret;exact ⟨by rw [HR.out];rfl,HB.out.2.2⟩
theorem QdD (p:Value) (root:Bool) (up:Int) (l:List (List UInt8)) (w:World) (hp:PathV w p root up l) (hx:∀ x∈l,x.length<=9223372036854775000) :
  Calls Tryz.prog 187 #[p] w fun e w'=>e = .returned (.bool (QaD root up l))/\Below w.heap.size w w':=by
 obtain ⟨v,rfl,hs⟩:=hp;have HB:Hid (BoxAt w (w.alloc (.cells #[.bool root,.int .i64 up,v] 128)) root up v l):=Za (BoxAt.start hs);obtain ⟨a,cap,rfl,hl,_⟩:=hs;have HX:=Za hx;clear hx;obtain ⟨p0,p1,p2⟩:=Qa4 HB.out.1;by_cases c1:up<0
 ·have HR:=Za (QcN (l:=l) (QcJ (root:=root) (up:=up) (n:=l.length) (.inl c1)));go_enter Tryz.func187,Tryz.ntmps187;go_wp2_with fail;go_ret;exact ⟨by rw [HR.out];rfl,HB.out.2.2⟩
 ·by_cases c2:root=true/\¬ up=0
  ·obtain ⟨rfl,c2⟩:=c2;have HR:=Za (QcN (l:=l) (QcJ (root:=true) (up:=up) (n:=l.length) (.inr (.inr (.inl ⟨rfl,c2⟩)))));have c2':(up != 0)=true:=by rw [bne_iff_ne];exact c2
   clear c2;go_enter Tryz.func187,Tryz.ntmps187;go_wp2_with fail;go_ret;exact ⟨by rw [HR.out];rfl,HB.out.2.2⟩
  ·go_enter Tryz.func187,Tryz.ntmps187;go_upto_region 1 with fail;go_cut [16] (fun z wx=>z = .bool false/\w.alloc (.cells #[.bool root,.int .i64 up,.slice a l.length cap] 128)=wx)
   case first =>
    cases root
    ·go_wp2_with fail;go_meet;exact ⟨rfl,rfl⟩
    ·have c2':(up != 0)=false:=by
      rw [bne_eq_false_iff_eq];exact Classical.byContradiction fun h=>c2 ⟨rfl,h⟩
     clear c2;go_wp2_with fail;go_meet;exact ⟨rfl,rfl⟩
   case rest =>
    obtain ⟨rfl,rfl⟩:=hcut;have HC2:=Za c2;clear c2;by_cases c3:32<up
    ·have HR:=Za (QcN (l:=l) (QcJ (root:=root) (up:=up) (n:=l.length) (.inr (.inl c3))));go_wp2_with fail;go_ret;exact ⟨by rw [HR.out];rfl,HB.out.2.2⟩
    ·by_cases c4:32-up<l.length
     ·have HR:=Za (QcN (l:=l) (QcJ (root:=root) (up:=up) (n:=l.length) (.inr (.inr (.inr (.inl c4))))));go_wp2_with fail;go_ret;exact ⟨by rw [HR.out];rfl,HB.out.2.2⟩
     ·go_wp2_with fail;go_loop [32] (fun i=>∃ k:Nat,i = .int .i64 k/\k<=l.length/\Hid (∀ j (hj:j<l.length),j<k->Qa2 l[j]=true)) (fun i=>l.length-(intOf i).toNat)
      case atStart=>exact ⟨0,rfl,Nat.zero_le _,Za (fun j _ h=>absurd h (by omega))⟩
      case round =>
       obtain ⟨k,rfl,hk,HO⟩:=hrel;by_cases hlt:k<l.length
       ·obtain ⟨b,off,rfl,hcell⟩:=Qj1 HB.out.2.1 k hlt;have hxl:=HX.out _ (List.getElem_mem hlt);have hlt':(k:Int)<l.length:=by omega
        by_cases hsg:Qa2 l[k]=true
        ·have HO2:Hid (∀ j (hj:j<l.length),j<k+1->Qa2 l[j]=true):=Za (fun j hj h=>by
          rcases Nat.lt_or_ge j k with h0|h0
          ·exact HO.out j hj h0
          ·obtain rfl:j=k:=by omega
           exact hsg)
         have HSG:=Za hsg;clear hsg;generalize l[k]=x at *;go_wp2_with fail;((with_reducible refine (Qim x true HSG _ hxl).mono ?_));rintro e w' ⟨rfl,rfl⟩;go_wp2_with fail;go_round
         case rel=>first|exact ⟨k+1,by go_num,by omega,HO2⟩|((repeat apply Exists.intro);exact ⟨⟨k+1,by go_num,by omega,HO2⟩,rfl⟩)
         case measure=>simp [intOf];omega
        ·have HR:Hid (QaD root up l=false):=Za (Qkk k hlt (by simpa using hsg));have HSG:Hid (Qa2 l[k]=false):=Za (by simpa using hsg);clear hsg;generalize l[k]=x at *;go_wp2_with fail;((with_reducible refine (Qim x false HSG _ hxl).mono ?_));rintro e w' ⟨rfl,rfl⟩;go_wp2_with fail;go_ret;exact ⟨by rw [HR.out];rfl,HB.out.2.2⟩
       ·have hlt':¬ (k:Int)<l.length:=by omega
        have HA:Hid (∀ j (hj:j<l.length),Qa2 l[j]=true):=Za (fun j hj=>HO.out j hj (by omega));clear HO;cases root
        ·by_cases c5:0<up
         ·have HR:Hid (QaD false up l=true):=Za (QfV (Qfg ⟨by omega,by omega,(fun h=>by cases h),by omega,.inr (.inl c5)⟩) HA.out);go_wp2_with fail;go_ret;exact ⟨by rw [HR.out];rfl,HB.out.2.2⟩
         ·by_cases c6:0<l.length
          ·have HR:Hid (QaD false up l=true):=Za (QfV (Qfg ⟨by omega,by omega,(fun h=>by cases h),by omega,.inr (.inr c6)⟩) HA.out);have c6':(0:Int)<l.length:=by omega
           go_wp2_with fail;go_ret;exact ⟨by rw [HR.out];rfl,HB.out.2.2⟩
          ·have HR:Hid (QaD false up l=false):=Za (QcN (QcJ (.inr (.inr (.inr (.inr ⟨rfl,by omega,by omega⟩))))));have c6':¬ (0:Int)<l.length:=by omega
           go_wp2_with fail;go_ret;exact ⟨by rw [HR.out];rfl,HB.out.2.2⟩
        ·have HR:Hid (QaD true up l=true):=Za (QfV (Qfg ⟨by omega,by omega,(fun _=>Classical.byContradiction fun h=>HC2.out ⟨rfl,h⟩),by omega,.inl rfl⟩) HA.out);go_wp2_with fail;go_ret;exact ⟨by rw [HR.out];rfl,HB.out.2.2⟩
end
end Go.Proofs.YtoohondkpddmcaaGreatDoor
