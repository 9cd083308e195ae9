/- Tkr Tks Tkt Tla Mod Tlb Pv -/
import Derived.Test.YtoohondkpddmcaaGreatDoorYzz
import Derived.Test.YtoohondkpddmcaaGreatDoorYag
import Derived.Test.YtoohondkpddmcaaGreatDoorYaa
import Derived.Laws.BitsAllLaws
import Derived.Laws.BitsLemmas
import Derived.IntWalk
namespace Go.Proofs.YtoohondkpddmcaaGreatDoor
set_option maxHeartbeats 32000000
set_option linter.unusedVariables false
set_option linter.unusedSimpArgs false
section
open Go.RowKit
attribute [local go_sem] ByteArray.mk_append_mk Qah Qai Qag
theorem Toks.alloc {w:World} {B:Nat} {v:Value} {l:List Tok} (h:Toks w B v l) (o:Obj):Toks (w.alloc o) B v l:=h.below (Zb.alloc Zc o)
theorem Qsy (w:World) (o o':Obj):((w.alloc o).alloc o').heap[w.heap.size+1]?=some o':=by
 have:=heap_alloc_new (w.alloc o) o';simpa using this
theorem Qgh {B:Nat} {w w2:World} (h:Below B w w2) (o o':Obj) (hB:B<=w.heap.size):Below B w ((w2.alloc o).alloc o'):=by
 have h1:=h.alloc (Nat.le_trans hB h.size) o;exact h1.alloc (Nat.le_trans hB h1.size) o'
def QlS (w:World) (x:List Tok×Nat×Nat) (e:Ending) (w':World):Prop :=
 ∃ v,e = .returned (.tuple #[v,.int .i64 x.2.1,.int .i64 x.2.2])/\Toks w' w.heap.size v x.1/\Below w.heap.size w w'
set_option maxRecDepth 100000 in
theorem Qpl (s:List UInt8) (w:World) (hs:s.length<=4611686018427380000) :
  Calls Tryz.prog 97 #[.string ⟨s.toArray⟩] w (QlS w (Qeg s)):=by
 by_cases hl:(65536:Int)<(s.length:Int)
 ·rw [Qne (by omega)];go_enter Tryz.func97,Tryz.ntmps97;go_wp2_with fail;go_ret3;exact ⟨_,rfl,Toks.nil _ _,Zb⟩
 ·rw [QqP (by omega)];have hl2:s.length<=65536:=by omega
  obtain ⟨X,hX⟩:∃ X,Hid (Qei s 0 []=X):=⟨_,Za rfl⟩;rw [hX.out];go_enter Tryz.func97,Tryz.ntmps97;go_wp2_with fail;go_loopw [6,5] (fun i v wr=>∃ (p:Nat) (l:List Tok),i = .int .i64 p/\p<=s.length/\l.length<=p/\Hid (X=Qei s p l)/\Hid (Toks wr w.heap.size v l)/\Hid (Below w.heap.size w wr)) (fun i _ _=>s.length-(intOf i).toNat)
  case atStart=>exact ⟨0,[],rfl,by omega,by simp,Za hX.out.symm,Za (Toks.nil _ _),Za Zb⟩
  case round =>
   obtain ⟨p,l,rfl,hp,hlp,HX,HO,HB⟩:=hrel;obtain ⟨av,cv,hv⟩:=HO.out.form;subst hv;obtain ⟨w1,rfl⟩:∃ x:World,x=wr:=⟨_,rfl⟩;have HS:=Za (Qpg s p w1 (by omega) hp);obtain ⟨q,hq1,hq2,e1,e2⟩:=Qe4 s p hp;unfold Qe2 at HS;rw [e2] at HS;obtain ⟨b,hb⟩:∃ b,Hid ((QaQ (s.drop p)).2=b):=⟨_,Za rfl⟩;rw [hb.out] at HS;have E1:=Za e1;have E2:=Za e2;clear e1 e2;cases b
   ·have HX2:Hid (X=([],q,2)):=Za (by rw [HX.out];exact Qnb E2.out hb.out);clear HX;go_wp2_with fail;((with_reducible refine HS.out.mono ?_));rintro e w2 ⟨rfl,rfl⟩;go_wp2_with fail;go_ret3;exact ⟨_,by rw [HX2.out];rfl,by rw [HX2.out];exact Toks.nil _ _,HB.out⟩
   ·by_cases hql:q=s.length
    ·have hqb:((q:Int)==(s.length:Int))=true:=by rw [beq_iff_eq];omega
     have HX2:Hid (X=(l,0,0)):=Za (by rw [HX.out];exact Qnc hb.out (by rw [E1.out];exact List.drop_eq_nil_of_le (by omega)));clear hql HX;go_wp2_with fail;((with_reducible refine HS.out.mono ?_));rintro e w2 ⟨rfl,rfl⟩;go_wp2_with fail;go_ret3;exact ⟨_,by rw [HX2.out];rfl,by rw [HX2.out];exact HO.out,HB.out⟩
    ·have hqb:((q:Int)==(s.length:Int))=false:=by rw [beq_eq_false_iff_ne];omega
     have hqlt:q<s.length:=by omega
     have HI:=Za (fun w=>Qph s q w (by omega) hqlt);obtain ⟨o,ho⟩:∃ o,Hid (Qcr (s.drop q)=o):=⟨_,Za rfl⟩;rw [ho.out] at HI;clear hql;go_wp2_with fail;((with_reducible refine HS.out.mono ?_));rintro e w2 ⟨rfl,rfl⟩;go_wp2_with fail;((with_reducible refine (HI.out _).mono ?_));rintro e w2 ⟨⟨a,b,d,n,c,rfl,HE0,HE⟩,hb2⟩;have HO2:=Za (HO.out.below hb2);have HB2:=Za (Qar HB.out Zc hb2);clear hb2 HS HI;unfold Qbz;cases o with
     | none =>
       have HX2:Hid (X=([],q,2)):=Za (by rw [HX.out];exact Qpk E2.out hb.out E1.out hqlt ho.out);obtain rfl:=HE0 rfl;clear HX HE ho HE0;go_wp2_with fail;go_ret3;refine ⟨_,by rw [HX2.out];rfl,by rw [HX2.out];exact Toks.nil _ _,?_⟩;exact HB2.out.alloc HB2.out.size _
     | some x =>
       obtain ⟨k,v,t,nn⟩:=x;obtain ⟨rfl,rfl,rfl,rfl,rfl⟩:=HE _ rfl;have hn:1<=nn/\nn<=(s.drop q).length:=Qfr ho.out;rw [List.length_drop] at hn;have HX2:Hid (X=Qei s (q+nn) (l++[⟨k,v,c,q⟩])):=Za (by rw [HX.out];exact Qnd hq1 E2.out hb.out E1.out hqlt ho.out);clear HX HE ho HE0;simp only [];obtain ⟨z,hz⟩:∃ z,q+nn=z:=⟨_,rfl⟩;rw [hz] at HX2 |-;go_wp2_with (at_builtin;refine QgQ rfl _ _ rfl w.heap.size _ l rfl ((HO2.out.alloc _).alloc _) (w2.heap.size+1) ⟨k,v,c,q⟩ rfl (Qsy _ _ _) (by omega) (Qgh HB2.out _ _ Zc).size ?_;intro v3 w3 ho3 hg;have HO3:=Za ho3;have HB3:=Za (Toks.kept ((HO2.out.alloc _).alloc _) (Qgh HB2.out _ _ Zc) hg (Qgh HB2.out _ _ Zc).size Zc);clear ho3 hg);go_roundw
       case rel=>exact ⟨z,l++[⟨k,v,c,q⟩],by go_num,by omega,by rw [List.length_append];simp;omega,HX2,HO3,HB3⟩
       case measure=>simp [intOf];omega
end
section
open Go.RowKit
attribute [local go_sem] ByteArray.mk_append_mk Qah Qai Qag
end
section
open Go.RowKit
attribute [local go_sem] ByteArray.mk_append_mk Qah Qai Qag
theorem Qku (s:List UInt8):∀ (f p:Nat) (acc:List Tok),acc.length<=p->p<=s.length->(QdD s f p acc).1.length<=s.length
 | 0,p,acc,h,hp=>by rw [QdD];exact Nat.le_trans h hp
 | f+1,p,acc,h,hp=>by
   obtain ⟨q,hq1,hq2,e1,e2⟩:=Qe4 s p hp;unfold QdD;rw [e2,e1];split
   ·simp
   ·split
    ·simp only [];omega
    ·split
     ·simp
     ·next k v t n hi =>
      have hn:1<=n/\n<=(s.drop q).length:=Qfr hi;rw [List.length_drop] at hn;exact Qku s f (q+n) _ (by rw [List.length_append];simp;omega) (by omega)
theorem Qpm (s:List UInt8):(Qeg s).1.length<=65536:=by
 unfold Qeg;split
 ·simp
 ·have:=Qku s (s.length+1) 0 [] (by simp) (by omega);omega
end
section
open Go.RowKit
attribute [local go_sem] ByteArray.mk_append_mk Qah Qai Qag
def hexTab:List UInt8:=[48,49,50,51,52,53,54,55,56,57,65,66,67,68,69,70]
def Qvi (d:Nat):UInt8:=hexTab.getD d 48
def Qvj (v:Nat):List UInt8:=if h:v=0 then [] else Qvj (v / 16)++[Qvi (v % 16)]
termination_by v
decreasing_by omega
def Qsz (v:Nat):List UInt8:=Qvj (v / 16)++[Qvi (v % 16)]
def QvD (v:Nat):List UInt8:=if v<10 then Qsz v else 48::120::Qsz v
def QvE (c:UInt8):List UInt8 :=
 if c=34\/c=92 then [92,c] else if 32<=c.toNat/\c.toNat<=126 then [c] else if c.toNat<16 then 92::120::48::Qsz c.toNat else 92::120::Qsz c.toNat
def QvF (v:List UInt8) (k:Nat):List UInt8:=34::(v.take k).flatMap QvE
def QvG (v:List UInt8):List UInt8:=QvF v v.length++[34]
end
section
open Go.RowKit
def Qim (v n:Int):Int:=(IntKind.u64.wrap v) % n
theorem Qej (v n:Int) (hn:0<n):0<=Qim v n:=Int.emod_nonneg _ (by omega)
theorem Qiu (v n:Int) (hn:0<n):Qim v n<n:=Int.emod_lt_of_pos _ hn
theorem Qnf (v:Int):0<=IntKind.u64.wrap v:=by
 unfold IntKind.wrap;simp [IntKind.signed,IntKind.bits];exact Int.emod_nonneg _ (by decide)
theorem QsA (v n:Int) (hn:0<n) (hn2:n<=9223372036854775807):wrap64 ((IntKind.u64.wrap v).tmod n)=Qim v n:=by
 have h1:=Qej v n hn;have h2:=Qiu v n hn;rw [Int.tmod_eq_emod_of_nonneg (Qnf v)];exact IntWalk.wrap64_in _ ⟨by unfold Qim at *;omega,by unfold Qim at *;omega⟩
theorem Qle (v n:Int) (w:World) (hn:0<n) (hn2:n<=9223372036854775807):Calls Tryz.prog 24 #[.int .i64 v,.int .i64 n] w fun e w'=>e = .returned (.int .i64 (Qim v n))/\w=w':=by
 have HM:=Za (QsA v n hn hn2);have hw1:IntKind.u64.wrap n=n:=IntWalk.u64_in _ (by omega);go_enter Tryz.func24,Tryz.ntmps24;go_wp2_with fail;go_ret;exact ⟨by rw [<- HM.out];rfl,rfl⟩
end
section
open Go.RowKit
attribute [local go_sem] ByteArray.mk_append_mk Qah Qai Qag
structure TokI where
 kind:Int
 num:Int
 str:List UInt8
 pos:Int
deriving DecidableEq
def TokI.val (t:TokI):Value:=Qbz t.kind t.num t.str t.pos
def Tok.toI (t:Tok):TokI:=⟨t.kind,t.num,t.str,t.pos⟩
abbrev QqQ (a b:Int) (c:List UInt8) (d:Int):Obj:=.cells #[.int .i64 a,.int .u64 b,.string ⟨c.toArray⟩,.int .i64 d] 34 (0,0)
end
section
open Go.RowKit
attribute [local go_sem] ByteArray.mk_append_mk Qah Qai Qag
def QbT (l:List UInt8):Value:=.string ⟨l.toArray⟩
def StrsAt (w:World) (v:Value) (l:List (List UInt8)):Prop :=
 ∃ (a:Option Addr) (cap:Nat),v = .slice a l.length cap/\l.length<=9223372036854775000/\((a=none->cap=0)/\l.length<=cap)/\(l≠[]->∃ b off,a=some ⟨b,off,none⟩/\∀ k (h:k<l.length),w.cell? ⟨b,off+k,none⟩=some (QbT l[k]))
theorem StrsAt.of_own {w:World} {B:Nat} {v:Value} {l:List (List UInt8)} (h:w.ownsRow B 9 1 v l.length (l.map QbT)) (hl:l.length<=9223372036854775000):StrsAt w v l:=by
 obtain ⟨h1,h2⟩:=h;rcases h2 with ⟨hv,h0⟩|⟨g,cap,cur,hv,hb,hg,hn,hm,hs,ht⟩
 ·obtain rfl:l=[]:=List.eq_nil_of_length_eq_zero h0;exact ⟨none,0,hv,hl,⟨fun _=>rfl,by simp⟩,fun h=>absurd rfl h⟩
 ·refine ⟨_,cap,hv,hl,⟨(fun h=>by cases h),by omega⟩,fun _=>⟨g,0,rfl,fun k hk=>?_⟩⟩;rw [cell_of_row w g (0+k) cur 9 (0,0) hg];have h3:(l.map QbT)[k]?=some (QbT l[k]):=by simp [hk]
  rw [<- ht,List.getElem?_take,if_pos (by omega)] at h3;simpa using h3
theorem StrsAt.below' {w w':World} {B:Nat} {v:Value} {l:List (List UInt8)} (h:StrsAt w v l) (hb:Below B w w') (hB:∀ a n c,v = .slice (some a) n c->l≠[]->a.block<B):StrsAt w' v l:=by
 obtain ⟨a,cap,hv,hl,hz,hc⟩:=h;refine ⟨a,cap,hv,hl,hz,fun hn=>?_⟩;obtain ⟨b,off,ha,hk⟩:=hc hn;refine ⟨b,off,ha,fun k h=>?_⟩;have:=hB ⟨b,off,none⟩ _ _ (by rw [hv,ha]) hn;rw [hb.cell (p:=⟨b,off+k,none⟩) this];exact hk k h
theorem StrsAt.lt {w:World} {v:Value} {l:List (List UInt8)} (h:StrsAt w v l):∀ a n c,v = .slice (some a) n c->l≠[]->a.block<w.heap.size:=by
 intro a n c hv hn;obtain ⟨a',cap,hv',hl,_,hc⟩:=h;obtain ⟨b,off,ha,hk⟩:=hc hn;rw [hv',ha] at hv;cases hv;have hp:0<l.length:=List.length_pos_iff.2 hn;exact World.block_lt_of_cell? w ⟨b,off+0,none⟩ (hk 0 hp)
theorem StrsAt.below {w w':World} {v:Value} {l:List (List UInt8)} (h:StrsAt w v l) (hb:Below w.heap.size w w'):StrsAt w' v l:=h.below' hb h.lt
theorem StrsAt.nil (w:World):StrsAt w (.slice none 0 0) []:=⟨none,0,rfl,by simp,⟨fun _=>rfl,by simp⟩,fun h=>absurd rfl h⟩
theorem StrsAt.front {w:World} {a:Option Addr} {n cap:Nat} {l:List (List UInt8)} (h:StrsAt w (.slice a n cap) l) (m:Nat) (hm:m<=l.length):StrsAt w (.slice a m cap) (l.take m):=by
 obtain ⟨a',cap',hv,hl,hz,hc⟩:=h;injection hv with h1 h2 h3;subst h1 h3;have hlen:(l.take m).length=m:=by rw [List.length_take];omega
 refine ⟨a,cap,by rw [hlen],by rw [hlen];omega,⟨hz.1,by rw [hlen];omega⟩,fun hn=>?_⟩;have hne:l≠[]:=by rintro rfl;simp at hn
 obtain ⟨b,off,ha,hk⟩:=hc hne;refine ⟨b,off,ha,fun k hk'=>?_⟩;rw [hk k (by rw [hlen] at hk';omega),List.getElem_take]
theorem StrsAt.form {w:World} {v:Value} {l:List (List UInt8)} (h:StrsAt w v l):∃ a c,v = .slice a l.length c/\l.length<=c:=by
 obtain ⟨a,c,hv,_,hz,_⟩:=h;exact ⟨a,c,hv,hz.2⟩
def PathV (w:World) (p:Value) (root:Bool) (up:Int) (l:List (List UInt8)):Prop:=∃ v,p = .agg #[.bool root,.int .i64 up,v]/\StrsAt w v l
theorem PathV.mk {w:World} {v:Value} {root:Bool} {up:Int} {l:List (List UInt8)} (h:StrsAt w v l):PathV w (.agg #[.bool root,.int .i64 up,v]) root up l:=⟨_,rfl,h⟩
theorem PathV.below {w w':World} {p:Value} {root:Bool} {up:Int} {l:List (List UInt8)} (h:PathV w p root up l) (hb:Below w.heap.size w w'):PathV w' p root up l:=by
 obtain ⟨v,rfl,hs⟩:=h;exact ⟨v,rfl,hs.below hb⟩
abbrev QgR (root:Bool) (up:Int) (v:Value):Obj:=.cells #[.bool root,.int .i64 up,v] 128 (0,0)
def BoxAt (w wr:World) (root:Bool) (up:Int) (v:Value) (l:List (List UInt8)):Prop :=
 wr.heap[w.heap.size]?=some (QgR root up v)/\StrsAt wr v l/\Below w.heap.size w wr
theorem BoxAt.start {w:World} {root:Bool} {up:Int} {v:Value} {l:List (List UInt8)} (h:StrsAt w v l):BoxAt w (w.alloc (.cells #[.bool root,.int .i64 up,v] 128)) root up v l :=
 ⟨heap_alloc_new w _,h.below (Zb.alloc Zc _),Zb.alloc Zc _⟩
theorem BoxAt.below {w wr w2:World} {root:Bool} {up:Int} {v:Value} {l:List (List UInt8)} (h:BoxAt w wr root up v l) (hb:Below wr.heap.size wr w2):BoxAt w w2 root up v l :=
 ⟨Qad h.1 hb,h.2.1.below hb,Qar h.2.2 Zc hb⟩
theorem BoxAt.drewN {w wr:World} {root:Bool} {up:Int} {v:Value} {l:List (List UInt8)} (h:BoxAt w wr root up v l) (n:Nat):BoxAt w (wr.drewN n) root up v l :=
 h.below (below_drewN Zb n)
theorem BoxAt.cells {w wr:World} {root:Bool} {up:Int} {v:Value} {l:List (List UInt8)} (h:BoxAt w wr root up v l):wr.cell? ⟨w.heap.size,0,none⟩=some (.bool root)/\wr.cell? ⟨w.heap.size,1,none⟩=some (.int .i64 up)/\wr.cell? ⟨w.heap.size,2,none⟩=some v:=QaT h.1
theorem BoxAt.pathV {w wr:World} {root:Bool} {up:Int} {v:Value} {l:List (List UInt8)} (h:BoxAt w wr root up v l):PathV wr (.agg #[.bool root,.int .i64 up,v]) root up l:=⟨v,rfl,h.2.1⟩
end
end Go.Proofs.YtoohondkpddmcaaGreatDoor
