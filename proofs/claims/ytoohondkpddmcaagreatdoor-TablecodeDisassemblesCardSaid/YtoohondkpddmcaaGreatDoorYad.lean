/- Tkh Byt Tki Tkj -/
import Derived.Test.YtoohondkpddmcaaGreatDoorYzz
import Derived.Test.YtoohondkpddmcaaGreatDoorYac
import Derived.Test.YtoohondkpddmcaaGreatDoorYaa
namespace Go.Proofs.YtoohondkpddmcaaGreatDoor
set_option maxHeartbeats 32000000
set_option linter.unusedVariables false
set_option linter.unusedSimpArgs false
section
open Go.RowKit
attribute [local go_sem] ByteArray.mk_append_mk Qah Qai Qag
theorem Qis {s:List UInt8} {k:Nat} (h:k<s.length) (d:UInt8) (b:Bool) (hb:decide (s[k]=d)=b):((s[k].toNat:Int)==(d.toNat:Int))=b:=by
 rw [QfN,<- hb,Bool.eq_iff_iff,beq_iff_eq,decide_eq_true_eq];exact eq_comm
theorem QgG {s:List UInt8} (h:s.length<3):Qfp s=false:=by
 unfold Qfp;split
 ·next c r=>simp only [List.length_cons] at h;omega
 ·rfl
theorem QlJ {s:List UInt8} (h:3<=s.length):Qfp s=(decide (s[0]=48)&&decide (s[1]=120)):=by
 match s,h with
 | a::b::c::r,_ =>
   simp only [List.getElem_cons_zero,List.getElem_cons_succ];unfold Qfp;split
   ·next heq=>injection heq with h1 h2;injection h2 with h2 h3;subst h1 h2;rfl
   ·next hn =>
    by_cases h1:a=48
    ·by_cases h2:b=120
     ·subst h1 h2;exact absurd rfl (hn c r)
     ·simp [h2]
    ·simp [h1]
theorem QeE {c:UInt8} {x:Nat} (h:QcC c=some x):QmZ c=x:=by unfold QmZ;rw [h]
theorem Qhm {c:UInt8} (h:QcC c=none):QmZ c = -1:=by unfold QmZ;rw [h]
set_option maxRecDepth 100000 in
theorem QqJ (s:List UInt8) (w:World) (hs:s.length<=9223372036854775000) (hne:s≠[]) :
  Calls Tryz.prog 198 #[.string ⟨s.toArray⟩] w fun e w'=>e = .returned (Qon (QiF s))/\w=w':=by
 obtain ⟨X,hX⟩:∃ X,Hid (QiF s=X):=⟨_,Za rfl⟩;rw [hX.out];have hpos:0<s.length:=by cases s with
  | nil=>exact absurd rfl hne
  | cons c t=>simp
 have HNE:Hid (s≠[]):=Za hne;clear hne;obtain ⟨b,hb⟩:∃ b,Hid (Qfp s=b):=⟨_,Za rfl⟩;go_enter Tryz.func198,Tryz.ntmps198;go_upto_region 1 with fail;go_cut [21] (fun z wx=>z = .bool b/\w=wx)
 case first =>
  by_cases h3:(3:Int)<=(s.length:Int)
  ·have HB:Hid (b=(decide (s[0]=48)&&decide ((s[1]'(by omega))=120))):=Za (by rw [<- hb.out,QlJ (by omega)]);cases h0:decide (s[0]=48)
   ·have hx0:((s[0].toNat:Int)==48)=false:=Qis hpos 48 false h0;rw [h0] at HB;clear h0;go_wp2_with fail;go_meet;exact ⟨by rw [HB.out];rfl,rfl⟩
   ·have hx0:((s[0].toNat:Int)==48)=true:=Qis hpos 48 true h0;rw [h0] at HB;clear h0;have h1':1<s.length:=by omega
    have hx1:((s[1].toNat:Int)==120)=decide (s[1]=120):=Qis h1' 120 _ rfl;go_wp2_with fail;go_meet;exact ⟨by rw [HB.out];rfl,rfl⟩
  ·have HB:Hid (b=false):=Za (by rw [<- hb.out];exact QgG (by omega));go_wp2_with fail;go_meet;exact ⟨by rw [HB.out],rfl⟩
 case rest =>
  obtain ⟨rfl,rfl⟩:=hcut;cases b
  ·have HX:Hid (X=if 20<s.length\/(1<s.length/\s.head?=some 48) then none else Qeb s 0):=Za (by rw [<- hX.out];exact QqI hb.out HNE.out);clear hb;have hse:s.isEmpty=false:=by cases s with
    | nil=>simp at hpos
    | cons c t=>rfl
   obtain ⟨B,hB⟩:∃ B:Bool,Hid (decide (20<s.length\/(1<s.length/\s.head?=some 48))=B):=⟨_,Za rfl⟩;have HX2:Hid (X=if B=true then none else Qeb s 0):=Za (by rw [HX.out,<- hB.out];simp only [decide_eq_true_eq]);clear HX;have hh0:s.head?=some s[0]:=by rw [List.head?_eq_getElem?,List.getElem?_eq_getElem hpos]
   have HB1:Hid (20<s.length->B=true):=Za (fun h=>by rw [<- hB.out,decide_eq_true_eq];exact .inl h);have HB2:Hid (¬ 20<s.length->1<s.length->B=decide (s[0]=48)):=Za (fun h h1=>by
    rw [<- hB.out,decide_eq_decide,hh0];constructor
    ·rintro (h'|⟨_,h'⟩)
     ·exact absurd h' h
     ·injection h'
    ·intro h';exact .inr ⟨h1,by rw [h']⟩)
   have HB3:Hid (¬ 1<s.length->B=false):=Za (fun h=>by
    rw [<- hB.out,decide_eq_false_iff_not];rintro (h'|⟨h',_⟩)<;>omega)
   clear hh0;go_upto_region 12 with fail;go_cut [61] (fun z wx=>z = .bool B/\w=wx)
   case first =>
    by_cases h20:(20:Int)<(s.length:Int)
    ·have HB:=Za (HB1.out (by omega));go_wp2_with fail;go_meet;exact ⟨by rw [HB.out],rfl⟩
    ·by_cases h1:(1:Int)<(s.length:Int)
     ·have HB:=Za (HB2.out (by omega) (by omega));have hx0:((s[0].toNat:Int)==48)=decide (s[0]=48):=Qis hpos 48 _ rfl;go_wp2_with fail;go_meet;exact ⟨by rw [HB.out],rfl⟩
     ·have HB:=Za (HB3.out (by omega));go_wp2_with fail;go_meet;exact ⟨by rw [HB.out],rfl⟩
   case rest =>
    obtain ⟨rfl,rfl⟩:=hcut;clear HB1 HB2 HB3 hB hse;cases B
    ·have HX:Hid (X=Qeb s 0):=Za (by rw [HX2.out]<;>rfl);clear HX2;go_wp2_with fail;go_loop [7,6] (fun i v=>∃ (k:Nat) (V:Int),i = .int .i64 k/\v = .int .u64 V/\k<=s.length/\Hid (∃ n:Nat,V=n/\n<=18446744073709551615/\X=Qeb (s.drop k) n)) (fun i v=>s.length-(intOf i).toNat)
     case atStart=>exact ⟨0,0,rfl,rfl,by omega,Za ⟨0,rfl,by omega,HX.out⟩⟩
     case round =>
      clear HX;obtain ⟨k,V,rfl,rfl,hk,HX⟩:=hrel;by_cases hl:k<s.length
      ·cases h1:Qa7 s[k]
       ·have HX2:Hid (X=none):=Za (by obtain ⟨n,_,_,h⟩:=HX.out;rw [h];exact QqD hl h1);go_wp2_with (go_at_call 197;refine (QeD _ _ h1 _).mono ?_;rintro e w' ⟨rfl,rfl⟩);refine bodyPost_ret (results_tmp2 rfl _ _ _) rfl ?_;exact ⟨by rw [HX2.out];rfl,rfl⟩
       ·obtain ⟨hd1,hd2⟩:=QcQ h1;obtain ⟨d,hd⟩:∃ d:Int,Hid ((s[k].toNat:Int)-48=d):=⟨_,Za rfl⟩;have hdd:((s[k].toNat:Int)-48)=d:=hd.out;have hd3:0<=d:=by omega
        have hd4:d<=9:=by omega
        go_wp2_with (go_at_call 197;refine (QeD _ _ h1 _).mono ?_;rintro e w' ⟨rfl,rfl⟩)
        ·next hov =>
         have HX2:Hid (X=none):=Za (by obtain ⟨n,h1',h2,h3⟩:=HX.out;rw [h3];exact QqE hl h1 (by omega));refine bodyPost_ret (results_tmp2 rfl _ _ _) rfl ?_;exact ⟨by rw [HX2.out];rfl,rfl⟩
        ·next hov =>
         have HX2:Hid (∃ n:Nat,V * 10+d=n/\n<=18446744073709551615/\X=Qeb (s.drop (k+1)) n):=Za (by
          obtain ⟨n,h1',h2,h3⟩:=HX.out;have e:=QqF (v:=n) hl h1 (by omega);refine ⟨n * 10+(s[k].toNat-48),by omega,by omega,by rw [h3,e]⟩)
         have hV:0<=V:=by obtain ⟨n,h1',_⟩:=HX.out;omega
         have e1:IntKind.u64.wrap (10 * V)=V * 10:=by rw [Int.mul_comm];exact IntWalk.u64_in _ ⟨by omega,by omega⟩
         have e2:IntKind.u64.wrap (V * 10+d)=V * 10+d:=IntWalk.u64_in _ ⟨by omega,by omega⟩;rw [e1,e2];go_round
         case rel=>exact ⟨k+1,V * 10+d,by go_num,rfl,by omega,HX2⟩
         case measure=>simp [intOf];omega
      ·have HX2:Hid (∃ n:Nat,V=n/\X=some n):=Za (by obtain ⟨n,h1,h2,h3⟩:=HX.out;exact ⟨n,h1,by rw [h3];exact QqG (by omega)⟩);go_wp2_with fail;refine bodyPost_ret (results_tmp2 rfl _ _ _) rfl ?_;obtain ⟨n,h1,h2⟩:=HX2.out;exact ⟨by rw [h2,h1];rfl,rfl⟩
    ·have HX:Hid (X=none):=Za (by rw [HX2.out]<;>rfl);clear HX2;go_wp2_with fail;refine bodyPost_ret (results_tmp2 rfl _ _ _) rfl ?_;exact ⟨by rw [HX.out];rfl,rfl⟩
  ·have HX:Hid (X=if 18<s.length then none else Qhl (s.drop 2) 0):=Za (by rw [<- hX.out];exact QqH hb.out);have h3:3<=s.length:=Classical.byContradiction fun h=>by
    have:=QgG (s:=s) (by omega);rw [hb.out] at this;cases this
   clear hb;by_cases h18:(18:Int)<(s.length:Int)
   ·go_wp2_with fail;refine bodyPost_ret (results_tmp2 rfl _ _ _) rfl ?_;exact ⟨by rw [HX.out,if_pos (by omega)];rfl,rfl⟩
   ·have HX1:Hid (X=Qhl (s.drop 2) 0):=Za (by rw [HX.out,if_neg (by omega)]);clear HX;go_wp2_with fail;go_loop [5,4] (fun i v=>∃ k n:Nat,i = .int .i64 k/\v = .int .u64 n/\2<=k/\k<=s.length/\Hid (n<16 ^ (k-2))/\Hid (X=Qhl (s.drop k) n)) (fun i v=>s.length-(intOf i).toNat)
    case atStart=>exact ⟨2,0,rfl,rfl,by omega,by omega,Za (by decide),HX1⟩
    case round =>
     clear HX1;obtain ⟨k,n,rfl,rfl,hk2,hk,HN,HX⟩:=hrel;by_cases hl:k<s.length
     ·have HH:=Za (Qfo s[k] w);cases hv:QcC s[k] with
      | none =>
        have HX2:Hid (X=none):=Za (by rw [HX.out];exact Qss hl hv);rw [Qhm hv] at HH;clear hv;go_wp2_with fail;((with_reducible refine HH.out.mono ?_));rintro e w3 ⟨rfl,rfl⟩;go_wp2_with fail;refine bodyPost_ret (results_tmp2 rfl _ _ _) rfl ?_;exact ⟨by rw [HX2.out];rfl,rfl⟩
      | some x =>
        have hx:=Qk4 hv;have HX2:Hid (X=Qhl (s.drop (k+1)) (n * 16+x)):=Za (by rw [HX.out];exact QqA hl hv);rw [QeE hv] at HH;clear hv;have hn:n<1152921504606846976:=Nat.lt_of_lt_of_le HN.out (QqC (by omega));have hor:=QvB n x hn hx;have HN2:Hid (n * 16+x<16 ^ (k+1-2)):=Za (by
         have:=HN.out;rw [show k+1-2=(k-2)+1 by omega,Nat.pow_succ];omega)
        go_wp2_with fail;((with_reducible refine HH.out.mono ?_));rintro e w3 ⟨rfl,rfl⟩;go_wp2_with fail;((with_reducible refine HH.out.mono ?_));rintro e w3 ⟨rfl,rfl⟩;go_wp2_with fail;go_round
        case rel=>exact ⟨k+1,n * 16+x,by go_num,by go_num,by omega,by omega,HN2,HX2⟩
        case measure=>simp [intOf];omega
     ·have HX2:Hid (X=some n):=Za (by rw [HX.out];exact QqB (by omega));go_wp2_with fail;refine bodyPost_ret (results_tmp2 rfl _ _ _) rfl ?_;exact ⟨by rw [HX2.out];rfl,rfl⟩
end
section
open Go.RowKit
attribute [local go_sem] ByteArray.mk_append_mk Qah Qai Qag
theorem QqK (w:World) (x:Int):Sem.run Tryz.prog (convert 48 9 (.slice (some ⟨w.heap.size,0,none⟩) 1 1)) (w.alloc (.cells #[.int .u8 x] 5)) = .ok (.string ⟨[UInt8.ofNat x.toNat].toArray⟩) (w.alloc (.cells #[.int .u8 x] 5)):=by
 rw [run_convert_bytes_string _ 48 9 5 _ _ _ Tryz.underlying48 Tryz.underlying5 Tryz.underlying9];rw [run_bytesToString _ _ 1 1 [x] (by simp [loadCells,go_sem])];rfl
theorem Qk5:(Tryz.prog.info? 5).map (fun i=>(i.zero,i.size,i.bytes))=some (some (.int .u8 0),1,1):=by kernel_rfl
def byV (l:List UInt8):List Value:=l.map fun b=>.int .u8 b.toNat
theorem Qit (l:List UInt8):(byV l).length=l.length:=by unfold byV;exact List.length_map _
theorem Qst (w:World) (a:Addr) (n c:Nat) (l:List UInt8) (hn:l.length=n) (h:∀ j v,(byV l)[j]?=some v->w.cell? (a.add j)=some v) :
  Sem.run Tryz.prog (convert 48 9 (.slice (some a) n c)) w = .ok (.string ⟨l.toArray⟩) w:=by
 rw [run_convert_bytes_string _ 48 9 5 _ _ _ Tryz.underlying48 Tryz.underlying5 Tryz.underlying9];have hl:=run_loadCells_list (P:=Tryz.prog) w a ((l.map (fun b=>(b.toNat:Int))).map (Value.int .u8)) (by
  intro j v hj;apply h;simpa [byV,List.map_map] using hj)
 rw [List.length_map,List.length_map,hn] at hl;rw [run_bytesToString _ _ n c _ hl];have key:∀ (l:List UInt8) (r:ByteArray),(l.map (fun b=>(b.toNat:Int))).foldl (fun r n=>r.push (UInt8.ofNat n.toNat)) r=r++⟨l.toArray⟩:=by
  intro l;induction l with
  | nil=>intro r;simp;apply ByteArray.ext;simp [ByteArray.data_append]
  | cons x l ih =>
    intro r;simp only [List.map_cons,List.foldl_cons,ih];apply ByteArray.ext;simp [ByteArray.data_append,ByteArray.data_push]
 rw [key]
 congr 2
theorem Qm3 (w:World):Sem.run Tryz.prog (convert 48 9 (.slice none 0 0)) w = .ok (.string ⟨([]:List UInt8).toArray⟩) w:=by kernel_rfl
def Bytes (w:World) (B:Nat) (v:Value) (l:List UInt8):Prop:=w.ownsRow B 5 1 v l.length (byV l)
theorem Bytes.nil (w:World) (B:Nat):Bytes w B (.slice none 0 0) []:=⟨rfl,.inl ⟨rfl,rfl⟩⟩
theorem Bytes.form {w:World} {B:Nat} {v:Value} {l:List UInt8} (h:Bytes w B v l):∃ a c,v = .slice a l.length c:=by
 rcases h.2 with ⟨rfl,h0⟩|⟨g,cap,cur,rfl,_⟩
 ·exact ⟨none,0,by rw [h0]⟩
 ·exact ⟨_,cap,rfl⟩
theorem Bytes.conv {w:World} {B:Nat} {v:Value} {l:List UInt8} (h:Bytes w B v l):Sem.run Tryz.prog (convert 48 9 v) w = .ok (.string ⟨l.toArray⟩) w:=by
 have ho:w.ownsRow B 5 1 v l.length (byV l):=h;rcases h.2 with ⟨rfl,h0⟩|⟨g,cap,cur,rfl,_⟩
 ·have:l=[]:=List.eq_nil_of_length_eq_zero h0;subst this;exact Qm3 w
 ·refine Qst w _ _ _ l rfl fun j u hj=>?_;have hlt:j<l.length:=by
   have:=(List.getElem?_eq_some_iff.1 hj).1
   rwa [Qit] at this
  have h1:=ho.cellAt j (by omega);rw [hj] at h1;by_cases h0:j=0
  ·subst h0;simpa [Addr.add] using h1
  ·simpa [Addr.add,h0] using h1
theorem Bytes.below {w w':World} {B:Nat} {v:Value} {l:List UInt8} (h:Bytes w B v l) (hb:Below w.heap.size w w'):Bytes w' B v l:=QbH h hb
theorem Bytes.kept {w w1 w2:World} {B B0:Nat} {v:Value} {l:List UInt8} (ho:Bytes w1 B v l) (h:Below B0 w w1) (hg:w1.grownBy w2 v.ownBlock) (hB:B0<=w1.heap.size) (hB2:B0<=B):Below B0 w w2 :=
 h.grown hg hB (fun k hk=>Nat.le_trans hB2 (QaN ho hk))
def BArg (w:World) (v:Value) (l:List UInt8):Prop :=
 ∃ (a:Option Addr) (cap:Nat),v = .slice a l.length cap/\l.length<=140737488351232/\(l≠[]->∃ b off,a=some ⟨b,off,none⟩/\∀ k (h:k<l.length),w.cell? ⟨b,off+k,none⟩=some (.int .u8 l[k].toNat))
theorem BArg.below {w w':World} {v:Value} {l:List UInt8} (h:BArg w v l) (hb:Below w.heap.size w w'):BArg w' v l:=by
 obtain ⟨a,cap,hv,hl,hc⟩:=h;refine ⟨a,cap,hv,hl,fun hn=>?_⟩;obtain ⟨b,off,ha,hk⟩:=hc hn;have hp:0<l.length:=List.length_pos_iff.2 hn;have hlt:b<w.heap.size:=World.block_lt_of_cell? w ⟨b,off+0,none⟩ (hk 0 hp);refine ⟨b,off,ha,fun k h=>?_⟩;rw [hb.cell (p:=⟨b,off+k,none⟩) hlt];exact hk k h
end
section
open Go.RowKit
attribute [local go_sem] ByteArray.mk_append_mk Qah Qai Qag
def QiI:List UInt8->Option (UInt8×Nat)
 | _::34::_=>some (34,2)
 | _::92::_=>some (92,2)
 | _::120::h::l::_=>match QcC h,QcC l with
   | some a,some b=>some (UInt8.ofNat (a * 16+b),4)
   | _,_=>none
 | _=>none
theorem Qko (r v:List UInt8):Qbm (92::r) v=match QiI (92::r) with
  | some (b,n)=>Qbm ((92::r).drop n) (v++[b])
  | none=>none:=by
 generalize hE:QiI (92::r)=E;unfold QiI at hE;split at hE
 ·next heq=>injection heq with _ h;subst h hE;rw [Qbm];rfl
 ·next heq=>injection heq with _ h;subst h hE;rw [Qbm];rfl
 ·next h l t heq =>
  injection heq with _ h';subst h' hE;rw [Qbm];cases QcC h with
  | none=>rfl
  | some x=>cases QcC l with
    | none=>rfl
    | some y=>rfl
 ·next h1 h2 h3 =>
  subst hE;rw [Qbm]
  ·intro t h;subst h;exact h1 _ _ rfl
  ·intro t h;subst h;exact h2 _ _ rfl
  ·intro a b t h;subst h;exact h3 _ _ _ _ rfl
theorem QhR {c:UInt8} {r v:List UInt8} (h1:c≠34) (h2:c≠92):Qbm (c::r) v=if 32<=c.toNat/\c.toNat<=126 then Qbm r (v++[c]) else none:=by
 rw [Qbm]
 ·intro h;exact h1 h
 all_goals (intros;simp_all)
theorem QhS (r v:List UInt8):Qbm (34::r) v=if 255<v.length then none else some (v,r):=by rw [Qbm]
theorem QaO (b d:UInt8) (n:Int) (hn:(d.toNat:Int)=n):(b=d/\((b.toNat:Int)==n)=true)\/(b≠d/\((b.toNat:Int)==n)=false):=by
 subst hn;by_cases h:b=d
 ·left;subst h;exact ⟨rfl,by simp⟩
 ·right;exact ⟨h,by rw [QfN,beq_eq_false_iff_ne];exact fun h'=>h h'.symm⟩
def QvC (o1 o2:Option Nat):Option (UInt8×Nat):=match o1,o2 with
 | some x,some y=>some (UInt8.ofNat (x * 16+y),4)
 | _,_=>none
theorem Qm4 {a b:UInt8} {r:List UInt8} (h1:b≠34) (h2:b≠92) (h3:b≠120):QiI (a::b::r)=none:=by
 unfold QiI;split
 ·next heq=>injection heq with _ h;injection h with h _;exact absurd h h1
 ·next heq=>injection heq with _ h;injection h with h _;exact absurd h h2
 ·next heq=>injection heq with _ h;injection h with h _;exact absurd h h3
 ·rfl
theorem Qm5 {a:UInt8} {r:List UInt8} (h:r.length<2):QiI (a::120::r)=none:=by
 unfold QiI;split
 ·next heq=>injection heq with _ h;injection h with h _;cases h
 ·next heq=>injection heq with _ h;injection h with h _;cases h
 ·next heq=>injection heq with _ h';injection h' with _ h';subst h';simp only [List.length_cons] at h;omega
 ·rfl
theorem QlK (a h l:UInt8) (r:List UInt8):QiI (a::120::h::l::r)=QvC (QcC h) (QcC l):=rfl
end
section
open Go.RowKit
attribute [local go_sem] ByteArray.mk_append_mk Qah Qai Qag
theorem Bytes.alloc {w:World} {B:Nat} {v:Value} {l:List UInt8} (h:Bytes w B v l) (o:Obj):Bytes (w.alloc o) B v l:=h.below (Zb.alloc Zc o)
theorem Qsu {s:List UInt8} {b:UInt8} {n:Nat} (h:QiI s=some (b,n)):1<=n/\n<=s.length:=by
 unfold QiI at h;split at h
 ·injection h with h;injection h with _ h;subst h;simp
 ·injection h with h;injection h with _ h;subst h;simp
 ·split at h
  ·injection h with h;injection h with _ h;subst h;simp
  ·cases h
 ·cases h
def Qvg (o:Option (UInt8×Nat)) (s l:List UInt8):Option (List UInt8×List UInt8):=match o with
 | some (b,n)=>Qbm (s.drop n) (l++[b])
 | none=>none
theorem Qfq (r v:List UInt8):Qbm (92::r) v=Qvg (QiI (92::r)) (92::r) v:=Qko r v
theorem Qo9 {s v:List UInt8} {p:Nat} (h:s.length<=p):Qbm (s.drop p) v=none:=by
 rw [List.drop_eq_nil_of_le h];rfl
theorem QgH {s:List UInt8} {p:Nat} (h:p<s.length) (v:List UInt8):Qbm (s.drop p) v=Qbm (s[p]::s.drop (p+1)) v:=by
 rw [List.drop_eq_getElem_cons h]
end
end Go.Proofs.YtoohondkpddmcaaGreatDoor
