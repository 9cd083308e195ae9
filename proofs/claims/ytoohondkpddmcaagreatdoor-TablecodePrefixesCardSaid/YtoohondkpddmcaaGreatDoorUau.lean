/- Rc Rd Re Rf Rc2 -/
import Derived.Test.YtoohondkpddmcaaGreatDoorUzz
import Derived.Test.YtoohondkpddmcaaGreatDoorUat
import Derived.Test.YtoohondkpddmcaaGreatDoorUar
namespace Go.Proofs.YtoohondkpddmcaaGreatDoor
set_option maxHeartbeats 32000000
set_option linter.unusedVariables false
set_option linter.unusedSimpArgs false
section
open Go.RowKit
attribute [local go_sem] ByteArray.mk_append_mk Qac Qad Qae
abbrev Rw:=Int×List UInt8×List UInt8
def Qqs:List Rw:=[(10,[83,99,111,112,101],[110,68]),(11,[68,101,118,105,99,101],[115,68]),(12,[80,111,119,101,114,82,101,115,111,117,114,99,101],[115,105,105,68]),(13,[78,97,109,101],[115,100]),(14,[77,101,116,104,111,100],[115,105,105,105,83]),(15,[79,112,101,114,97,116,105,111,110,82,101,103,105,111,110],[115,105,105,105]),(16,[70,105,101,108,100],[110,105,105,70]),(17,[73,110,100,101,120,70,105,101,108,100],[110,110,105,105,70]),(18,[85,110,105,116],[115,105]),(19,[83,107,105,112],[105]),(20,[77,117,116,101,120],[115,105]),(21,[69,118,101,110,116],[115]),(30,[83,116,111,114,101],[101,116]),(31,[73,102],[101,83]),(32,[87,104,105,108,101],[101,83]),(33,[82,101,116,117,114,110],[]),(34,[66,114,101,97,107],[]),(35,[67,111,110,116,105,110,117,101],[]),(36,[82,101,108,101,97,115,101],[110]),(37,[83,105,103,110,97,108],[110]),(38,[82,101,115,101,116],[110]),(39,[83,108,101,101,112],[101]),(40,[78,111,116,105,102,121],[110,101]),(41,[65,99,113,117,105,114,101],[110,105]),(42,[87,97,105,116],[110,101]),(50,[66,117,102,102,101,114],[105,73]),(51,[80,97,99,107,97,103,101],[105,80]),(85,[82,101,102,79,102],[116]),(87,[79,98,106,101,99,116,84,121,112,101],[116]),(86,[67,111,110,100,82,101,102,79,102],[110]),(88,[77,105,100],[101,101,101])]
def two0:List (List UInt8):=[[65,100,100],[83,117,98,116,114,97,99,116],[77,117,108,116,105,112,108,121],[68,105,118,105,100,101],[77,111,100],[65,110,100],[79,114],[88,111,114],[83,104,105,102,116,76,101,102,116],[83,104,105,102,116,82,105,103,104,116],[76,65,110,100],[76,79,114],[76,69,113,117,97,108],[76,76,101,115,115],[76,71,114,101,97,116,101,114],[67,111,110,99,97,116,101,110,97,116,101],[73,110,100,101,120]]
def one0:List (List UInt8):=[[78,111,116],[76,78,111,116],[83,105,122,101,79,102],[84,111,73,110,116,101,103,101,114],[84,111,66,117,102,102,101,114],[84,111,72,101,120,83,116,114,105,110,103],[84,111,68,101,99,105,109,97,108,83,116,114,105,110,103],[68,101,114,101,102,79,102]]
def Qw2:List Rw:=[(60,[65,100,100],[101,101]),(61,[83,117,98,116,114,97,99,116],[101,101]),(62,[77,117,108,116,105,112,108,121],[101,101]),(63,[68,105,118,105,100,101],[101,101]),(64,[77,111,100],[101,101]),(65,[65,110,100],[101,101]),(66,[79,114],[101,101]),(67,[88,111,114],[101,101]),(68,[83,104,105,102,116,76,101,102,116],[101,101]),(69,[83,104,105,102,116,82,105,103,104,116],[101,101]),(70,[76,65,110,100],[101,101]),(71,[76,79,114],[101,101]),(72,[76,69,113,117,97,108],[101,101]),(73,[76,76,101,115,115],[101,101]),(74,[76,71,114,101,97,116,101,114],[101,101]),(75,[67,111,110,99,97,116,101,110,97,116,101],[101,101]),(76,[73,110,100,101,120],[101,101])]
def Qw3:List Rw:=[(77,[78,111,116],[101]),(78,[76,78,111,116],[101]),(79,[83,105,122,101,79,102],[101]),(80,[84,111,73,110,116,101,103,101,114],[101]),(81,[84,111,66,117,102,102,101,114],[101]),(82,[84,111,72,101,120,83,116,114,105,110,103],[101]),(83,[84,111,68,101,99,105,109,97,108,83,116,114,105,110,103],[101]),(84,[68,101,114,101,102,79,102],[101])]
def rowsL:List Rw:=Qqs++Qw2++Qw3
def rcI:List Rw->List Value
 | []=>[]
 | t::r=>.int .i64 t.1::.string ⟨t.2.1.toArray⟩::.string ⟨t.2.2.toArray⟩::rcI r
theorem Qqt:∀ l m:List Rw,rcI (l++m)=rcI l++rcI m
 | [],m=>rfl
 | t::r,m=>by rw [List.cons_append,rcI,rcI,Qqt r m];rfl
theorem Qtn:∀ (l:List Rw) (i:Nat) (h:i<l.length),(rcI l)[i * 3]?=some (.int .i64 l[i].1)/\(rcI l)[i * 3+1]?=some (.string ⟨l[i].2.1.toArray⟩)/\(rcI l)[i * 3+2]?=some (.string ⟨l[i].2.2.toArray⟩)
 | t::r,0,_=>⟨rfl,rfl,rfl⟩
 | t::r,i+1,h=>by
   have:=Qtn r i (by simpa using h);rw [show (i+1) * 3=i * 3+3 by omega];exact this
def RowsI (w:World) (B:Nat) (v:Value) (l:List Rw):Prop:=w.ownsRow B 102 3 v l.length (rcI l)
theorem RowsI.form {w:World} {B:Nat} {v:Value} {l:List Rw} (h:RowsI w B v l):∃ a c,v = .slice a l.length c:=by
 rcases h.2 with ⟨rfl,h0⟩|⟨g,cap,cur,rfl,_⟩
 ·exact ⟨none,0,by rw [h0]⟩
 ·exact ⟨_,cap,rfl⟩
theorem RowsI.below {w w':World} {B:Nat} {v:Value} {l:List Rw} (h:RowsI w B v l) (hb:Below w.heap.size w w'):RowsI w' B v l:=QbY h hb
theorem RowsI.cells {w:World} {B:Nat} {v:Value} {l:List Rw} (h:RowsI w B v l) (hn:l≠[]):∃ g c,v = .slice (some ⟨g,0,none⟩) l.length c/\g<w.heap.size/\B<=g /\
  ∀ i (h:i<l.length),w.cell? ⟨g,i * 3,none⟩=some (.int .i64 l[i].1)/\w.cell? ⟨g,i * 3+1,none⟩=some (.string ⟨l[i].2.1.toArray⟩)/\w.cell? ⟨g,i * 3+2,none⟩=some (.string ⟨l[i].2.2.toArray⟩):=by
 obtain ⟨g,cap,hv,hB⟩:∃ g cap,v = .slice (some ⟨g,0,none⟩) l.length cap/\B<=g:=by
  rcases h.2 with ⟨_,h0⟩|⟨g,cap,cur,e,hb,_⟩
  ·exact absurd (List.eq_nil_of_length_eq_zero h0) hn
  ·exact ⟨g,cap,e,hb⟩
 subst hv;have hp:=List.length_pos_iff.2 hn;have hat:=Qtn l;refine ⟨g,cap,rfl,?_,hB,fun i hi=>⟨?_,?_,?_⟩⟩
 ·exact World.block_lt_of_cell? w ⟨g,0,none⟩ ((World.ownsRow.cellAt h 0 (by omega)).trans (hat 0 hp).1)
 ·rw [World.ownsRow.cellAt h _ (by omega)];exact (hat i hi).1
 ·rw [World.ownsRow.cellAt h _ (by omega)];exact (hat i hi).2.1
 ·rw [World.ownsRow.cellAt h _ (by omega)];exact (hat i hi).2.2
theorem Qu6:(Tryz.prog.info? 102).map (fun i=>(i.zero,i.size,i.bytes))=some (some (.agg #[.int .i64 0,.string ⟨#[]⟩,.string ⟨#[]⟩]),3,40):=by kernel_rfl
abbrev QbN (a:Int) (b c:List UInt8):Obj:=.cells #[.int .i64 a,.string ⟨b.toArray⟩,.string ⟨c.toArray⟩] 102 (0,0)
theorem QeO {w:World} {ops:Array Oper} {rest:List Oper} {o:Oper} {a:Act} {Q:Exit->Act->World->Prop} (hgd:o.guard=none) (s x:Operand)
  (ho:o.op = .call { callee:=.builtin .append,args:=#[s,x],argTypes:=#[152,152] })
  (B:Nat) (v:Value) (l:List Rw) (hs:a.eval s=v) (hown:RowsI w B v l) (g:Nat) (t:Rw)
  (hx:a.eval x = .slice (some ⟨g,0,none⟩) 1 1) (hb:w.heap[g]?=some (QbN t.1 t.2.1 t.2.2)) (hlen:l.length<=1000000) (hB:B<=w.heap.size)
  (h:∀ v' w',RowsI w' B v' (l++[t])->w.grownBy w' v.ownBlock->wpList Tryz.prog ops Q rest (a.put o.dst v') w'):wpList Tryz.prog ops Q (o::rest) a w:=by
 obtain ⟨i0,hi,hz0,hz1,hz2⟩:=info_parts Qu6;have hc:∀ (j:Nat) (z:Value),(rcI [t])[j]?=some z->w.cell? ⟨g,j,none⟩=some z:=by
  intro j z hj;rw [cell_of_row w g j _ _ (0,0) hb]
  match j,hj with
  | 0,hj=>cases hj;rfl
  | 1,hj=>cases hj;rfl
  | 2,hj=>cases hj;rfl
 refine wpList_append_own _ hgd s x _ ho B 102 i0 _ 3 40 Tryz.underlying152 hi hz0 hz1 hz2 rfl (by decide) v l.length _ hs hown ⟨g,0,none⟩ 1 1 (rcI [t]) hx rfl ?_ ?_ (by unfold maxLen;omega) (by omega) hB ?_
 ·intro j z hj;have e:(⟨g,0,none⟩:Addr).add j=⟨g,j,none⟩:=by by_cases h:j=0<;>simp [Addr.add,h]
  rw [e];exact hc j z hj
 ·intro z hz;simp only [rcI,List.mem_cons,List.not_mem_nil,or_false] at hz;rcases hz with rfl|rfl|rfl<;>rfl
 ·intro v' w' h1 h2 _;refine h v' w' ?_ h2;unfold RowsI;rw [List.length_append,Qqt];exact h1
end
section
open Go.RowKit
def Qk3 (op:Int):Option Rw:=rowsL.find? (fun t=>t.1==op)
def QiB (s:List UInt8):Option Rw:=rowsL.find? (fun t=>t.2.1==s)
def QgP:Option Rw->Rw
 | some t=>t
 | none=>(0,[],[])
def Qft (op:Int):Bool:=(decide (10<=op)&&decide (op<=21))||(decide (30<=op)&&decide (op<=42))||op==50||op==51||(decide (60<=op)&&decide (op<=88))
theorem Qto:∀ n:Fin 100,Qft (n.val:Int)=true->Qk3 (n.val:Int)=some ((n.val:Int),QaE (n.val:Int)):=by decide +kernel
theorem QgQ {op:Int} (h:Qft op=true):∃ n:Fin 100,op=(n.val:Int):=by
 unfold Qft at h;simp only [Bool.or_eq_true,Bool.and_eq_true,decide_eq_true_eq,beq_iff_eq] at h;exact ⟨⟨op.toNat,by omega⟩,by show op=((op.toNat:Nat):Int);omega⟩
theorem Qk4 {op:Int} (h:Qft op=true):Qk3 op=some (op,QaE op):=by
 obtain ⟨n,rfl⟩:=QgQ h;exact Qto n h
theorem Qtp:∀ t∈rowsL,Qft t.1=true:=by decide +kernel
theorem QrR:∀ t∈rowsL,QiB t.2.1=some t/\opW t.2.1=t.1:=by decide +kernel
theorem QrS:(∀ x∈declT,∃ t∈rowsL,t.2.1=x.1)/\(∀ x∈stmtT,∃ t∈rowsL,t.2.1=x.1)/\(∀ x∈exprT,∃ t∈rowsL,t.2.1=x.1)/\(∃ t∈rowsL,t.2.1=[66,117,102,102,101,114])/\(∃ t∈rowsL,t.2.1=[80,97,99,107,97,103,101]):=by decide +kernel
theorem Qgb {w:List UInt8}:∀ (l:List (List UInt8×List UInt8)) (i:Nat),(∀ x∈l,x.1≠w)->Ql5 w l i=none
 | [],i,h=>rfl
 | x::r,i,h=>by
   rw [Ql5,if_neg (h x (by simp))];exact Qgb r (i+1) (fun y hy=>h y (by simp [hy]))
theorem Qms (s:List UInt8):(QgP (QiB s)).1=opW s:=by
 by_cases h:∃ t∈rowsL,t.2.1=s
 ·obtain ⟨t,ht,rfl⟩:=h;obtain ⟨h1,h2⟩:=QrR t ht;rw [h1,h2];rfl
 ·have e1:QiB s=none:=by
   unfold QiB;rw [List.find?_eq_none];intro t ht hs;exact h ⟨t,ht,by simpa using hs⟩
  obtain ⟨a1,a2,a3,a4,a5⟩:=QrS;have k:∀ (l:List (List UInt8×List UInt8)),(∀ x∈l,∃ t∈rowsL,t.2.1=x.1)->∀ x∈l,x.1≠s:=by
   intro l hl x hx e;obtain ⟨t,ht,e2⟩:=hl x hx;exact h ⟨t,ht,e2.trans e⟩
  rw [e1];unfold opW;rw [Qgb _ _ (k _ a3),Qgb _ _ (k _ a2),Qgb _ _ (k _ a1)];simp only [];rw [if_neg (fun e=>by rw [e] at h;exact h a4),if_neg (fun e=>by rw [e] at h;exact h a5)]<;>rfl
theorem Qng {s:List UInt8} (h:opW s≠0):Qft (opW s)=true:=by
 rw [<- Qms] at h |-;cases hx:QiB s with
 | none=>rw [hx] at h;exact absurd rfl h
 | some t=>exact Qtp t (List.mem_of_find?_eq_some hx)
def Qgt (s word:List UInt8) (n:Int):Int :=
 match s.getLast? with
 | none=>-1
 | some c=>if s.dropLast=word/\48<=c.toNat/\c.toNat<=57/\(c.toNat:Int)-48<n then (c.toNat:Int)-48 else -1
theorem Qoj (s:List UInt8):Qkn s=if 0<=Qgt s [76,111,99,97,108] 8 then some (6,(Qgt s [76,111,99,97,108] 8).toNat) else if 0<=Qgt s [65,114,103] 7 then some (7,(Qgt s [65,114,103] 7).toNat) else none:=by
 unfold Qkn Qgt;cases s.getLast? with
 | none=>rfl
 | some c =>
   simp only [];by_cases h1:s.dropLast=[76,111,99,97,108]/\48<=c.toNat/\c.toNat<56
   ·rw [if_pos h1,if_pos (show s.dropLast=[76,111,99,97,108]/\48<=c.toNat/\c.toNat<=57/\(c.toNat:Int)-48<8 from ⟨h1.1,h1.2.1,by omega,by omega⟩),if_pos (by omega)]
    congr 2;omega
   ·rw [if_neg h1,if_neg (show ¬ (s.dropLast=[76,111,99,97,108]/\48<=c.toNat/\c.toNat<=57/\(c.toNat:Int)-48<8) from fun h=>h1 ⟨h.1,h.2.1,by omega⟩),if_neg (show ¬ (0:Int)<=-1 by decide)];by_cases h2:s.dropLast=[65,114,103]/\48<=c.toNat/\c.toNat<55
    ·rw [if_pos h2,if_pos (show s.dropLast=[65,114,103]/\48<=c.toNat/\c.toNat<=57/\(c.toNat:Int)-48<7 from ⟨h2.1,h2.2.1,by omega,by omega⟩),if_pos (by omega)]
     congr 2;omega
    ·rw [if_neg h2,if_neg (show ¬ (s.dropLast=[65,114,103]/\48<=c.toNat/\c.toNat<=57/\(c.toNat:Int)-48<7) from fun h=>h2 ⟨h.1,h.2.1,by omega⟩),if_neg (show ¬ (0:Int)<=-1 by decide)]
theorem QpR {s word:List UInt8} {n:Int} (h:s.length≠word.length+1):Qgt s word n = -1:=by
 unfold Qgt;cases hs:s.getLast? with
 | none=>rfl
 | some c =>
   simp only [];refine if_neg (fun e=>h ?_);have:=congrArg List.length e.1;rw [List.length_dropLast] at this;cases s with
   | nil=>cases hs
   | cons a q=>simp only [List.length_cons] at this |-;omega
theorem Qtq (d word:List UInt8) (c:UInt8) (n:Int):Qgt (d++[c]) word n=if d=word/\48<=c.toNat/\c.toNat<=57/\(c.toNat:Int)-48<n then (c.toNat:Int)-48 else -1:=by
 unfold Qgt;rw [List.getLast?_concat,List.dropLast_concat]
theorem Qqu (s word:List UInt8) (n:Int) (hn:0<=n):Qgt s word n<n/\-1<=Qgt s word n:=by
 unfold Qgt;cases s.getLast? with
 | none=>simp only [];omega
 | some c=>simp only [];split<;>omega
def Qhv (k:UInt8):Bool:=k==68||k==83||k==70||k==73||k==80
end
section
open Go.RowKit
attribute [local go_sem] ByteArray.mk_append_mk Qac Qad Qae
theorem QpS {s x:List UInt8} (h:QaM s=[x]):x=s:=by
 obtain ⟨a,y,h1,h2,h3⟩:=Qf9 s;rcases h3 with ⟨rfl,h4⟩|⟨t,rfl,h4⟩
 ·rw [h] at h4;injection h4 with h4 _;rw [h1,h4,List.append_nil]
 ·rw [h] at h4;injection h4 with _ h5;exact absurd h5.symm (Qfh t)
theorem Qnh {s:List UInt8} (h:∀ c∈s,c≠46):QaM s=[s]:=by
 obtain ⟨a,y,h1,h2,h3⟩:=Qf9 s;rcases h3 with ⟨rfl,h4⟩|⟨t,rfl,h4⟩
 ·rw [h4,h1,List.append_nil]
 ·exact absurd rfl (h 46 (by rw [h1];simp))
theorem Qtr {c:UInt8} (h:idB c=true):c≠46/\c≠92/\c≠94:=by
 refine ⟨?_,?_,?_⟩<;>(rintro rfl;revert h;decide)
theorem Qmt {s:List UInt8} (h:QaY s=true):Qfj s=Qa2 s:=by
 have hv:=h;unfold QaY at hv;have hsg:=QbM hv;rw [Bool.eq_iff_iff];constructor
 ·intro hs;unfold Qfj at hs;simp only [Bool.and_eq_true,Bool.not_eq_true',decide_eq_true_eq] at hs;obtain ⟨⟨h1,h2⟩,h3⟩:=hs;have hr:Qby s=s:=by
   unfold Qbm at h2;rw [h1] at h2;unfold Qby
   rw [h1];simp only [Bool.false_eq_true,if_false] at h2 |-;cases s with
   | nil=>rfl
   | cons c q =>
     by_cases hc:(c==94)=true
     ·rw [List.takeWhile_cons,if_pos hc] at h2;simp at h2
     ·rw [List.dropWhile_cons,if_neg hc]
  unfold QaF at h3 hsg;rw [hr] at h3 hsg;by_cases h0:s=[]
  ·rw [if_pos h0] at h3;simp at h3
  ·rw [if_neg h0] at h3 hsg;obtain ⟨x,hx⟩:=List.length_eq_one_iff.1 h3;have:=QpS hx;subst this;exact hsg x (by rw [hx];simp)
 ·intro hs;cases s with
  | nil=>cases hs
  | cons c q =>
    have hall:∀ d∈c::q,idB d=true:=by
     unfold Qa2 at hs;simp only [Bool.and_eq_true] at hs;exact List.all_eq_true.1 hs.1.2
    have hc:=Qtr (hall c (by simp));have h92:QaO (c::q)=false:=by
     unfold QaO;rw [Qdz,beq_eq_false_iff_ne];exact fun e=>hc.2.1 e.symm
    have h94:(c==(94:UInt8))=false:=by rw [beq_eq_false_iff_ne];exact hc.2.2
    have hu:Qbm (c::q)=0:=by
     unfold Qbm;rw [h92,List.takeWhile_cons,h94]<;>rfl
    have hr:Qby (c::q)=c::q:=by
     unfold Qby
     rw [h92,List.dropWhile_cons,h94]<;>rfl
    unfold Qfj QaF;rw [h92,hu,hr,if_neg (by simp),Qnh (fun d hd=>(Qtr (hall d hd)).1)]<;>rfl
theorem QiC:∀ r:List UInt8,QbK (QaM r)=r
 | []=>by rw [QaM,Qcs]
 | c::s=>by
   have ih:=QiC s;by_cases hc:c=46
   ·subst hc;rw [Qdh];cases hs:QaM s with
    | nil=>exact absurd hs (Qfh s)
    | cons x q=>rw [hs] at ih;rw [Qb5,ih];rfl
   ·cases hs:QaM s with
    | nil=>exact absurd hs (Qfh s)
    | cons x q =>
      rw [hs] at ih;rw [Qbx c s hc x q hs];cases q with
      | nil=>rw [Qcs] at ih |-;rw [ih]
      | cons y z=>rw [Qb5] at ih |-;rw [List.cons_append,ih]
theorem QhC:∀ s:List UInt8,List.replicate (s.takeWhile (·==94)).length 94=s.takeWhile (·==94)
 | []=>rfl
 | c::s=>by
   by_cases hc:c=94
   ·subst hc;rw [List.takeWhile_cons,if_pos (show ((94:UInt8)==94)=true from rfl),List.length_cons,List.replicate_succ,QhC s]
   ·rw [List.takeWhile_cons,if_neg (by simpa using hc)];rfl
theorem QrT (r:List UInt8):QbK (if r=[] then [] else QaM r)=r:=by
 by_cases h:r=[]
 ·rw [if_pos h,h,Qd5]
 ·rw [if_neg h,QiC]
theorem Qni {s:List UInt8} (h:QaY s=true):QdR (QaO s) (Qbm s) (QaF s)=s:=by
 unfold QdR;rw [if_pos (by exact h)];unfold QjV QaF;rw [QrT];cases hr:QaO s with
 | true =>
   unfold Qby
   rw [hr,if_pos rfl,if_pos rfl];cases s with
   | nil=>cases hr
   | cons c t =>
     unfold QaO at hr;rw [Qdz] at hr;rw [<- beq_iff_eq.1 hr]<;>rfl
 | false =>
   unfold Qbm Qby
   rw [hr];simp only [Bool.false_eq_true,if_false,Int.toNat_natCast];rw [QhC,List.takeWhile_append_dropWhile]
end
section
open Go.RowKit
attribute [local go_sem] ByteArray.mk_append_mk Qac Qad Qae
theorem Qu7 (op:Int) (w:World):Calls Tryz.prog 53 #[.int .u8 110,.int .i64 op] w fun e w'=>e = .returned (.bool (Qar 110 op))/\w=w':=by
 rw [show Qar 110 op=(op==3) from rfl];go_enter Tryz.func53,Tryz.ntmps53;go_wp2_with fail
 all_goals
  go_ret;exact ⟨by first|(simp [*];done)|(refine QbA ?_;rw [Bool.eq_iff_iff];simp only [Bool.or_eq_true,Bool.and_eq_true,Bool.not_eq_true',Bool.or_eq_false_iff,beq_iff_eq,bne_iff_ne,decide_eq_true_eq,beq_eq_false_iff_ne,ne_eq,Bool.true_eq_false,Bool.false_eq_true,false_and,and_false,true_and,and_true,false_or,or_false,true_or,or_true,iff_true,true_iff,iff_false,false_iff];omega),rfl⟩
theorem Qu8 (op:Int) (w:World):Calls Tryz.prog 53 #[.int .u8 115,.int .i64 op] w fun e w'=>e = .returned (.bool (Qar 115 op))/\w=w':=by
 rw [show Qar 115 op=(op==3) from rfl];go_enter Tryz.func53,Tryz.ntmps53;go_wp2_with fail
 all_goals
  go_ret;exact ⟨by first|(simp [*];done)|(refine QbA ?_;rw [Bool.eq_iff_iff];simp only [Bool.or_eq_true,Bool.and_eq_true,Bool.not_eq_true',Bool.or_eq_false_iff,beq_iff_eq,bne_iff_ne,decide_eq_true_eq,beq_eq_false_iff_ne,ne_eq,Bool.true_eq_false,Bool.false_eq_true,false_and,and_false,true_and,and_true,false_or,or_false,true_or,or_true,iff_true,true_iff,iff_false,false_iff];omega),rfl⟩
theorem Qu9 (op:Int) (w:World):Calls Tryz.prog 53 #[.int .u8 105,.int .i64 op] w fun e w'=>e = .returned (.bool (Qar 105 op))/\w=w':=by
 rw [show Qar 105 op=(op==1) from rfl];go_enter Tryz.func53,Tryz.ntmps53;go_wp2_with fail
 all_goals
  go_ret;exact ⟨by first|(simp [*];done)|(refine QbA ?_;rw [Bool.eq_iff_iff];simp only [Bool.or_eq_true,Bool.and_eq_true,Bool.not_eq_true',Bool.or_eq_false_iff,beq_iff_eq,bne_iff_ne,decide_eq_true_eq,beq_eq_false_iff_ne,ne_eq,Bool.true_eq_false,Bool.false_eq_true,false_and,and_false,true_and,and_true,false_or,or_false,true_or,or_true,iff_true,true_iff,iff_false,false_iff];omega),rfl⟩
theorem Qwp (op:Int) (w:World):Calls Tryz.prog 53 #[.int .u8 73,.int .i64 op] w fun e w'=>e = .returned (.bool (Qar 73 op))/\w=w':=by
 rw [show Qar 73 op=(op==1) from rfl];go_enter Tryz.func53,Tryz.ntmps53;go_wp2_with fail
 all_goals
  go_ret;exact ⟨by first|(simp [*];done)|(refine QbA ?_;rw [Bool.eq_iff_iff];simp only [Bool.or_eq_true,Bool.and_eq_true,Bool.not_eq_true',Bool.or_eq_false_iff,beq_iff_eq,bne_iff_ne,decide_eq_true_eq,beq_eq_false_iff_ne,ne_eq,Bool.true_eq_false,Bool.false_eq_true,false_and,and_false,true_and,and_true,false_or,or_false,true_or,or_true,iff_true,true_iff,iff_false,false_iff];omega),rfl⟩
theorem Qva (op:Int) (w:World):Calls Tryz.prog 53 #[.int .u8 100,.int .i64 op] w fun e w'=>e = .returned (.bool (Qar 100 op))/\w=w':=by
 rw [show Qar 100 op=(op==1||op==2||op==50||op==51) from rfl];go_enter Tryz.func53,Tryz.ntmps53;go_wp2_with fail
 all_goals
  go_ret;exact ⟨by first|(simp [*];done)|(refine QbA ?_;rw [Bool.eq_iff_iff];simp only [Bool.or_eq_true,Bool.and_eq_true,Bool.not_eq_true',Bool.or_eq_false_iff,beq_iff_eq,bne_iff_ne,decide_eq_true_eq,beq_eq_false_iff_ne,ne_eq,Bool.true_eq_false,Bool.false_eq_true,false_and,and_false,true_and,and_true,false_or,or_false,true_or,or_true,iff_true,true_iff,iff_false,false_iff];omega),rfl⟩
theorem Qwq (op:Int) (w:World):Calls Tryz.prog 53 #[.int .u8 80,.int .i64 op] w fun e w'=>e = .returned (.bool (Qar 80 op))/\w=w':=by
 rw [show Qar 80 op=((op==1||op==2||op==50||op==51)||op==3) from rfl];go_enter Tryz.func53,Tryz.ntmps53;go_wp2_with fail
 all_goals
  go_ret;exact ⟨by first|(simp [*];done)|(refine QbA ?_;rw [Bool.eq_iff_iff];simp only [Bool.or_eq_true,Bool.and_eq_true,Bool.not_eq_true',Bool.or_eq_false_iff,beq_iff_eq,bne_iff_ne,decide_eq_true_eq,beq_eq_false_iff_ne,ne_eq,Bool.true_eq_false,Bool.false_eq_true,false_and,and_false,true_and,and_true,false_or,or_false,true_or,or_true,iff_true,true_iff,iff_false,false_iff];omega),rfl⟩
theorem Qwr (op:Int) (w:World):Calls Tryz.prog 53 #[.int .u8 68,.int .i64 op] w fun e w'=>e = .returned (.bool (Qar 68 op))/\w=w':=by
 rw [show Qar 68 op=(decide (10<=op)&&decide (op<=21)&&!(op==18||op==19)) from rfl];go_enter Tryz.func53,Tryz.ntmps53;go_wp2_with fail
 all_goals
  go_ret;exact ⟨by first|(simp [*];done)|(refine QbA ?_;rw [Bool.eq_iff_iff];simp only [Bool.or_eq_true,Bool.and_eq_true,Bool.not_eq_true',Bool.or_eq_false_iff,beq_iff_eq,bne_iff_ne,decide_eq_true_eq,beq_eq_false_iff_ne,ne_eq,Bool.true_eq_false,Bool.false_eq_true,false_and,and_false,true_and,and_true,false_or,or_false,true_or,or_true,iff_true,true_iff,iff_false,false_iff];omega),rfl⟩
theorem Qws (op:Int) (w:World):Calls Tryz.prog 53 #[.int .u8 70,.int .i64 op] w fun e w'=>e = .returned (.bool (Qar 70 op))/\w=w':=by
 rw [show Qar 70 op=(op==18||op==19) from rfl];go_enter Tryz.func53,Tryz.ntmps53;go_wp2_with fail
 all_goals
  go_ret;exact ⟨by first|(simp [*];done)|(refine QbA ?_;rw [Bool.eq_iff_iff];simp only [Bool.or_eq_true,Bool.and_eq_true,Bool.not_eq_true',Bool.or_eq_false_iff,beq_iff_eq,bne_iff_ne,decide_eq_true_eq,beq_eq_false_iff_ne,ne_eq,Bool.true_eq_false,Bool.false_eq_true,false_and,and_false,true_and,and_true,false_or,or_false,true_or,or_true,iff_true,true_iff,iff_false,false_iff];omega),rfl⟩
theorem Qwt (op:Int) (w:World):Calls Tryz.prog 53 #[.int .u8 83,.int .i64 op] w fun e w'=>e = .returned (.bool (Qar 83 op))/\w=w':=by
 rw [show Qar 83 op=((decide (30<=op)&&decide (op<=42))||op==5) from rfl];go_enter Tryz.func53,Tryz.ntmps53;go_wp2_with fail
 all_goals
  go_ret;exact ⟨by first|(simp [*];done)|(refine QbA ?_;rw [Bool.eq_iff_iff];simp only [Bool.or_eq_true,Bool.and_eq_true,Bool.not_eq_true',Bool.or_eq_false_iff,beq_iff_eq,bne_iff_ne,decide_eq_true_eq,beq_eq_false_iff_ne,ne_eq,Bool.true_eq_false,Bool.false_eq_true,false_and,and_false,true_and,and_true,false_or,or_false,true_or,or_true,iff_true,true_iff,iff_false,false_iff];omega),rfl⟩
theorem Qvb (op:Int) (w:World):Calls Tryz.prog 53 #[.int .u8 116,.int .i64 op] w fun e w'=>e = .returned (.bool (Qar 116 op))/\w=w':=by
 rw [show Qar 116 op=(op==3||op==6||op==7||op==76||op==84) from rfl];go_enter Tryz.func53,Tryz.ntmps53;go_wp2_with fail
 all_goals
  go_ret;exact ⟨by first|(simp [*];done)|(refine QbA ?_;rw [Bool.eq_iff_iff];simp only [Bool.or_eq_true,Bool.and_eq_true,Bool.not_eq_true',Bool.or_eq_false_iff,beq_iff_eq,bne_iff_ne,decide_eq_true_eq,beq_eq_false_iff_ne,ne_eq,Bool.true_eq_false,Bool.false_eq_true,false_and,and_false,true_and,and_true,false_or,or_false,true_or,or_true,iff_true,true_iff,iff_false,false_iff];omega),rfl⟩
theorem Qvc (op:Int) (w:World):Calls Tryz.prog 53 #[.int .u8 101,.int .i64 op] w fun e w'=>e = .returned (.bool (Qar 101 op))/\w=w':=by
 rw [show Qar 101 op=(op==3||op==5||op==6||op==7||op==41||op==42||(op==1||op==2||op==50||op==51)||(decide (60<=op)&&decide (op<=88))) from rfl];go_enter Tryz.func53,Tryz.ntmps53;go_wp2_with fail
 all_goals
  go_ret;exact ⟨by first|(simp [*];done)|(refine QbA ?_;rw [Bool.eq_iff_iff];simp only [Bool.or_eq_true,Bool.and_eq_true,Bool.not_eq_true',Bool.or_eq_false_iff,beq_iff_eq,bne_iff_ne,decide_eq_true_eq,beq_eq_false_iff_ne,ne_eq,Bool.true_eq_false,Bool.false_eq_true,false_and,and_false,true_and,and_true,false_or,or_false,true_or,or_true,iff_true,true_iff,iff_false,false_iff];omega),rfl⟩
theorem Qts (k:UInt8) (op:Int) (w:World) (h110:k≠110) (h115:k≠115) (h105:k≠105) (h73:k≠73) (h100:k≠100) (h80:k≠80) (h68:k≠68) (h70:k≠70) (h83:k≠83) (h116:k≠116) (h101:k≠101):Calls Tryz.prog 53 #[.int .u8 k.toNat,.int .i64 op] w fun e w'=>e = .returned (.bool false)/\w=w':=by
 have e110:((k.toNat:Int)==110)=false:=(Qao k 110).trans (Zd h110);have e115:((k.toNat:Int)==115)=false:=(Qao k 115).trans (Zd h115);have e105:((k.toNat:Int)==105)=false:=(Qao k 105).trans (Zd h105);have e73:((k.toNat:Int)==73)=false:=(Qao k 73).trans (Zd h73);have e100:((k.toNat:Int)==100)=false:=(Qao k 100).trans (Zd h100);have e80:((k.toNat:Int)==80)=false:=(Qao k 80).trans (Zd h80);have e68:((k.toNat:Int)==68)=false:=(Qao k 68).trans (Zd h68);have e70:((k.toNat:Int)==70)=false:=(Qao k 70).trans (Zd h70);have e83:((k.toNat:Int)==83)=false:=(Qao k 83).trans (Zd h83);have e116:((k.toNat:Int)==116)=false:=(Qao k 116).trans (Zd h116);have e101:((k.toNat:Int)==101)=false:=(Qao k 101).trans (Zd h101);clear h110 h115 h105 h73 h100 h80 h68 h70 h83 h116 h101;go_enter Tryz.func53,Tryz.ntmps53;go_wp2_with fail
 all_goals
  go_ret;exact ⟨rfl,rfl⟩
theorem Qvd (k:UInt8) (op:Int) (w:World):Calls Tryz.prog 53 #[.int .u8 k.toNat,.int .i64 op] w fun e w'=>e = .returned (.bool (Qar k op))/\w=w':=by
 by_cases h110:k=110
 ·subst h110;exact Qu7 op w
 by_cases h115:k=115
 ·subst h115;exact Qu8 op w
 by_cases h105:k=105
 ·subst h105;exact Qu9 op w
 by_cases h73:k=73
 ·subst h73;exact Qwp op w
 by_cases h100:k=100
 ·subst h100;exact Qva op w
 by_cases h80:k=80
 ·subst h80;exact Qwq op w
 by_cases h68:k=68
 ·subst h68;exact Qwr op w
 by_cases h70:k=70
 ·subst h70;exact Qws op w
 by_cases h83:k=83
 ·subst h83;exact Qwt op w
 by_cases h116:k=116
 ·subst h116;exact Qvb op w
 by_cases h101:k=101
 ·subst h101;exact Qvc op w
 have e:Qar k op=false:=by unfold Qar;simp only [h110,h115,h105,h73,h100,h80,h68,h70,h83,h116,h101,or_self,if_false]
 rw [e];exact Qts k op w h110 h115 h105 h73 h100 h80 h68 h70 h83 h116 h101
theorem Qi5 (k:UInt8) (op:Int) (b:Bool) (H:Hid (Qar k op=b)) (w:World):Calls Tryz.prog 53 #[.int .u8 k.toNat,.int .i64 op] w fun e w'=>e = .returned (.bool b)/\w=w':=by
 have:=Qvd k op w;rw [H.out] at this;exact this
theorem Qtt (k:UInt8) (w:World):Calls Tryz.prog 64 #[.int .u8 k.toNat] w fun e w'=>e = .returned (.bool (Qhv k))/\w=w':=by
 have h1:=Qao k 68;have h2:=Qao k 83;have h3:=Qao k 70;have h4:=Qao k 73;have h5:=Qao k 80;unfold Qhv;rw [<- h1,<- h2,<- h3,<- h4,<- h5];clear h1 h2 h3 h4 h5;go_enter Tryz.func64,Tryz.ntmps64;go_wp2_with fail
 all_goals
  go_ret;exact ⟨by simp [*],rfl⟩
theorem Qhf (k:UInt8) (b:Bool) (H:Hid (Qhv k=b)) (w:World):Calls Tryz.prog 64 #[.int .u8 k.toNat] w fun e w'=>e = .returned (.bool b)/\w=w':=by
 have:=Qtt k w;rw [H.out] at this;exact this
theorem Qh0 (s:List UInt8) (b:Bool) (H:Hid (Qa2 s=b)) (w:World) (hs:s.length<=9223372036854775000):Calls Tryz.prog 139 #[.string ⟨s.toArray⟩] w fun e w'=>e = .returned (.bool b)/\w=w':=by
 have HS:=Za (Qdy s b H w hs);go_enter Tryz.func139,Tryz.ntmps139;go_wp2_with fail;((with_reducible refine HS.out.mono ?_));rintro e w1 ⟨rfl,rfl⟩;go_wp2_with fail;go_ret;exact ⟨rfl,rfl⟩
theorem Qok (s word:List UInt8) (n:Int) (w:World) (hs:s.length<=1000000) (hw:word.length<=1000000) (h:s.length≠word.length+1) :
  Calls Tryz.prog 201 #[.string ⟨s.toArray⟩,.string ⟨word.toArray⟩,.int .i64 n] w fun e w'=>e = .returned (.int .i64 (Qgt s word n))/\w=w':=by
 rw [QpR h];have hn:((s.length:Int)==(word.length:Int)+1)=false:=by rw [beq_eq_false_iff_ne];omega
 go_enter Tryz.func201,Tryz.ntmps201;go_wp2_with fail;go_ret;exact ⟨rfl,rfl⟩
theorem Qnj (d word:List UInt8) (c:UInt8) (n:Int) (w:World) (hs:d.length<=1000000) (h:d.length=word.length) :
  Calls Tryz.prog 201 #[.string ⟨(d++[c]).toArray⟩,.string ⟨word.toArray⟩,.int .i64 n] w fun e w'=>e = .returned (.int .i64 (Qgt (d++[c]) word n))/\w=w':=by
 obtain ⟨X,hX⟩:∃ X,Hid (Qgt (d++[c]) word n=X):=⟨_,Za rfl⟩;rw [hX.out];rw [Qtq] at hX;obtain ⟨S,hS⟩:∃ S,d++[c]=S:=⟨_,rfl⟩;have hl:S.length=word.length+1:=by rw [<- hS];simp [h]
 have hg:∀ h:word.length<S.length,S[word.length]=c:=by intro h2;subst hS;simp [h]
 have ht:S.take word.length=d:=by rw [<- hS,<- h];simp
 have hle:word.length<=S.length:=by omega
 have hlt:(word.length:Int)<(S.length:Int):=by omega
 have hlen:((S.length:Int)==(word.length:Int)+1)=true:=by rw [beq_iff_eq];omega
 have hwl:word.length<=1000000:=by omega
 obtain ⟨b,hb⟩:∃ b,Hid (Qba c=b):=⟨_,Za rfl⟩;have HD:=Za (fun w=>Qfd c b hb w);rw [hS];have hc:=c.toNat_lt;clear hS hl;by_cases hd:d=word
 ·have hdd:(d==word)=true:=by rw [hd];exact beq_self_eq_true _
  cases b with
  | false =>
    have HX:Hid (X = -1):=Za (by
     rw [<- hX.out];have:=hb.out;unfold Qba at this;rw [decide_eq_false_iff_not] at this;exact if_neg (fun e=>this ⟨e.2.1,e.2.2.1⟩))
    clear hX hd;go_enter Tryz.func201,Tryz.ntmps201;go_wp2_with (go_at_call 197;((with_reducible refine (HD.out _).mono ?_));rintro e w1 ⟨rfl,rfl⟩);go_ret;rw [HX.out];exact ⟨rfl,rfl⟩
  | true =>
    have hb2:=hb.out;unfold Qba at hb2;rw [decide_eq_true_eq] at hb2;have HB2:=Za hb2;have HDW:=Za hd;clear hb2 hd;go_enter Tryz.func201,Tryz.ntmps201;go_wp2_with (go_at_call 197;((with_reducible refine (HD.out _).mono ?_));rintro e w1 ⟨rfl,rfl⟩)
    all_goals
     go_ret
     rename_i hh
     have hm:((c.toNat:Int)-48) % 256=(c.toNat:Int)-48:=by
      have h1:=HB2.out.1;have h2:=HB2.out.2;omega
     rw [hm] at hh;refine ⟨?_,rfl⟩;rw [<- hX.out]
     first|exact congrArg (fun z=>Ending.returned (Value.int .i64 z)) (hm.trans (if_pos ⟨HDW.out,HB2.out.1,HB2.out.2,hh⟩).symm)|exact congrArg (fun z=>Ending.returned (Value.int .i64 z)) (if_neg (fun e=>absurd e.2.2.2 (by omega))).symm
 ·have hdd:(d==word)=false:=by rw [beq_eq_false_iff_ne];exact hd
  have HX:Hid (X = -1):=Za (by rw [<- hX.out];exact if_neg (fun e=>hd e.1));clear hX hd;go_enter Tryz.func201,Tryz.ntmps201;go_wp2_with fail;go_ret;rw [HX.out];exact ⟨rfl,rfl⟩
theorem QiD (s word:List UInt8) (n:Int) (w:World) (hs:s.length<=1000000) (hw:word.length<=1000) :
  Calls Tryz.prog 201 #[.string ⟨s.toArray⟩,.string ⟨word.toArray⟩,.int .i64 n] w fun e w'=>e = .returned (.int .i64 (Qgt s word n))/\w=w':=by
 by_cases h:s.length=word.length+1
 ·have hne:s≠[]:=by rintro rfl;simp at h
  have e:=(List.dropLast_concat_getLast hne).symm;have hl:s.dropLast.length=word.length:=by rw [List.length_dropLast];omega
  rw [e];exact Qnj s.dropLast word _ n w (by omega) hl
 ·exact Qok s word n w hs (by omega) h
end
section
open Go.RowKit
attribute [local go_sem] ByteArray.mk_append_mk Qac Qad Qae
abbrev Qve:Obj:=.cells #[.int .i64 10,.string ⟨#[83,99,111,112,101]⟩,.string ⟨#[110,68]⟩,.int .i64 11,.string ⟨#[68,101,118,105,99,101]⟩,.string ⟨#[115,68]⟩,.int .i64 12,.string ⟨#[80,111,119,101,114,82,101,115,111,117,114,99,101]⟩,.string ⟨#[115,105,105,68]⟩,.int .i64 13,.string ⟨#[78,97,109,101]⟩,.string ⟨#[115,100]⟩,.int .i64 14,.string ⟨#[77,101,116,104,111,100]⟩,.string ⟨#[115,105,105,105,83]⟩,.int .i64 15,.string ⟨#[79,112,101,114,97,116,105,111,110,82,101,103,105,111,110]⟩,.string ⟨#[115,105,105,105]⟩,.int .i64 16,.string ⟨#[70,105,101,108,100]⟩,.string ⟨#[110,105,105,70]⟩,.int .i64 17,.string ⟨#[73,110,100,101,120,70,105,101,108,100]⟩,.string ⟨#[110,110,105,105,70]⟩,.int .i64 18,.string ⟨#[85,110,105,116]⟩,.string ⟨#[115,105]⟩,.int .i64 19,.string ⟨#[83,107,105,112]⟩,.string ⟨#[105]⟩,.int .i64 20,.string ⟨#[77,117,116,101,120]⟩,.string ⟨#[115,105]⟩,.int .i64 21,.string ⟨#[69,118,101,110,116]⟩,.string ⟨#[115]⟩,.int .i64 30,.string ⟨#[83,116,111,114,101]⟩,.string ⟨#[101,116]⟩,.int .i64 31,.string ⟨#[73,102]⟩,.string ⟨#[101,83]⟩,.int .i64 32,.string ⟨#[87,104,105,108,101]⟩,.string ⟨#[101,83]⟩,.int .i64 33,.string ⟨#[82,101,116,117,114,110]⟩,.string ⟨#[]⟩,.int .i64 34,.string ⟨#[66,114,101,97,107]⟩,.string ⟨#[]⟩,.int .i64 35,.string ⟨#[67,111,110,116,105,110,117,101]⟩,.string ⟨#[]⟩,.int .i64 36,.string ⟨#[82,101,108,101,97,115,101]⟩,.string ⟨#[110]⟩,.int .i64 37,.string ⟨#[83,105,103,110,97,108]⟩,.string ⟨#[110]⟩,.int .i64 38,.string ⟨#[82,101,115,101,116]⟩,.string ⟨#[110]⟩,.int .i64 39,.string ⟨#[83,108,101,101,112]⟩,.string ⟨#[101]⟩,.int .i64 40,.string ⟨#[78,111,116,105,102,121]⟩,.string ⟨#[110,101]⟩,.int .i64 41,.string ⟨#[65,99,113,117,105,114,101]⟩,.string ⟨#[110,105]⟩,.int .i64 42,.string ⟨#[87,97,105,116]⟩,.string ⟨#[110,101]⟩,.int .i64 50,.string ⟨#[66,117,102,102,101,114]⟩,.string ⟨#[105,73]⟩,.int .i64 51,.string ⟨#[80,97,99,107,97,103,101]⟩,.string ⟨#[105,80]⟩,.int .i64 85,.string ⟨#[82,101,102,79,102]⟩,.string ⟨#[116]⟩,.int .i64 87,.string ⟨#[79,98,106,101,99,116,84,121,112,101]⟩,.string ⟨#[116]⟩,.int .i64 86,.string ⟨#[67,111,110,100,82,101,102,79,102]⟩,.string ⟨#[110]⟩,.int .i64 88,.string ⟨#[77,105,100]⟩,.string ⟨#[101,101,101]⟩] 102
abbrev QpT:Obj:=.cells #[.string ⟨#[65,100,100]⟩,.string ⟨#[83,117,98,116,114,97,99,116]⟩,.string ⟨#[77,117,108,116,105,112,108,121]⟩,.string ⟨#[68,105,118,105,100,101]⟩,.string ⟨#[77,111,100]⟩,.string ⟨#[65,110,100]⟩,.string ⟨#[79,114]⟩,.string ⟨#[88,111,114]⟩,.string ⟨#[83,104,105,102,116,76,101,102,116]⟩,.string ⟨#[83,104,105,102,116,82,105,103,104,116]⟩,.string ⟨#[76,65,110,100]⟩,.string ⟨#[76,79,114]⟩,.string ⟨#[76,69,113,117,97,108]⟩,.string ⟨#[76,76,101,115,115]⟩,.string ⟨#[76,71,114,101,97,116,101,114]⟩,.string ⟨#[67,111,110,99,97,116,101,110,97,116,101]⟩,.string ⟨#[73,110,100,101,120]⟩] 9
abbrev QpU:Obj:=.cells #[.string ⟨#[78,111,116]⟩,.string ⟨#[76,78,111,116]⟩,.string ⟨#[83,105,122,101,79,102]⟩,.string ⟨#[84,111,73,110,116,101,103,101,114]⟩,.string ⟨#[84,111,66,117,102,102,101,114]⟩,.string ⟨#[84,111,72,101,120,83,116,114,105,110,103]⟩,.string ⟨#[84,111,68,101,99,105,109,97,108,83,116,114,105,110,103]⟩,.string ⟨#[68,101,114,101,102,79,102]⟩] 9
def Qdm (a:Int) (x:List UInt8):List (List UInt8)->List Rw
 | []=>[]
 | t::r=>(a,t,x)::Qdm (a+1) x r
theorem Qvf:Qw2=Qdm 60 [101,101] two0:=by decide +kernel
theorem Qvg:Qw3=Qdm 77 [101] one0:=by decide +kernel
theorem QgR (x:List UInt8):∀ (l:List (List UInt8)) (a:Int),(Qdm a x l).length=l.length
 | [],a=>rfl
 | t::r,a=>by rw [Qdm,List.length_cons,QgR x r,List.length_cons]
theorem Qi6 (x:List UInt8):∀ (l:List (List UInt8)) (a:Int) (k:Nat) (h:k<l.length),Qdm a x (l.take (k+1))=Qdm a x (l.take k)++[(a+k,l[k],x)]
 | t::r,a,0,h=>by simp [Qdm]
 | t::r,a,k+1,h=>by
   rw [List.take_succ_cons,List.take_succ_cons,Qdm,Qdm,Qi6 x r (a+1) k (by simpa using h)];simp only [List.cons_append,List.getElem_cons_succ];rw [show a+1+(k:Int)=a+((k+1:Nat):Int) by omega]
theorem Qtu {w:World} {B:Nat} {v:Value} {l:List Rw} (h:RowsI w B v l) {b:Nat} {cs:Array Value} (hb:w.heap[b]?=some (.cells cs 9 (0,0))):v.ownBlock≠some b:=by
 intro e;obtain ⟨cur,hc⟩:=QcB h e;rw [hb] at hc;injection hc with hc;injection hc with _ h2 _;exact absurd h2 (by decide)
theorem Qwu (k:Nat) (h:k<two0.length):(two0.map Qb4).toArray[k]?=some (Qb4 two0[k]):=by simp [h]
theorem Qwv (k:Nat) (h:k<one0.length):(one0.map Qb4).toArray[k]?=some (Qb4 one0[k]):=by simp [h]
set_option maxRecDepth 100000 in
theorem Qol (w:World):Calls Tryz.prog 112 #[] w fun e w'=>∃ v,e = .returned v/\RowsI w' w.heap.size v rowsL/\Below w.heap.size w w':=by
 obtain ⟨P,hP⟩:∃ P,w.heap.size=P:=⟨_,rfl⟩;have HPE:=Za hP;have HR0:Hid (RowsI (w.alloc Qve) P (.slice (some ⟨P,0,none⟩) 31 31) Qqs):=Za (by rw [<- hP];exact World.ownsRow_lit w (rcI Qqs).toArray 31 Zc (by unfold maxLen;omega) rfl);have HB0:Hid (Below P w (w.alloc Qve)):=Za (Zb.alloc (by omega) _);have hs0:P<=(w.alloc Qve).heap.size:=by have:=HB0.out.size;omega
 rw [hP];go_enter Tryz.func112,Tryz.ntmps112;go_upto_region 2 with fail;(try simp only [hP]);generalize w.alloc Qve=W1 at *;obtain ⟨r0,hr0⟩:∃ z,Qqs=z:=⟨_,rfl⟩;have HR0E:=Za hr0;rw [hr0] at HR0;have hl0:r0.length=31:=by rw [<- hr0];rfl
 clear hr0 hP;have HT8:Hid ((W1.alloc QpT).heap[W1.heap.size]?=some QpT):=Za (heap_alloc_new _ _);have HR8:=Za (HR0.out.below (Zb.alloc Zc QpT));have HB8:Hid (Below P w (W1.alloc QpT)):=Za (HB0.out.alloc hs0 _);have hs8:P<=(W1.alloc QpT).heap.size:=by have:=HB8.out.size;have:=HPE.out;omega
 go_upto_region 3 with fail;obtain ⟨G,hG⟩:∃ G,W1.heap.size=G:=⟨_,rfl⟩;rw [hG] at HT8;(try simp only [hG]);generalize W1.alloc QpT=V8 at *;clear hG;go_wp2_with fail;go_loopw [1,3] (fun x i wr=>∃ (v:Value) (k:Nat),v=x/\i = .int .i64 k/\k<=17/\Hid (RowsI wr P v (r0++Qdm 60 [101,101] (two0.take k)))/\Hid (wr.heap[G]?=some QpT)/\Hid (Below P w wr)) (fun _ i _=>17-(intOf i).toNat)
 case atStart=>exact ⟨_,0,rfl,rfl,by omega,by rw [List.take_zero,Qdm,List.append_nil];exact HR8,HT8,HB8⟩
 case round =>
  clear HR8 HT8 HB8;obtain ⟨v,k,rfl,rfl,hk,HR,HT,HB⟩:=hrel;obtain ⟨w3,rfl⟩:∃ y:World,y=wr:=⟨_,rfl⟩;by_cases hlt:k<17
  ·have hlt':(k:Int)<17:=by omega
   have hkl:k<two0.length:=hlt;have HTK:=Za (Qi6 [101,101] two0 60 k hkl);obtain ⟨t,ht⟩:∃ t,two0[k]=t:=⟨_,rfl⟩;have hc:w3.cell? ⟨G,k,none⟩=some (.string ⟨t.toArray⟩):=by
    rw [cell_of_row w3 G k _ _ (0,0) HT.out,<- ht];exact Qwu k hkl
   rw [ht] at HTK;obtain ⟨l,hl⟩:∃ l,r0++Qdm 60 [101,101] (two0.take k)=l:=⟨_,rfl⟩;have HLL:Hid (l++[(60+(k:Int),t,[101,101])]=r0++Qdm 60 [101,101] (two0.take (k+1))):=Za (by rw [HTK.out,<- hl,List.append_assoc]);have hpl:r0.length<=100:=by first|omega|(rw [List.length_append,hl0,QgR];decide)
   have hll : l.length ≤ 1000 := by rw [← hl, List.length_append, QgR, List.length_take]; have : two0.length ≤ 100 := by decide
                                    omega
   rw [hl] at HR;have HNN:Hid ((w3.alloc (QbN (60+(k:Int)) t [101,101])).heap[w3.heap.size]?=some (QbN (60+(k:Int)) t [101,101])):=Za (heap_alloc_new _ _);have HR4:=Za (HR.out.below (Zb.alloc Zc (QbN (60+(k:Int)) t [101,101])));have HT4:=Za (Qab HT.out (Zb.alloc Zc (QbN (60+(k:Int)) t [101,101])));have hsz3:P<=w3.heap.size:=by have:=HB.out.size;have:=HPE.out;omega
   have HB4:Hid (Below P w (w3.alloc (QbN (60+(k:Int)) t [101,101]))):=Za (HB.out.alloc hsz3 _);have hsz4:P<=(w3.alloc (QbN (60+(k:Int)) t [101,101])).heap.size:=by have:=HB4.out.size;have:=HPE.out;omega
   clear hl ht HTK HR HT;go_wp2_with (at_builtin;refine QeO rfl _ _ rfl P _ l rfl HR4.out w3.heap.size (60+(k:Int),t,[101,101]) rfl HNN.out (by omega) hsz4 ?_;intro v2 w2 ho hg;have HO:=Za ho;have HG:=Za hg;clear ho hg);have HT5:=Za ((HG.out.block G (lt_of_block HT4.out) (fun e=>Qtu HR4.out HT4.out e.symm)).trans HT4.out);have HB5:Hid (Below P w w2):=Za (HB4.out.grown HG.out hsz4 (fun j hj=>Qap HR4.out hj));rw [HLL.out] at HO;clear hc HNN HR4 HT4 HB4 HG;go_wp2_with fail;go_roundw
   case rel=>first|exact ⟨k+1,by go_num,by omega,HO,HT5,HB5⟩|exact ⟨_,k+1,rfl,by go_num,by omega,HO,HT5,HB5⟩
   case measure=>simp [intOf];omega
  ·have hkN:k=17:=by omega
   have hlt':¬ (k:Int)<17:=by omega
   have HRX:Hid (RowsI w3 P v (r0++Qdm 60 [101,101] two0)):=by rw [hkN,show two0.take 17=two0 from rfl] at HR;exact HR
   have hs3:P<=w3.heap.size:=by have:=HB.out.size;have:=HPE.out;omega
   clear HR HT hlt hk hkN;have HT9:Hid ((w3.alloc QpU).heap[w3.heap.size]?=some QpU):=Za (heap_alloc_new _ _);have HR9:=Za (HRX.out.below (Zb.alloc Zc QpU));have HB9:Hid (Below P w (w3.alloc QpU)):=Za (HB.out.alloc hs3 _);have hs9:P<=(w3.alloc QpU).heap.size:=by have:=HB9.out.size;have:=HPE.out;omega
   go_upto_region 8 with fail;obtain ⟨H,hG⟩:∃ H,w3.heap.size=H:=⟨_,rfl⟩;rw [hG] at HT9;(try simp only [hG]);generalize w3.alloc QpU=V9 at *;clear hG;go_wp2_with fail;go_loopw [1,5] (fun x i wr=>∃ (v:Value) (k:Nat),v=x/\i = .int .i64 k/\k<=8/\Hid (RowsI wr P v ((r0++Qdm 60 [101,101] two0)++Qdm 77 [101] (one0.take k)))/\Hid (wr.heap[H]?=some QpU)/\Hid (Below P w wr)) (fun _ i _=>8-(intOf i).toNat)
   case atStart=>exact ⟨_,0,rfl,rfl,by omega,by rw [List.take_zero,Qdm,List.append_nil];exact HR9,HT9,HB9⟩
   case round =>
    clear HR9 HT9 HB9;obtain ⟨v,k,rfl,rfl,hk,HR,HT,HB⟩:=hrel;obtain ⟨w4,rfl⟩:∃ y:World,y=wr:=⟨_,rfl⟩;by_cases hlt:k<8
    ·have hlt':(k:Int)<8:=by omega
     have hkl:k<one0.length:=hlt;have HTK:=Za (Qi6 [101] one0 77 k hkl);obtain ⟨t,ht⟩:∃ t,one0[k]=t:=⟨_,rfl⟩;have hc:w4.cell? ⟨H,k,none⟩=some (.string ⟨t.toArray⟩):=by
      rw [cell_of_row w4 H k _ _ (0,0) HT.out,<- ht];exact Qwv k hkl
     rw [ht] at HTK;obtain ⟨l,hl⟩:∃ l,(r0++Qdm 60 [101,101] two0)++Qdm 77 [101] (one0.take k)=l:=⟨_,rfl⟩;have HLL:Hid (l++[(77+(k:Int),t,[101])]=(r0++Qdm 60 [101,101] two0)++Qdm 77 [101] (one0.take (k+1))):=Za (by rw [HTK.out,<- hl,List.append_assoc]);have hpl:(r0++Qdm 60 [101,101] two0).length<=100:=by first|omega|(rw [List.length_append,hl0,QgR];decide)
     have hll : l.length ≤ 1000 := by rw [← hl, List.length_append, QgR, List.length_take]; have : one0.length ≤ 100 := by decide
                                      omega
     rw [hl] at HR;have HNN:Hid ((w4.alloc (QbN (77+(k:Int)) t [101])).heap[w4.heap.size]?=some (QbN (77+(k:Int)) t [101])):=Za (heap_alloc_new _ _);have HR4:=Za (HR.out.below (Zb.alloc Zc (QbN (77+(k:Int)) t [101])));have HT4:=Za (Qab HT.out (Zb.alloc Zc (QbN (77+(k:Int)) t [101])));have hsz3:P<=w4.heap.size:=by have:=HB.out.size;have:=HPE.out;omega
     have HB4:Hid (Below P w (w4.alloc (QbN (77+(k:Int)) t [101]))):=Za (HB.out.alloc hsz3 _);have hsz4:P<=(w4.alloc (QbN (77+(k:Int)) t [101])).heap.size:=by have:=HB4.out.size;have:=HPE.out;omega
     clear hl ht HTK HR HT;go_wp2_with (at_builtin;refine QeO rfl _ _ rfl P _ l rfl HR4.out w4.heap.size (77+(k:Int),t,[101]) rfl HNN.out (by omega) hsz4 ?_;intro v2 w2 ho hg;have HO:=Za ho;have HG:=Za hg;clear ho hg);have HT5:=Za ((HG.out.block H (lt_of_block HT4.out) (fun e=>Qtu HR4.out HT4.out e.symm)).trans HT4.out);have HB5:Hid (Below P w w2):=Za (HB4.out.grown HG.out hsz4 (fun j hj=>Qap HR4.out hj));rw [HLL.out] at HO;clear hc HNN HR4 HT4 HB4 HG;go_wp2_with fail;go_roundw
     case rel=>first|exact ⟨k+1,by go_num,by omega,HO,HT5,HB5⟩|exact ⟨_,k+1,rfl,by go_num,by omega,HO,HT5,HB5⟩
     case measure=>simp [intOf];omega
    ·have hkN:k=8:=by omega
     have hlt':¬ (k:Int)<8:=by omega
     have HRX:Hid (RowsI w4 P v ((r0++Qdm 60 [101,101] two0)++Qdm 77 [101] one0)):=by rw [hkN,show one0.take 8=one0 from rfl] at HR;exact HR
     have hs3:P<=w4.heap.size:=by have:=HB.out.size;have:=HPE.out;omega
     clear HR HT hlt hk hkN;go_wp2_with fail;go_ret;exact ⟨_,rfl,by rw [show rowsL=r0++Qdm 60 [101,101] two0++Qdm 77 [101] one0 from by rw [<- HR0E.out,<- Qvf,<- Qvg];rfl];exact HRX.out,HB.out⟩
abbrev rwV (t:Rw):Value:=.agg #[.int .i64 t.1,.string ⟨t.2.1.toArray⟩,.string ⟨t.2.2.toArray⟩]
theorem Qi7:rowsL.length=56:=by decide
theorem QjF {w:World} {B:Nat} {v:Value} (h:RowsI w B v rowsL):∃ g c,v = .slice (some ⟨g,0,none⟩) 56 c /\ 
  ∀ i (h:i<rowsL.length),w.cell? ⟨g,i * 3,none⟩=some (.int .i64 rowsL[i].1)/\w.cell? ⟨g,i * 3+1,none⟩=some (.string ⟨rowsL[i].2.1.toArray⟩)/\w.cell? ⟨g,i * 3+2,none⟩=some (.string ⟨rowsL[i].2.2.toArray⟩):=by
 obtain ⟨g,c,h1,_,_,h4⟩:=h.cells (by decide);rw [Qi7] at h1;exact ⟨g,c,h1,h4⟩
theorem Qmu (p:Rw->Bool) (k:Nat) (h:k<rowsL.length):(rowsL.drop k).find? p=if p rowsL[k]=true then some rowsL[k] else (rowsL.drop (k+1)).find? p:=by
 rw [List.drop_eq_getElem_cons h,List.find?_cons];cases p rowsL[k]<;>rfl
theorem Qmv (tmps:Array Value) (w:World) (b:Nat) (c0 c1 c2:Value) (h2:tmps.getD 2 undef = .pointer (some ⟨b,0,none⟩)) (hb:w.heap[b]?=some (.cells #[c0,c1,c2] 102 (0,0))) :
  (results Tryz.f63 tmps).run Tryz.prog w = .ok (.tuple #[.agg #[c0,c1,c2],tmps.getD 3 undef]) w:=by
 obtain ⟨e0,e1,e2⟩:=Qa4 hb;have h2':tmps[2]?.getD undef = .pointer (some ⟨b,0,none⟩):=by rw [<- h2];simp
 simp [results];go_simp
set_option maxRecDepth 100000 in
theorem Qmw (op:Int) (w:World):Calls Tryz.prog 63 #[.int .i64 op] w fun e w'=>e = .returned (.tuple #[rwV (QgP (Qk3 op)),.bool (Qk3 op).isSome])/\Below w.heap.size w w':=by
 obtain ⟨X,hX⟩:∃ X,Hid (Qk3 op=X):=⟨_,Za rfl⟩;have HX0:Hid ((rowsL.drop 0).find? (fun t=>t.1==op)=X):=Za (by rw [<- hX.out]<;>rfl);rw [hX.out];have HB0:Hid (Below w.heap.size w (w.alloc (QbN 0 [] []))):=Za (Zb.alloc Zc _);have HE0:Hid ((w.alloc (QbN 0 [] [])).heap[w.heap.size]?=some (QbN 0 [] [])):=Za (heap_alloc_new _ _);obtain ⟨P,hP⟩:∃ P,w.heap.size=P:=⟨_,rfl⟩;have HPE:=Za hP;go_enter Tryz.func63,Tryz.ntmps63;go_upto_region 1 with fail;(try simp only [hP]);rw [hP] at HB0 HE0;generalize w.alloc (QbN 0 [] [])=W0 at *;have HRW:=Za (Qol W0);clear hP;go_wp2_with fail;((with_reducible refine HRW.out.mono ?_));rintro e w1 ⟨v,rfl,hr,hb1⟩;have HB1:Hid (Below P w w1):=Za (Qah HB0.out (by have:=HPE.out;omega) hb1);have HE1:=Za (Qab HE0.out hb1);obtain ⟨g,c,rfl,hcell⟩:=QjF hr;have HC:=Za hcell;clear hr hb1 hcell HB0 HE0 HRW;go_wp2_with fail;go_loopw [5] (fun i wr=>∃ k:Nat,i = .int .i64 k/\k<=56/\Hid ((rowsL.drop k).find? (fun t=>t.1==op)=X)/\w1=wr) (fun i _=>56-(intOf i).toNat)
 case atStart=>exact ⟨0,rfl,by omega,HX0,rfl⟩
 case round =>
  clear HX0;obtain ⟨k,rfl,hk,HX,rfl⟩:=hrel;obtain ⟨w3,rfl⟩:∃ y:World,y=w1:=⟨_,rfl⟩;have f0:=Qay HE1.out 0;have f1:=Qay HE1.out 1;have f2:=Qay HE1.out 2;obtain ⟨e0,e1,e2⟩:=Qa4 HE1.out;by_cases hlt:k<56
  ·have hlt':(k:Int)<56:=by omega
   have hkl:k<rowsL.length:=by rw [Qi7];exact hlt
   obtain ⟨c0,c1,c2⟩:=HC.out k hkl;have HXS:=Za (Qmu (fun t=>t.1==op) k hkl);obtain ⟨t,ht⟩:∃ t,rowsL[k]=t:=⟨_,rfl⟩;rw [ht] at HXS c0 c1 c2;rw [HX.out] at HXS;obtain ⟨ta,tb,tc⟩:=t;simp only at c0 c1 c2;have HE9:=Za (HE1.out);clear ht HX;cases htest:(ta==op) with
   | true =>
     have HX2:Hid (X=some (ta,tb,tc)):=Za (by rw [HXS.out,if_pos htest]);go_wp2_with fail;exact bodyPost_ret (Qmv _ _ _ _ _ _ rfl (QjT HE1.out _ _ _)) rfl ⟨by rw [HX2.out];rfl,by rw [HPE.out];exact QjU HB1.out Zc _ _ _⟩
   | false =>
     have HX2:Hid ((rowsL.drop (k+1)).find? (fun t=>t.1==op)=X):=Za (by rw [HXS.out,if_neg (by rw [htest];decide)]);clear HXS e0 e1 e2 f0 f1 f2;go_wp2_with fail;go_roundw
     case rel=>exact ⟨k+1,by go_num,by omega,HX2,by trivial⟩
     case measure=>simp [intOf];omega
  ·obtain rfl:k=56:=by omega
   have HX2:Hid (X=none):=Za (by rw [<- HX.out]<;>rfl);clear HX;go_wp2_with fail;exact bodyPost_ret (Qmv _ _ _ _ _ _ rfl (QjT HE1.out _ _ _)) rfl ⟨by rw [HX2.out];rfl,by rw [HPE.out];exact QjU HB1.out Zc _ _ _⟩
theorem Qk5 (tmps:Array Value) (w:World) (b:Nat) (c0 c1 c2:Value) (h2:tmps.getD 2 undef = .pointer (some ⟨b,0,none⟩)) (hb:w.heap[b]?=some (.cells #[c0,c1,c2] 102 (0,0))) :
  (results Tryz.f202 tmps).run Tryz.prog w = .ok (.tuple #[.agg #[c0,c1,c2],tmps.getD 3 undef]) w:=by
 obtain ⟨e0,e1,e2⟩:=Qa4 hb;have h2':tmps[2]?.getD undef = .pointer (some ⟨b,0,none⟩):=by rw [<- h2];simp
 simp [results];go_simp
set_option maxRecDepth 100000 in
theorem QpV (s:List UInt8) (w:World) (hs:s.length<=1000000):Calls Tryz.prog 202 #[.string ⟨s.toArray⟩] w fun e w'=>e = .returned (.tuple #[rwV (QgP (QiB s)),.bool (QiB s).isSome])/\Below w.heap.size w w':=by
 obtain ⟨X,hX⟩:∃ X,Hid (QiB s=X):=⟨_,Za rfl⟩;have HX0:Hid ((rowsL.drop 0).find? (fun t=>t.2.1==s)=X):=Za (by rw [<- hX.out]<;>rfl);rw [hX.out];have HB0:Hid (Below w.heap.size w (w.alloc (QbN 0 [] []))):=Za (Zb.alloc Zc _);have HE0:Hid ((w.alloc (QbN 0 [] [])).heap[w.heap.size]?=some (QbN 0 [] [])):=Za (heap_alloc_new _ _);obtain ⟨P,hP⟩:∃ P,w.heap.size=P:=⟨_,rfl⟩;have HPE:=Za hP;go_enter Tryz.func202,Tryz.ntmps202;go_upto_region 1 with fail;(try simp only [hP]);rw [hP] at HB0 HE0;generalize w.alloc (QbN 0 [] [])=W0 at *;have HRW:=Za (Qol W0);clear hP;go_wp2_with fail;((with_reducible refine HRW.out.mono ?_));rintro e w1 ⟨v,rfl,hr,hb1⟩;have HB1:Hid (Below P w w1):=Za (Qah HB0.out (by have:=HPE.out;omega) hb1);have HE1:=Za (Qab HE0.out hb1);obtain ⟨g,c,rfl,hcell⟩:=QjF hr;have HC:=Za hcell;clear hr hb1 hcell HB0 HE0 HRW;go_wp2_with fail;go_loopw [5] (fun i wr=>∃ k:Nat,i = .int .i64 k/\k<=56/\Hid ((rowsL.drop k).find? (fun t=>t.2.1==s)=X)/\w1=wr) (fun i _=>56-(intOf i).toNat)
 case atStart=>exact ⟨0,rfl,by omega,HX0,rfl⟩
 case round =>
  clear HX0;obtain ⟨k,rfl,hk,HX,rfl⟩:=hrel;obtain ⟨w3,rfl⟩:∃ y:World,y=w1:=⟨_,rfl⟩;have f0:=Qay HE1.out 0;have f1:=Qay HE1.out 1;have f2:=Qay HE1.out 2;obtain ⟨e0,e1,e2⟩:=Qa4 HE1.out;by_cases hlt:k<56
  ·have hlt':(k:Int)<56:=by omega
   have hkl:k<rowsL.length:=by rw [Qi7];exact hlt
   obtain ⟨c0,c1,c2⟩:=HC.out k hkl;have HXS:=Za (Qmu (fun t=>t.2.1==s) k hkl);obtain ⟨t,ht⟩:∃ t,rowsL[k]=t:=⟨_,rfl⟩;rw [ht] at HXS c0 c1 c2;rw [HX.out] at HXS;obtain ⟨ta,tb,tc⟩:=t;simp only at c0 c1 c2;have HE9:=Za (HE1.out);clear ht HX;cases htest:(tb==s) with
   | true =>
     have HX2:Hid (X=some (ta,tb,tc)):=Za (by rw [HXS.out,if_pos htest]);go_wp2_with fail;exact bodyPost_ret (Qk5 _ _ _ _ _ _ rfl (QjT HE1.out _ _ _)) rfl ⟨by rw [HX2.out];rfl,by rw [HPE.out];exact QjU HB1.out Zc _ _ _⟩
   | false =>
     have HX2:Hid ((rowsL.drop (k+1)).find? (fun t=>t.2.1==s)=X):=Za (by rw [HXS.out,if_neg (by rw [htest];decide)]);clear HXS e0 e1 e2 f0 f1 f2;go_wp2_with fail;go_roundw
     case rel=>exact ⟨k+1,by go_num,by omega,HX2,by trivial⟩
     case measure=>simp [intOf];omega
  ·obtain rfl:k=56:=by omega
   have HX2:Hid (X=none):=Za (by rw [<- HX.out]<;>rfl);clear HX;go_wp2_with fail;exact bodyPost_ret (Qk5 _ _ _ _ _ _ rfl (QjT HE1.out _ _ _)) rfl ⟨by rw [HX2.out];rfl,by rw [HPE.out];exact QjU HB1.out Zc _ _ _⟩
end
end Go.Proofs.YtoohondkpddmcaaGreatDoor
