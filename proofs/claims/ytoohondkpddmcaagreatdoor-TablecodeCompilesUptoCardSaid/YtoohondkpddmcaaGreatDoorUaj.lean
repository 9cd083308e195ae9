/- Sc Sb Sd Se Tlc Tld Tlf Tlg Tkv -/
import Derived.Test.YtoohondkpddmcaaGreatDoorUzz
import Derived.Test.YtoohondkpddmcaaGreatDoorUai
import Derived.Test.YtoohondkpddmcaaGreatDoorUae
import Derived.Test.YtoohondkpddmcaaGreatDoorUah
import Derived.Test.YtoohondkpddmcaaGreatDoorUag
namespace Go.Proofs.YtoohondkpddmcaaGreatDoor
set_option linter.unusedVariables false
set_option linter.unusedSimpArgs false
section
open Go.RowKit
def Qa5 (n:Nd) (k:UInt8):Bool :=
 (if n.kind=1 then true else if n.kind=6 then decide (n.num<8) else if n.kind=7 then decide (n.num<7) else n.num==0) &&
 (if n.kind=3\/n.kind=5 then Qec k n.str else if n.kind=2 then decide (n.str.length<=255) else n.str==[])
def QbH (n:Nd):Option (List UInt8) :=
 if n.kind=5 then (if 0<=n.pos/\n.pos<=7 then some (List.replicate n.pos.toNat 101) else none)
 else if n.kind=33 then (if 0<=n.pos/\n.pos<=1 then some (List.replicate n.pos.toNat 101) else none)
 else if n.kind=31/\n.pos=3 then some [101,83,83]
 else if ((QaE n.kind).2.length:Int)=n.pos then some (QaE n.kind).2 else none
def Qbn (f:Nat->Option Nat):Nat->Nat->Option Nat
 | 0,i=>some i
 | m+1,i=>match f i with
   | none=>none
   | some j=>Qbn f m j
def QaT (f:UInt8->Nat->Option Nat):List UInt8->Nat->Option Nat
 | [],i=>some i
 | k::ks,i=>match f k i with
   | none=>none
   | some j=>QaT f ks j
def Qan (p:List Nd):Nat->Bool->UInt8->Nat->Option Nat
 | 0,_,_,_=>none
 | d+1,true,k,i=>match p[i]? with
   | none=>none
   | some n=>if n.kind=4/\n.num=0/\n.str=[]/\0<=n.pos then Qbn (Qan p d false k) n.pos.toNat (i+1) else none
 | d+1,false,k,i=>match p[i]? with
   | none=>none
   | some n=>if Qar k n.kind=true/\Qa5 n k=true then (match QbH n with
     | none=>none
     | some ks=>QaT (fun k j=>Qan p d (QaQ k) k j) ks (i+1)) else none
def QbT (p:List Nd):Nat->Nat->Bool
 | 0,i=>decide (p.length<=i)
 | f+1,i=>if p.length<=i then true else match Qan p 32 false 68 i with
   | none=>false
   | some j=>QbT p f j
def QaS (p:List Nd):Bool:=decide (p.length<=2048)&&QbT p p.length 0
theorem QfX {f:Nat->Option Nat} {L:Nat} (h:∀ i j,f i=some j->i<j/\j<=L):∀ (m i j:Nat),Qbn f m i=some j->i<=L->i<=j/\j<=L
 | 0,i,j,e,hi=>by rw [Qbn] at e;injection e with e;omega
 | m+1,i,j,e,hi=>by
   rw [Qbn] at e;cases hf:f i with
   | none=>rw [hf] at e;cases e
   | some k =>
     rw [hf] at e;have:=h i k hf;have:=QfX h m k j e this.2;omega
theorem Qdi {f:UInt8->Nat->Option Nat} {L:Nat} (h:∀ k i j,f k i=some j->i<j/\j<=L):∀ (ks:List UInt8) (i j:Nat),QaT f ks i=some j->i<=L->i<=j/\j<=L
 | [],i,j,e,hi=>by rw [QaT] at e;injection e with e;omega
 | k::ks,i,j,e,hi=>by
   rw [QaT] at e;cases hf:f k i with
   | none=>rw [hf] at e;cases e
   | some q =>
     rw [hf] at e;have:=h k i q hf;have:=Qdi h ks q j e this.2;omega
theorem Qau (p:List Nd):∀ (d:Nat) (b:Bool) (k:UInt8) (i j:Nat),Qan p d b k i=some j->i<j/\j<=p.length
 | 0,b,k,i,j,e=>by rw [Qan] at e;cases e
 | d+1,true,k,i,j,e=>by
   rw [Qan] at e;cases hn:p[i]? with
   | none=>rw [hn] at e;cases e
   | some n =>
     rw [hn] at e;simp only [] at e;have hi:i<p.length:=(List.getElem?_eq_some_iff.1 hn).1;split at e
     ·have:=QfX (fun i j=>Qau p d false k i j) _ _ _ e (by omega);omega
     ·cases e
 | d+1,false,k,i,j,e=>by
   rw [Qan] at e;cases hn:p[i]? with
   | none=>rw [hn] at e;cases e
   | some n =>
     rw [hn] at e;simp only [] at e;have hi:i<p.length:=(List.getElem?_eq_some_iff.1 hn).1;split at e
     ·cases hk:QbH n with
      | none=>rw [hk] at e;cases e
      | some ks =>
        rw [hk] at e;have:=Qdi (fun k i j=>Qau p d (QaQ k) k i j) _ _ _ e (by omega);omega
     ·cases e
end
section
open Go.RowKit
attribute [local go_sem] ByteArray.mk_append_mk Qac Qad Qae
def TAt (w:World) (b off:Nat) (t:TokI):Prop:=w.cell? ⟨b,off,none⟩=some (.int .i64 t.kind)/\w.cell? ⟨b,off+1,none⟩=some (.int .u64 t.num)/\w.cell? ⟨b,off+2,none⟩=some (.string ⟨t.str.toArray⟩)/\w.cell? ⟨b,off+3,none⟩=some (.int .i64 t.pos)
def tcI:List TokI->List Value
 | []=>[]
 | t::r=>.int .i64 t.kind::.int .u64 t.num::.string ⟨t.str.toArray⟩::.int .i64 t.pos::tcI r
theorem QdS:∀ l m:List TokI,tcI (l++m)=tcI l++tcI m
 | [],m=>rfl
 | t::r,m=>by rw [List.cons_append,tcI,tcI,QdS r m];rfl
theorem Qc1:∀ l:List TokI,(tcI l).length=l.length * 4
 | []=>rfl
 | t::r=>by simp only [tcI,List.length_cons,Qc1 r];omega
theorem QsC:∀ (l:List TokI) (i:Nat) (h:i<l.length),(tcI l)[i * 4]?=some (.int .i64 l[i].kind)/\(tcI l)[i * 4+1]?=some (.int .u64 l[i].num)/\(tcI l)[i * 4+2]?=some (.string ⟨l[i].str.toArray⟩)/\(tcI l)[i * 4+3]?=some (.int .i64 l[i].pos)
 | t::r,0,_=>⟨rfl,rfl,rfl,rfl⟩
 | t::r,i+1,h=>by
   have:=QsC r i (by simpa using h);rw [show (i+1) * 4=i * 4+4 by omega];exact this
def TokB (w:World) (B:Nat) (v:Value) (l:List TokI):Prop :=
 ∃ (a:Option Addr) (cap:Nat),v = .slice a l.length cap/\l.length<=cap/\(l≠[]->∃ b off,a=some ⟨b,off,none⟩/\b<B/\∀ i (h:i<l.length),TAt w b (off+i * 4) l[i])
theorem TAt.belowB {w w':World} {B b off:Nat} {t:TokI} (h:TAt w b off t) (hb:Below B w w') (hB:b<B):TAt w' b off t:=by
 obtain ⟨h0,h1,h2,h3⟩:=h;refine ⟨?_,?_,?_,?_⟩
 ·rw [hb.cell (p:=⟨b,off,none⟩) hB];exact h0
 ·rw [hb.cell (p:=⟨b,off+1,none⟩) hB];exact h1
 ·rw [hb.cell (p:=⟨b,off+2,none⟩) hB];exact h2
 ·rw [hb.cell (p:=⟨b,off+3,none⟩) hB];exact h3
theorem TokB.below {w w':World} {B:Nat} {v:Value} {l:List TokI} (h:TokB w B v l) (hb:Below B w w'):TokB w' B v l:=by
 obtain ⟨a,cap,hv,hl,hc⟩:=h;refine ⟨a,cap,hv,hl,fun hn=>?_⟩;obtain ⟨b,off,ha,hB,hk⟩:=hc hn;exact ⟨b,off,ha,hB,fun i hi=>(hk i hi).belowB hb hB⟩
def QvN:Value->Value
 | .slice a n cap=>sliced a 1 n cap 4
 | v=>v
theorem TokB.tail {w:World} {B:Nat} {v:Value} {t:TokI} {q:List TokI} (h:TokB w B v (t::q)):TokB w B (QvN v) q:=by
 obtain ⟨a,cap,rfl,hl,hc⟩:=h;obtain ⟨b,off,rfl,hB,hk⟩:=hc (by simp);rw [List.length_cons] at hl;refine ⟨some (if cap=1 then ⟨b,off,none⟩ else (Addr.add ⟨b,off,none⟩ (1 * 4))),cap-1,?_,by omega,fun hn=>?_⟩
 ·by_cases h1:cap=1<;>simp [QvN,sliced,slicedAt,h1]
 ·have hq:=List.length_pos_iff.2 hn;rw [if_neg (by omega)];refine ⟨b,off+4,by simp [Addr.add],hB,fun i hi=>?_⟩;have:=hk (i+1) (by simpa using hi);rw [show off+(i+1) * 4=off+4+i * 4 by omega] at this;simpa using this
def NodesI (w:World) (B:Nat) (v:Value) (l:List Nd):Prop:=w.ownsRow B 46 4 v l.length (tcI l)
theorem NodesI.nil (w:World) (B:Nat):NodesI w B (.slice none 0 0) []:=⟨rfl,.inl ⟨rfl,rfl⟩⟩
theorem NodesI.below {w w':World} {B:Nat} {v:Value} {l:List Nd} (h:NodesI w B v l) (hb:Below w.heap.size w w'):NodesI w' B v l:=QbY h hb
theorem NodesI.base {w:World} {B B':Nat} {v:Value} {l:List Nd} (h:NodesI w B v l) (hB:B'<=B):NodesI w B' v l:=Qgz h hB
theorem NodesI.form {w:World} {B:Nat} {v:Value} {l:List Nd} (h:NodesI w B v l):∃ a c,v = .slice a l.length c:=by
 rcases h.2 with ⟨rfl,h0⟩|⟨g,cap,cur,rfl,_⟩
 ·exact ⟨none,0,by rw [h0]⟩
 ·exact ⟨_,cap,rfl⟩
theorem Qa6 {w:World} {B e z:Nat} {v:Value} {n:Nat} {xs:List Value} (h:w.ownsRow B e z v n xs) (p:Addr) (u:Value) (hp:v.ownBlock≠some p.block):(w.setCell p u).ownsRow B e z v n xs:=by
 refine Qd3 (row:=some p.block) h ⟨rfl,rfl,rfl,by simp [World.setCell],fun k hk hne=>Below.heap_setCell _ _ _ _ (fun e=>hne (by rw [e]))⟩ (fun g hg e=>hp (by rw [hg,e]))
def TGood (r:List TokI):Prop:=∀ t∈r,t.str.length<=65536/\(t.kind=2->t.str≠[])
theorem TGood.drop {r:List TokI} (h:TGood r) (k:Nat):TGood (r.drop k):=fun t ht=>h t (List.mem_of_mem_drop ht)
def SynG (m:Int) (w:World):Prop:=w.cell? ⟨0,0,none⟩=some (.int .i64 m) /\
 (∀ j (h:j<exprT.length),w.cell? ⟨5,2 * j,none⟩=some (.string ⟨exprT[j].1.toArray⟩)/\w.cell? ⟨5,2 * j+1,none⟩=some (.string ⟨exprT[j].2.toArray⟩)) /\
 (∀ j (h:j<stmtT.length),w.cell? ⟨4,2 * j,none⟩=some (.string ⟨stmtT[j].1.toArray⟩)/\w.cell? ⟨4,2 * j+1,none⟩=some (.string ⟨stmtT[j].2.toArray⟩)) /\
 (∀ j (h:j<declT.length),w.cell? ⟨3,2 * j,none⟩=some (.string ⟨declT[j].1.toArray⟩)/\w.cell? ⟨3,2 * j+1,none⟩=some (.string ⟨declT[j].2.toArray⟩))
def Qv2 (B:Nat):Prop:=0<B/\5<B/\4<B/\3<B
theorem SynG.low {m:Int} {w:World} (h:SynG m w):Qv2 w.heap.size :=
 ⟨World.block_lt_of_cell? w _ h.1,World.block_lt_of_cell? w _ (h.2.1 0 (by decide)).1,World.block_lt_of_cell? w _ (h.2.2.1 0 (by decide)).1,World.block_lt_of_cell? w _ (h.2.2.2 0 (by decide)).1⟩
theorem SynG.below {m:Int} {w w':World} {B:Nat} (h:SynG m w) (hb:Below B w w') (hB:Qv2 B):SynG m w':=by
 obtain ⟨h1,h2,h3,h4⟩:=h;refine ⟨(hb.cell (p:=⟨0,0,none⟩) hB.1).trans h1,fun j hj=>⟨?_,?_⟩,fun j hj=>⟨?_,?_⟩,fun j hj=>⟨?_,?_⟩⟩
 ·exact (hb.cell (p:=⟨_,2 * j,none⟩) hB.2.1).trans (h2 j hj).1
 ·exact (hb.cell (p:=⟨_,2 * j+1,none⟩) hB.2.1).trans (h2 j hj).2
 ·exact (hb.cell (p:=⟨_,2 * j,none⟩) hB.2.2.1).trans (h3 j hj).1
 ·exact (hb.cell (p:=⟨_,2 * j+1,none⟩) hB.2.2.1).trans (h3 j hj).2
 ·exact (hb.cell (p:=⟨_,2 * j,none⟩) hB.2.2.2).trans (h4 j hj).1
 ·exact (hb.cell (p:=⟨_,2 * j+1,none⟩) hB.2.2.2).trans (h4 j hj).2
end
section
open Go.RowKit
attribute [local go_sem] ByteArray.mk_append_mk Qac Qad Qae
theorem QnO:(Tryz.prog.info? 46).map (fun i=>(i.zero,i.size,i.bytes))=some (some (.agg #[.int .i64 0,.int .u64 0,.string ⟨#[]⟩,.int .i64 0]),4,40):=by kernel_rfl
abbrev Qaj (a b:Int) (c:List UInt8) (d:Int):Obj:=.cells #[.int .i64 a,.int .u64 b,.string ⟨c.toArray⟩,.int .i64 d] 46 (0,0)
theorem Qb7 {w:World} {ops:Array Oper} {rest:List Oper} {o:Oper} {a:Act} {Q:Exit->Act->World->Prop} (hgd:o.guard=none) (s x:Operand)
  (ho:o.op = .call { callee:=.builtin .append,args:=#[s,x],argTypes:=#[24,24] })
  (B:Nat) (v:Value) (l:List Nd) (hs:a.eval s=v) (hown:NodesI w B v l) (g:Nat) (t:Nd)
  (hx:a.eval x = .slice (some ⟨g,0,none⟩) 1 1) (hb:w.heap[g]?=some (Qaj t.kind t.num t.str t.pos)) (hlen:l.length<=1000000) (hB:B<=w.heap.size)
  (h:∀ v' w',NodesI w' B v' (l++[t])->w.grownBy w' v.ownBlock->wpList Tryz.prog ops Q rest (a.put o.dst v') w'):wpList Tryz.prog ops Q (o::rest) a w:=by
 obtain ⟨i0,hi,hz0,hz1,hz2⟩:=info_parts QnO;obtain ⟨c0,c1,c2,c3⟩:=Qaa hb;refine wpList_append_own _ hgd s x _ ho B 46 i0 _ 4 40 Tryz.underlying24 hi hz0 hz1 hz2 rfl (by decide) v l.length _ hs hown ⟨g,0,none⟩ 1 1 (tcI [t]) hx rfl ?_ ?_ (by unfold maxLen;omega) (by omega) hB ?_
 ·intro j z hj
  match j,hj with
  | 0,hj=>cases hj;exact c0
  | 1,hj=>cases hj;exact c1
  | 2,hj=>cases hj;exact c2
  | 3,hj=>cases hj;exact c3
 ·intro z hz;simp only [tcI,List.mem_cons,List.not_mem_nil,or_false] at hz;rcases hz with rfl|rfl|rfl|rfl<;>rfl
 ·intro v' w' h1 h2 _;refine h v' w' ?_ h2;unfold NodesI;rw [List.length_append,QdS];exact h1
def SameB (W:World) (b p:Nat) (x:World):Prop:=x.heap[b]?=W.heap[b]?/\x.heap[p]?=W.heap[p]?
theorem SameB.some (W:World) (b p:Nat):(∃ x,SameB W b p x)=True:=by simp only [eq_iff_iff,iff_true];exact ⟨W,rfl,rfl⟩
theorem SameB.all (W:World) (b q:Nat) (p:Prop):(∀ x,SameB W b q x->p)=p:=by
 simp only [eq_iff_iff];exact ⟨fun h=>h W ⟨rfl,rfl⟩,fun h _ _=>h⟩
attribute [local go_sem] SameB.some SameB.all
end
section
open Go.RowKit
attribute [local go_sem] ByteArray.mk_append_mk Qac Qad Qae
theorem QsD (op:Int) (w:World):Calls Tryz.prog 180 #[.int .i64 op] w fun e w'=>e = .returned (.bool (QcR op))/\w=w':=by
 go_enter Tryz.func180,Tryz.ntmps180;go_wp2_with fail
 all_goals
  go_ret;exact ⟨by simp [QcR, *],rfl⟩
theorem QsE (op:Int) (w:World):Calls Tryz.prog 179 #[.int .i64 op] w fun e w'=>e = .returned (.bool (Qcm op))/\w=w':=by
 go_enter Tryz.func179,Tryz.ntmps179;go_wp2_with fail
 all_goals
  go_ret;exact ⟨by simp [Qcm, *],rfl⟩
theorem Qm5 (op:Int) (b:Bool) (H:Hid (Qcm op=b)) (w:World):Calls Tryz.prog 179 #[.int .i64 op] w fun e w'=>e = .returned (.bool b)/\w=w':=by
 have:=QsE op w;rw [H.out] at this;exact this
theorem Qqf (op:Int) (b:Bool) (H:Hid (QcR op=b)) (w:World):Calls Tryz.prog 180 #[.int .i64 op] w fun e w'=>e = .returned (.bool b)/\w=w':=by
 have:=QsD op w;rw [H.out] at this;exact this
theorem Qre (k:UInt8) (w:World):Calls Tryz.prog 183 #[.int .u8 k.toNat] w fun e w'=>e = .returned (.bool (QaQ k))/\w=w':=by
 have h1:decide (65<=k.toNat)=decide (65<=(k.toNat:Int)):=by simp only [decide_eq_decide];omega
 have h2:decide (k.toNat<=90)=decide ((k.toNat:Int)<=90):=by simp only [decide_eq_decide];omega
 unfold QaQ;rw [h1,h2];go_enter Tryz.func183,Tryz.ntmps183;go_wp2_with fail
 all_goals
  go_ret;exact ⟨by first|(simp [*];done)|(simp [*];omega),rfl⟩
theorem Qao (k c:UInt8):((k.toNat:Int)==(c.toNat:Int))=(k==c):=(Qg2 k c).trans (by rw [Bool.eq_iff_iff,beq_iff_eq,beq_iff_eq];exact eq_comm)
theorem QsF (op:Int) (w:World):Calls Tryz.prog 178 #[.int .i64 op] w fun e w'=>e = .returned (.bool (Qeb op))/\w=w':=by
 obtain ⟨d,hd⟩:∃ d,Hid (Qcm op=d):=⟨_,Za rfl⟩;unfold Qeb;rw [hd.out];go_enter Tryz.func178,Tryz.ntmps178;cases d<;>go_wp2_with (go_at_call 179;((with_reducible refine (Qm5 op _ hd _).mono ?_));rintro e w1 ⟨rfl,rfl⟩)
 all_goals
  go_ret;exact ⟨by first|(simp [*];done)|(simp [*];omega),rfl⟩
theorem Qup (op:Int) (b:Bool) (H:Hid (Qeb op=b)) (w:World):Calls Tryz.prog 178 #[.int .i64 op] w fun e w'=>e = .returned (.bool b)/\w=w':=by
 have:=QsF op w;rw [H.out] at this;exact this
theorem Quq (op:Int) (w:World):Calls Tryz.prog 124 #[.int .u8 110,.int .i64 op] w fun e w'=>e = .returned (.bool (Qar 110 op))/\w=w':=by
 rw [show Qar 110 op=(op==3) from rfl];go_enter Tryz.func124,Tryz.ntmps124;go_wp2_with fail
 all_goals
  go_ret;exact ⟨by first|(simp [*];done)|(simp [*];omega),rfl⟩
theorem Qur (op:Int) (w:World):Calls Tryz.prog 124 #[.int .u8 115,.int .i64 op] w fun e w'=>e = .returned (.bool (Qar 115 op))/\w=w':=by
 rw [show Qar 115 op=(op==3) from rfl];go_enter Tryz.func124,Tryz.ntmps124;go_wp2_with fail
 all_goals
  go_ret;exact ⟨by first|(simp [*];done)|(simp [*];omega),rfl⟩
theorem Qus (op:Int) (w:World):Calls Tryz.prog 124 #[.int .u8 105,.int .i64 op] w fun e w'=>e = .returned (.bool (Qar 105 op))/\w=w':=by
 rw [show Qar 105 op=(op==1) from rfl];go_enter Tryz.func124,Tryz.ntmps124;go_wp2_with fail
 all_goals
  go_ret;exact ⟨by first|(simp [*];done)|(simp [*];omega),rfl⟩
theorem Qv3 (op:Int) (w:World):Calls Tryz.prog 124 #[.int .u8 73,.int .i64 op] w fun e w'=>e = .returned (.bool (Qar 73 op))/\w=w':=by
 rw [show Qar 73 op=(op==1) from rfl];go_enter Tryz.func124,Tryz.ntmps124;go_wp2_with fail
 all_goals
  go_ret;exact ⟨by first|(simp [*];done)|(simp [*];omega),rfl⟩
theorem Qut (op:Int) (w:World):Calls Tryz.prog 124 #[.int .u8 101,.int .i64 op] w fun e w'=>e = .returned (.bool (Qar 101 op))/\w=w':=by
 obtain ⟨d,hd⟩:∃ d,Hid (Qeb op=d):=⟨_,Za rfl⟩;rw [show Qar 101 op=Qeb op from rfl,hd.out];go_enter Tryz.func124,Tryz.ntmps124;cases d<;>go_wp2_with (go_at_call 178;((with_reducible refine (Qup op _ hd _).mono ?_));rintro e w1 ⟨rfl,rfl⟩)
 all_goals
  go_ret;exact ⟨by first|(simp [*];done)|(simp [*];omega),rfl⟩
theorem Quu (op:Int) (w:World):Calls Tryz.prog 124 #[.int .u8 116,.int .i64 op] w fun e w'=>e = .returned (.bool (Qar 116 op))/\w=w':=by
 rw [show Qar 116 op=(op==3||op==6||op==7||op==76||op==84) from rfl];go_enter Tryz.func124,Tryz.ntmps124;go_wp2_with fail
 all_goals
  go_ret;exact ⟨by first|(simp [*];done)|(simp [*];omega),rfl⟩
theorem Quv (op:Int) (w:World):Calls Tryz.prog 124 #[.int .u8 100,.int .i64 op] w fun e w'=>e = .returned (.bool (Qar 100 op))/\w=w':=by
 obtain ⟨d,hd⟩:∃ d,Hid (Qcm op=d):=⟨_,Za rfl⟩;rw [show Qar 100 op=Qcm op from rfl,hd.out];go_enter Tryz.func124,Tryz.ntmps124;cases d<;>go_wp2_with (go_at_call 179;((with_reducible refine (Qm5 op _ hd _).mono ?_));rintro e w1 ⟨rfl,rfl⟩)
 all_goals
  go_ret;exact ⟨by first|(simp [*];done)|(simp [*];omega),rfl⟩
theorem Qv4 (op:Int) (w:World):Calls Tryz.prog 124 #[.int .u8 80,.int .i64 op] w fun e w'=>e = .returned (.bool (Qar 80 op))/\w=w':=by
 obtain ⟨d,hd⟩:∃ d,Hid (Qcm op=d):=⟨_,Za rfl⟩;rw [show Qar 80 op=(Qcm op||op==3) from rfl,hd.out];go_enter Tryz.func124,Tryz.ntmps124;cases d<;>go_wp2_with (go_at_call 179;((with_reducible refine (Qm5 op _ hd _).mono ?_));rintro e w1 ⟨rfl,rfl⟩)
 all_goals
  go_ret;exact ⟨by first|(simp [*];done)|(simp [*];omega),rfl⟩
theorem Qv5 (op:Int) (w:World):Calls Tryz.prog 124 #[.int .u8 68,.int .i64 op] w fun e w'=>e = .returned (.bool (Qar 68 op))/\w=w':=by
 obtain ⟨d,hd⟩:∃ d,Hid (QcR op=d):=⟨_,Za rfl⟩;rw [show Qar 68 op=(decide (10<=op)&&decide (op<=21)&&!QcR op) from rfl,hd.out];go_enter Tryz.func124,Tryz.ntmps124;cases d<;>go_wp2_with (go_at_call 180;((with_reducible refine (Qqf op _ hd _).mono ?_));rintro e w1 ⟨rfl,rfl⟩)
 all_goals
  go_ret;exact ⟨by first|(simp [*];done)|(simp [*];omega),rfl⟩
theorem Qv6 (op:Int) (w:World):Calls Tryz.prog 124 #[.int .u8 70,.int .i64 op] w fun e w'=>e = .returned (.bool (Qar 70 op))/\w=w':=by
 obtain ⟨d,hd⟩:∃ d,Hid (QcR op=d):=⟨_,Za rfl⟩;rw [show Qar 70 op=QcR op from rfl,hd.out];go_enter Tryz.func124,Tryz.ntmps124;cases d<;>go_wp2_with (go_at_call 180;((with_reducible refine (Qqf op _ hd _).mono ?_));rintro e w1 ⟨rfl,rfl⟩)
 all_goals
  go_ret;exact ⟨by first|(simp [*];done)|(simp [*];omega),rfl⟩
theorem Qv7 (op:Int) (w:World):Calls Tryz.prog 124 #[.int .u8 83,.int .i64 op] w fun e w'=>e = .returned (.bool (Qar 83 op))/\w=w':=by
 rw [show Qar 83 op=((decide (30<=op)&&decide (op<=42))||op==5) from rfl];go_enter Tryz.func124,Tryz.ntmps124;go_wp2_with fail
 all_goals
  go_ret;exact ⟨by first|(simp [*];done)|(simp [*];omega),rfl⟩
theorem QsG (k:UInt8) (op:Int) (w:World) (h110:k≠110) (h115:k≠115) (h105:k≠105) (h73:k≠73) (h101:k≠101) (h116:k≠116) (h100:k≠100) (h80:k≠80) (h68:k≠68) (h70:k≠70) (h83:k≠83):Calls Tryz.prog 124 #[.int .u8 k.toNat,.int .i64 op] w fun e w'=>e = .returned (.bool false)/\w=w':=by
 have e110:((k.toNat:Int)==110)=false:=(Qao k 110).trans (Zd h110);have e115:((k.toNat:Int)==115)=false:=(Qao k 115).trans (Zd h115);have e105:((k.toNat:Int)==105)=false:=(Qao k 105).trans (Zd h105);have e73:((k.toNat:Int)==73)=false:=(Qao k 73).trans (Zd h73);have e101:((k.toNat:Int)==101)=false:=(Qao k 101).trans (Zd h101);have e116:((k.toNat:Int)==116)=false:=(Qao k 116).trans (Zd h116);have e100:((k.toNat:Int)==100)=false:=(Qao k 100).trans (Zd h100);have e80:((k.toNat:Int)==80)=false:=(Qao k 80).trans (Zd h80);have e68:((k.toNat:Int)==68)=false:=(Qao k 68).trans (Zd h68);have e70:((k.toNat:Int)==70)=false:=(Qao k 70).trans (Zd h70);have e83:((k.toNat:Int)==83)=false:=(Qao k 83).trans (Zd h83);clear h110 h115 h105 h73 h101 h116 h100 h80 h68 h70 h83;go_enter Tryz.func124,Tryz.ntmps124;go_wp2_with fail;go_ret;exact ⟨rfl,rfl⟩
theorem Quw (k:UInt8) (op:Int) (w:World):Calls Tryz.prog 124 #[.int .u8 k.toNat,.int .i64 op] w fun e w'=>e = .returned (.bool (Qar k op))/\w=w':=by
 by_cases h110:k=110
 ·subst h110;exact Quq op w
 by_cases h115:k=115
 ·subst h115;exact Qur op w
 by_cases h105:k=105
 ·subst h105;exact Qus op w
 by_cases h73:k=73
 ·subst h73;exact Qv3 op w
 by_cases h101:k=101
 ·subst h101;exact Qut op w
 by_cases h116:k=116
 ·subst h116;exact Quu op w
 by_cases h100:k=100
 ·subst h100;exact Quv op w
 by_cases h80:k=80
 ·subst h80;exact Qv4 op w
 by_cases h68:k=68
 ·subst h68;exact Qv5 op w
 by_cases h70:k=70
 ·subst h70;exact Qv6 op w
 by_cases h83:k=83
 ·subst h83;exact Qv7 op w
 have e:Qar k op=false:=by unfold Qar;simp only [h110,h115,h105,h73,h101,h116,h100,h80,h68,h70,h83,or_self,if_false]
 rw [e];exact QsG k op w h110 h115 h105 h73 h101 h116 h100 h80 h68 h70 h83
theorem Qv8 (k:UInt8) (op:Int) (b:Bool) (H:Hid (Qar k op=b)) (w:World):Calls Tryz.prog 124 #[.int .u8 k.toNat,.int .i64 op] w fun e w'=>e = .returned (.bool b)/\w=w':=by
 have:=Quw k op w;rw [H.out] at this;exact this
theorem Qio (k:UInt8) (b:Bool) (H:Hid (QaQ k=b)) (w:World):Calls Tryz.prog 183 #[.int .u8 k.toNat] w fun e w'=>e = .returned (.bool b)/\w=w':=by
 have:=Qre k w;rw [H.out] at this;exact this
end
section
open Go.RowKit
attribute [local go_sem] ByteArray.mk_append_mk Qac Qad Qae
theorem Qxp {M:Int} (h0:0<=M) (h5:M<5):M=0\/M=1\/M=2\/M=3\/M=4:=by omega
end
section
open Go.RowKit
attribute [local go_sem] ByteArray.mk_append_mk Qac Qad Qae
def TAtK (w:World) (b off:Nat) (t:TokI):Prop:=w.cell? ⟨b,off,none⟩=some (.int .i64 t.kind)/\w.cell? ⟨b,off+1,none⟩=some (.int .u64 t.num)/\w.cell? ⟨b,off+2,none⟩=some (.string ⟨t.str.toArray⟩)/\w.cell? ⟨b,off+3,none⟩=some (.int .i64 t.pos)
def TSl (w:World) (v:Value) (l:List TokI):Prop :=
 ∃ (a:Option Addr) (cap:Nat),v = .slice a l.length cap/\(l≠[]->∃ b off,a=some ⟨b,off,none⟩/\∀ i (h:i<l.length),TAtK w b (off+i * 4) l[i])
theorem TAtK.below {w w':World} {b off:Nat} {t:TokI} (h:TAtK w b off t) (hb:Below w.heap.size w w'):TAtK w' b off t:=by
 obtain ⟨h0,h1,h2,h3⟩:=h;have hlt:b<w.heap.size:=World.block_lt_of_cell? w ⟨b,off,none⟩ h0;refine ⟨?_,?_,?_,?_⟩
 ·rw [hb.cell (p:=⟨b,off,none⟩) hlt];exact h0
 ·rw [hb.cell (p:=⟨b,off+1,none⟩) hlt];exact h1
 ·rw [hb.cell (p:=⟨b,off+2,none⟩) hlt];exact h2
 ·rw [hb.cell (p:=⟨b,off+3,none⟩) hlt];exact h3
theorem TSl.below {w w':World} {v:Value} {l:List TokI} (h:TSl w v l) (hb:Below w.heap.size w w'):TSl w' v l:=by
 obtain ⟨a,cap,hv,hc⟩:=h;refine ⟨a,cap,hv,fun hn=>?_⟩;obtain ⟨b,off,ha,hk⟩:=hc hn;exact ⟨b,off,ha,fun i hi=>(hk i hi).below hb⟩
def tcK:List TokI->List Value
 | []=>[]
 | t::r=>.int .i64 t.kind::.int .u64 t.num::.string ⟨t.str.toArray⟩::.int .i64 t.pos::tcK r
theorem Qqg:∀ l:List Tok,tcK (l.map Tok.toI)=QbS l
 | []=>rfl
 | t::r=>by rw [List.map_cons,tcK,Qqg r];rfl
theorem QsH:∀ (l:List TokI) (i:Nat) (h:i<l.length),(tcK l)[i * 4]?=some (.int .i64 l[i].kind)/\(tcK l)[i * 4+1]?=some (.int .u64 l[i].num)/\(tcK l)[i * 4+2]?=some (.string ⟨l[i].str.toArray⟩)/\(tcK l)[i * 4+3]?=some (.int .i64 l[i].pos)
 | t::r,0,_=>⟨rfl,rfl,rfl,rfl⟩
 | t::r,i+1,h=>by
   have:=QsH r i (by simpa using h);rw [show (i+1) * 4=i * 4+4 by omega];exact this
def ToksI (w:World) (B:Nat) (v:Value) (l:List TokI):Prop:=w.ownsRow B 34 4 v l.length (tcK l)
theorem ToksI.nil (w:World) (B:Nat):ToksI w B (.slice none 0 0) []:=⟨rfl,.inl ⟨rfl,rfl⟩⟩
theorem ToksI.below {w w':World} {B:Nat} {v:Value} {l:List TokI} (h:ToksI w B v l) (hb:Below w.heap.size w w'):ToksI w' B v l:=QbY h hb
theorem ToksI.alloc {w:World} {B:Nat} {v:Value} {l:List TokI} (h:ToksI w B v l) (o:Obj):ToksI (w.alloc o) B v l:=h.below (Zb.alloc Zc o)
theorem ToksI.form {w:World} {B:Nat} {v:Value} {l:List TokI} (h:ToksI w B v l):∃ a c,v = .slice a l.length c:=by
 rcases h.2 with ⟨rfl,h0⟩|⟨g,cap,cur,rfl,_⟩
 ·exact ⟨none,0,by rw [h0]⟩
 ·exact ⟨_,cap,rfl⟩
theorem ToksI.kept {w w1 w2:World} {B B0:Nat} {v:Value} {l:List TokI} (ho:ToksI w1 B v l) (h:Below B0 w w1) (hg:w1.grownBy w2 v.ownBlock) (hB:B0<=w1.heap.size) (hB2:B0<=B):Below B0 w w2 :=
 h.grown hg hB (fun k hk=>Nat.le_trans hB2 (Qap ho hk))
theorem Toks.toI {w:World} {B:Nat} {v:Value} {l:List Tok} (h:Toks w B v l):ToksI w B v (l.map Tok.toI):=by
 unfold ToksI;rw [Qqg,List.length_map];exact h
theorem ToksI.sl {w:World} {B:Nat} {v:Value} {l:List TokI} (h:ToksI w B v l):TSl w v l:=by
 obtain ⟨a,c,rfl⟩:=h.form;refine ⟨a,c,rfl,fun hn=>?_⟩;obtain ⟨h1,h2⟩:=h;have hp:=List.length_pos_iff.2 hn;rcases h2 with ⟨hv,h0⟩|⟨g,cap,cur,hv,hb,hg,hn,hm,hs,ht⟩
 ·omega
 ·injection hv with e1 e2 e3;refine ⟨g,0,e1,fun i hi=>?_⟩;obtain ⟨k0,k1,k2,k3⟩:=QsH l i hi;rw [<- ht] at k0 k1 k2 k3;rw [List.getElem?_take,if_pos (by omega)] at k0 k1 k2 k3;rw [Nat.zero_add];refine ⟨?_,?_,?_,?_⟩
  ·rw [cell_of_row w g _ cur _ (0,0) hg];simpa using k0
  ·rw [cell_of_row w g _ cur _ (0,0) hg];simpa using k1
  ·rw [cell_of_row w g _ cur _ (0,0) hg];simpa using k2
  ·rw [cell_of_row w g _ cur _ (0,0) hg];simpa using k3
end
section
open Go.RowKit
attribute [local go_sem] ByteArray.mk_append_mk Qac Qad Qae
def nmB (s:List UInt8):Bool:=decide (QcC s=some s.length)
def kwB:List UInt8->Bool
 | []=>false
 | c::r=>decide ((c::r).length<=32)&&(QaK c&&(decide (Qbh (c::r)=(c::r).length)&&Qch (c::r)))
def Qv9 (t:TokI):Bool:=if t.kind=1 then nmB t.str else if t.kind=2 then kwB t.str else if t.kind=4 then decide (t.str.length<=255) else decide (t.kind=3\/(5<=t.kind/\t.kind<=9))
end
section
open Go.RowKit
attribute [local go_sem] ByteArray.mk_append_mk Qac Qad Qae
def Qxj (k:Int):List UInt8:=if k=5 then [40] else if k=6 then [41] else if k=7 then [123] else if k=8 then [125] else [44]
def Qxk (t:TokI):List UInt8:=if t.kind=1\/t.kind=2 then t.str else if t.kind=3 then Qxf t.num.toNat else if t.kind=4 then Qxi t.str else Qxj t.kind
theorem TSl.one {w:World} {v:Value} {t:TokI} (h:TSl w v [t]):∃ b off cap,v = .slice (some ⟨b,off,none⟩) 1 cap/\∀ w',Below w.heap.size w w'->TAtK w' b off t:=by
 obtain ⟨a,cap,hv,hc⟩:=h;obtain ⟨b,off,rfl,hk⟩:=hc (by simp);refine ⟨b,off,cap,hv,fun w' hb=>?_⟩;have:=(hk 0 (by simp)).below hb;simpa using this
end
section
open Go.RowKit
def Brk (y:List UInt8):Prop:=∀ c r,y=c::r->idB c=false/\c≠46/\c≠94
theorem Brk.nil:Brk []:=fun c r h=>by cases h
end
end Go.Proofs.YtoohondkpddmcaaGreatDoor
