/- Mt Pa Pb Pc -/
import Derived.Test.YtoohondkpddmcaaGreatDoorUzz
import Derived.Test.YtoohondkpddmcaaGreatDoorUaw
import Derived.Test.YtoohondkpddmcaaGreatDoorUbe
import Derived.Test.YtoohondkpddmcaaGreatDoorUbh
import Derived.Maps.AppendAt
namespace Go.Proofs.YtoohondkpddmcaaGreatDoor
set_option maxHeartbeats 32000000
set_option linter.unusedVariables false
set_option linter.unusedSimpArgs false
section
open Go.RowKit
attribute [local go_sem] ByteArray.mk_append_mk Qac Qad Qae
theorem Qhj (m:Int) (p:List Nd) (s:List UInt8) (er:Int) (H:Hid (QcS p=(s,er))) (v:Value) (w:World) (hv:NSl w v p) (hm:SynG m w) (hP:Qi4 p) (hl:p.length<=9223372036854775000) :
  Calls Tryz.prog 17 #[v] w fun e w'=>e = .returned (.tuple #[.string ⟨s.toArray⟩,.int .i64 er])/\Below w.heap.size w w':=by
 have:=Qop m p v w hv hm hP hl;rw [H.out] at this;exact this
theorem QoD (p:List Nd) (s:List UInt8) (er:Int) (H:Hid (QcS p=(s,er))) (v:Value) (w:World) (hv:NSl w v p) (hP:Qi4 p) (hl:p.length<=9223372036854775000) :
  Calls Tryz.prog 18 #[v] w fun e w'=>e = .returned (.tuple #[.string ⟨s.toArray⟩,.int .i64 er])/\Below w.heap.size w w':=by
 have:=Qmx p v w hv hP hl;rw [H.out] at this;exact this
theorem Qjd (m:Int) (s:List UInt8) (ns:List Nd) (i er:Int) (H:Hid (QeV s=(ns,i,er))) (w:World) (hm:SynG m w) (hs:s.length<=9223372036854775000) :
  Calls Tryz.prog 22 #[.string ⟨s.toArray⟩] w fun en w'=>∃ v,en = .returned (.tuple #[v,.int .i64 i,.int .i64 er])/\NodesI w' w.heap.size v ns/\Below w.heap.size w w':=by
 have:=Qr0 m s w hm hs;rw [H.out] at this;exact this
theorem QoE (s:List UInt8):∀ (f:Nat) (ns:List Nd) (pos q:Nat) (ms:List Nd),pos<=s.length->(∀ n∈ns,NdD n)->QcW s f ns pos = .ok q ms->∀ n∈ms,NdD n
 | 0,ns,pos,q,ms,hp,h,e=>by rw [QcW] at e;cases e
 | f+1,ns,pos,q,ms,hp,h,e=>by
   by_cases hpe:pos=s.length
   ·rw [QcW,if_pos hpe] at e;injection e with _ e;rw [<- e];exact h
   ·rw [Qjc hpe] at e;have hd:=Qbj s (s.length+1) 68 false pos s.length hp Zc;cases hx:Qaw s (s.length+1) 68 false pos s.length with
    | no r err=>rw [hx] at e;cases e
    | ok r ks =>
      rw [hx] at e hd;obtain ⟨_,d2,_,_,d5⟩:=hd;exact QoE s f (ns++ks) r q ms d2 (fun n hn=>by
       rcases List.mem_append.1 hn with h1|h1
       ·exact h n h1
       ·exact d5 n h1) e
theorem QtJ (s:List UInt8):∀ n∈(QeV s).1,NdD n:=by
 unfold QeV;split
 ·intro n h;cases h
 ·cases hx:QcW s (s.length+1) [] 0 with
  | no q err=>intro n h;cases h
  | ok q ns =>
    unfold QpG;simp only [];split
    ·exact QoE s _ [] 0 q ns (Nat.zero_le _) (by simp) hx
    ·intro n h;cases h
theorem QtK (s:List UInt8):(QeV s).1.length<=2048:=by
 unfold QeV;split
 ·simp
 ·unfold QpG;split
  ·simp
  ·split
   ·next hv =>
    unfold QaS at hv;rw [Bool.and_eq_true,decide_eq_true_eq] at hv;exact hv.1
   ·simp
theorem NdD.ok {l:List Nd} (h:∀ n∈l,NdD n):NdsOk l:=fun t ht=>by have:=h t ht;unfold NdD at this;omega
def aw6:List UInt8:=[19,95,65,68,82,10,16]
theorem QwC:QcS awP=(aw6,0):=by decide +kernel
theorem QwD:QeV aw6=(awP,0,0):=by decide +kernel
theorem QwE:QeV [19,95]=([],1,4):=by decide +kernel
theorem awP_nds6:NdsOk awP/\Qi4 awP:=by
 constructor
 ·intro t ht;simp only [awP,List.mem_cons,List.not_mem_nil,or_false] at ht;rcases ht with rfl|rfl|rfl<;>simp
 ·intro t ht;simp only [awP,List.mem_cons,List.not_mem_nil,or_false] at ht;rcases ht with rfl|rfl|rfl<;>simp
set_option maxRecDepth 100000 in
theorem Qcq (m:Int) (w:World) (hm:SynG m w):Calls Tryz.prog 20 #[] w fun e w'=>e = .returned (.bool true)/\Below w.heap.size w w':=by
 have HP1:=Za (Qsa aw1 awP 0 0 m (Za QwB) w hm (by decide));have HG:=Za hm;unfold aw1 at HP1;clear hm;go_enter Tryz.func20,Tryz.ntmps20;go_wp2_with fail;((with_reducible refine HP1.out.mono ?_));rintro e w1 ⟨v1,rfl,hv1,hb1⟩;obtain ⟨a1,c1,rfl⟩:=hv1.form;have HG1:=Za (HG.out.below hb1 HG.out.low);have HN1:=Za (hv1.sl awP_nds6.1);have HB1:=Za hb1;have HP2:=Za (Qhj m awP aw6 0 (Za QwC) _ w1 HN1.out HG1.out awP_nds6.2 (by decide));unfold aw6 at HP2;clear hv1 hb1 HP1 HG;go_wp2_with fail;((with_reducible refine HP2.out.mono ?_));rintro e w2 ⟨rfl,hb2⟩;have HG2:=Za (HG1.out.below hb2 HG1.out.low);have HN2:=Za (HN1.out.below hb2);have HB2:Hid (Below w.heap.size w w2):=Za (Qah HB1.out Zc hb2);have HP3:=Za (Qjd m aw6 awP 0 0 (Za QwD) w2 HG2.out (by decide));unfold aw6 at HP3;clear hb2 HP2 HG1 HN1 HB1;go_wp2_with fail;((with_reducible refine HP3.out.mono ?_));rintro e w3 ⟨v3,rfl,hv3,hb3⟩;obtain ⟨a3,c3,rfl⟩:=hv3.form;have HG3:=Za (HG2.out.below hb3 HG2.out.low);have HN3:=Za (HN2.out.below hb3);have HM3:=Za (hv3.sl awP_nds6.1);have HB3:Hid (Below w.heap.size w w3):=Za (Qah HB2.out Zc hb3);have HP4:=Za (Qjd m [19,95] [] 1 4 (Za QwE) w3 HG3.out (by decide));clear hv3 hb3 HP3 HG2 HN2 HB2;go_wp2_with fail;((with_reducible refine HP4.out.mono ?_));rintro e w4 ⟨v4,rfl,hv4,hb4⟩;have HN4:=Za (HN3.out.below hb4);have HM4:=Za (HM3.out.below hb4);have HB4:Hid (Below w.heap.size w w4):=Za (Qah HB3.out Zc hb4);have HEQ:=Za (QjM _ _ awP w4 HN4.out HM4.out (by decide));clear hv4 hb4 HP4 HG3 HN3 HM3 HB3;go_wp2_with fail;((with_reducible refine HEQ.out.mono ?_));rintro e w5 ⟨rfl,n,rfl⟩;go_wp2_with fail;go_ret;exact ⟨rfl,below_drewN HB4.out n⟩
end
section
open Go.RowKit
attribute [local go_sem] ByteArray.mk_append_mk Qac Qad Qae
def Keep (C:Nat) (w w':World):Prop:=w.grownBy w' (some C)
theorem Keep.refl (C:Nat) (w:World):Keep C w w:=World.grownBy.refl w _
theorem Keep.trans {C:Nat} {a b c:World} (h:Keep C a b) (k:Keep C b c):Keep C a c:=World.grownBy.trans h k
theorem Keep.of {C:Nat} {w w':World} (h:Below w.heap.size w w'):Keep C w w':=⟨h.os,h.tape,h.output,h.size,fun k hk _=>h.block k hk⟩
theorem Keep.drewN {C:Nat} {a w:World} (h:Keep C a w) (n:Nat):Keep C a (w.drewN n):=⟨h.os,h.tape,h.output,h.size,h.block⟩
theorem Keep.setC {C:Nat} {a w:World} (h:Keep C a w) (j:Nat) (v:Value):Keep C a (w.setCell ⟨C,j,none⟩ v) :=
 h.trans ⟨rfl,rfl,rfl,by simp [World.setCell],fun k hk hne=>Below.heap_setCell _ _ _ _ (fun e=>hne (by rw [e]))⟩
theorem Keep.below {C B:Nat} {w w':World} (h:Keep C w w') (hB:B<=w.heap.size) (hC:B<=C):Below B w w' :=
 ⟨h.os,h.tape,h.output,h.size,fun k hk=>h.block k (by omega) (fun e=>by injection e with e;omega)⟩
abbrev Qqz (tv:Value) (i:Int):Obj:=.cells #[tv,.int .i64 i] 95 (0,0)
theorem Qnn {w:World} {b t:Nat} {c0 c1:Value} (h:w.heap[b]?=some (.cells #[c0,c1] t (0,0))):w.cell? ⟨b,0,none⟩=some c0/\w.cell? ⟨b,1,none⟩=some c1 :=
 ⟨cell_of_row w b 0 _ _ (0,0) h,cell_of_row w b 1 _ _ (0,0) h⟩
def CSt (w:World) (C:Nat):Prop:=∃ (a:Option Addr) (cap i:Nat) (l:List Int),w.heap[C]?=some (Qqz (.slice a l.length cap) i)/\i<=l.length/\l.length<=140737488351232 /\
 (l≠[]->∃ b off,a=some ⟨b,off,none⟩/\b<C/\∀ k (h:k<l.length),w.cell? ⟨b,off+k,none⟩=some (.int .i64 l[k]))/\∀ x∈l,-9223372036854775808<=x/\x<=9223372036854775807
theorem CSt.keep {w w':World} {C:Nat} (h:CSt w C) (hk:Below w.heap.size w w'):CSt w' C:=by
 obtain ⟨a,cap,i,l,h1,h2,h3,h4,h5⟩:=h;refine ⟨a,cap,i,l,Qab h1 hk,h2,h3,fun hn=>?_,h5⟩;obtain ⟨b,off,ha,hb,hc⟩:=h4 hn;exact ⟨b,off,ha,hb,fun k hkl=>(hk.cell (p:=⟨b,off+k,none⟩) (World.block_lt_of_cell? w _ (hc k hkl))).trans (hc k hkl)⟩
theorem CSt.lt {w:World} {C:Nat} (h:CSt w C):C<w.heap.size:=by
 obtain ⟨a,cap,i,l,h1,_⟩:=h;exact lt_of_block h1
theorem CSt.grown {w w':World} {C:Nat} {row:Option Nat} (h:CSt w C) (hg:w.grownBy w' row) (hr:∀ g,row=some g->C<g):CSt w' C:=by
 obtain ⟨a,cap,i,l,h1,h2,h3,h4,h5⟩:=h;refine ⟨a,cap,i,l,QgZ h1 hg (fun e=>by have:=hr C e.symm;omega),h2,h3,fun hn=>?_,h5⟩;obtain ⟨b,off,ha,hb,hc⟩:=h4 hn;exact ⟨b,off,ha,hb,fun k hkl=>hg.cell (hc k hkl) (fun e=>by have:=hr b e.symm;omega)⟩
theorem Keep.grown {C:Nat} {w a b:World} {row:Option Nat} (h:Keep C w a) (hg:a.grownBy b row) (hr:∀ g,row=some g->w.heap.size<=g):Keep C w b :=
 ⟨hg.os.trans h.os,hg.tape.trans h.tape,hg.output.trans h.output,Nat.le_trans h.size hg.size,fun k hk hne=>(hg.block k (Nat.lt_of_lt_of_le hk h.size) (fun e=>by have:=hr k e.symm;omega)).trans (h.block k hk hne)⟩
theorem QmG {w:World} {b C j:Nat} {p:Nat} {v u:Value} (h:w.cell? ⟨b,p,none⟩=some v) (hb:b≠C):(w.setCell ⟨C,j,none⟩ u).cell? ⟨b,p,none⟩=some v :=
 (World.cell?_of_block (a:=⟨b,p,none⟩) (heap_setCell_other w ⟨C,j,none⟩ b u hb)).trans h
theorem QoF {P:Program} {f:FuncId} {args:Array Value} {w:World} {n:Nat} {v:Value}
  (h:Calls P f args (w.drewN n) fun e w'=>e = .returned v/\w.drewN n=w'):Calls P f args (w.drewN n) fun e w''=>e = .returned v/\∃ m,w''=w.drewN m :=
 h.mono fun _ _ ⟨he,hm⟩=>⟨he,n,hm.symm⟩
theorem Qal (C:Nat) (n:Int) (w:World) (h:CSt w C) (hn:0<n) (hn2:n<=9223372036854775807) :
  Calls Tryz.prog 29 #[.pointer (some ⟨C,0,none⟩),.int .i64 n] w fun e w'=>∃ k:Nat,e = .returned (.int .i64 k)/\(k:Int)<n/\CSt w' C/\Keep C w w':=by
 have HC:=Za h;obtain ⟨a,cap,i,l,h1,h2,h3,h4,h5⟩:=h;obtain ⟨c0,c1⟩:=Qnn h1;by_cases hlt:i<l.length
 ·have hi1:¬ (i:Int)>=(l.length:Int):=by omega
  have hi2:(i:Int)<(l.length:Int):=by omega
  obtain ⟨b,off,rfl,hbC,hc⟩:=h4 (by rintro rfl;simp at hlt);have hb:b≠C:=by omega
  have k0:=hc i hlt;have hx:=h5 l[i] (List.getElem_mem hlt);have HST:Hid (∀ q,CSt ((w.drewN q).setCell ⟨C,1,none⟩ (.int .i64 ((i:Int)+1))) C):=Za (fun q=>by
   refine ⟨some ⟨b,off,none⟩,cap,i+1,l,?_,by omega,h3,fun _=>⟨b,off,rfl,hbC,fun k hk=>?_⟩,h5⟩
   ·have:=heap_setCell_same (w.drewN q) _ 1 _ _ (.int .i64 ((i:Int)+1)) h1;rw [this]<;>rfl
   ·exact QmG (w:=w.drewN q) (hc k hk) hb)
  obtain ⟨x,hxe⟩:∃ x,l[i]=x:=⟨_,rfl⟩;rw [hxe] at k0 hx;have HMD:=Za (fun w=>Qj0 x n w hn hn2);have hnn:=QdC x n hn;have hln:=Qik x n hn;obtain ⟨z,hz⟩:∃ z:Nat,Qij x n=z:=⟨(Qij x n).toNat,by omega⟩;rw [hz] at HMD hln;have f1:=Qay h1 1;have d0:∀ q,((w.drewN q).setCell ⟨C,1,none⟩ (.int .i64 ((i:Int)+1))).cell? ⟨C,0,none⟩=some (.slice (some ⟨b,off,none⟩) l.length cap):=fun q=>by
   have:=heap_setCell_same (w.drewN q) _ 1 _ _ (.int .i64 ((i:Int)+1)) h1;exact (Qnn (c0:=.slice (some ⟨b,off,none⟩) l.length cap) (c1:=.int .i64 ((i:Int)+1)) (by rw [this]<;>rfl)).1
  have d1:∀ q,((w.drewN q).setCell ⟨C,1,none⟩ (.int .i64 ((i:Int)+1))).cell? ⟨C,1,none⟩=some (.int .i64 ((i:Int)+1)):=fun q=>by
   have:=heap_setCell_same (w.drewN q) _ 1 _ _ (.int .i64 ((i:Int)+1)) h1;exact (Qnn (c0:=.slice (some ⟨b,off,none⟩) l.length cap) (c1:=.int .i64 ((i:Int)+1)) (by rw [this]<;>rfl)).2
  have d2:∀ q,((w.drewN q).setCell ⟨C,1,none⟩ (.int .i64 ((i:Int)+1))).cell? ⟨b,off+i,none⟩=some (.int .i64 x):=fun q=>QmG (w:=w.drewN q) k0 hb;have HKP:Hid (∀ q,Keep C w ((w.drewN q).setCell ⟨C,1,none⟩ (.int .i64 ((i:Int)+1)))):=Za (fun q=>((Keep.refl C w).drewN q).setC 1 _);clear h1 h4 h5 hc hxe hz hnn;go_enter Tryz.func29,Tryz.ntmps29;go_upto_region 1 with fail;go_quiet (fail);go_wp2_with fail;go_upto_region 4 with fail;have e0:=d0 nq;have e1:=d1 nq;have e2:=d2 nq;have HS2:=Za (HST.out nq);have HK2:=Za (HKP.out nq);clear d0 d1 d2 HST HKP c0 c1 k0 f1;generalize (w.drewN nq).setCell ⟨C,1,none⟩ (.int .i64 ((i:Int)+1))=W at e0 e1 e2 HS2 HK2 |-;have hwr:IntKind.i64.wrap (i:Int)=(i:Int):=by rw [IntKind.wrap_i64];omega
  go_quiet ((go_at_call 24;with_reducible refine QoF (HMD.out _)));go_wp2_with fail;go_ret;exact ⟨z,rfl,hln,HS2.out.keep (below_drewN Zb _),HK2.out.drewN _⟩
 ·have hi1:(i:Int)>=(l.length:Int):=by omega
  clear h4 h5 h1;go_enter Tryz.func29,Tryz.ntmps29;go_upto_region 1 with fail;go_quiet (fail);go_wp2_with fail;go_ret;exact ⟨0,rfl,by omega,HC.out.keep (below_drewN Zb _),(Keep.refl C w).drewN _⟩
theorem QiI (C:Nat) (w:World) (h:CSt w C) :
  Calls Tryz.prog 30 #[.pointer (some ⟨C,0,none⟩)] w fun e w'=>∃ b,e = .returned (.bool b)/\CSt w' C/\Keep C w w':=by
 have HC:=Za h;obtain ⟨a,cap,i,l,h1,h2,h3,h4,h5⟩:=h;obtain ⟨c0,c1⟩:=Qnn h1;clear h1 h4 h5;go_enter Tryz.func30,Tryz.ntmps30;go_upto_region 1 with fail;go_quiet (fail);go_wp2_with fail;go_ret;exact ⟨_,rfl,HC.out.keep (below_drewN Zb _),(Keep.refl C w).drewN _⟩
def IArg (w:World) (v:Value) (l:List Int):Prop :=
 ∃ (a:Option Addr) (cap:Nat),v = .slice a l.length cap/\l.length<=140737488351232/\(l≠[]->∃ b off,a=some ⟨b,off,none⟩/\∀ k (h:k<l.length),w.cell? ⟨b,off+k,none⟩=some (.int .i64 l[k]))/\∀ x∈l,-9223372036854775808<=x/\x<=9223372036854775807
theorem Qno (v:Value) (l:List Int) (w:World) (h:IArg w v l) :
  Calls Tryz.prog 26 #[v] w fun e w'=>e = .returned (.pointer (some ⟨w.heap.size,0,none⟩))/\CSt w' w.heap.size/\Below w.heap.size w w':=by
 obtain ⟨a,cap,rfl,hl,hc,hx⟩:=h;have HC:Hid (CSt (w.alloc (Qqz (.slice a l.length cap) 0)) w.heap.size):=Za (by
  refine ⟨a,cap,0,l,heap_alloc_new _ _,Nat.zero_le _,hl,fun hn=>?_,hx⟩;obtain ⟨b,off,ha,hk⟩:=hc hn;have hb:b<w.heap.size:=World.block_lt_of_cell? w ⟨b,off+0,none⟩ (hk 0 (List.length_pos_iff.2 hn));exact ⟨b,off,ha,hb,fun k hkl=>(Below.cell (Zb.alloc Zc _) (p:=⟨b,off+k,none⟩) hb).trans (hk k hkl)⟩)
 have HB:Hid (Below w.heap.size w (w.alloc (Qqz (.slice a l.length cap) 0))):=Za (Zb.alloc Zc _);clear hc hx;go_enter Tryz.func26,Tryz.ntmps26;go_wp2_with fail;go_ret;exact ⟨rfl,HC.out,HB.out⟩
abbrev QtL:Obj:=.cells #[.string ⟨#[65]⟩,.string ⟨#[66]⟩,.string ⟨#[67]⟩,.string ⟨#[68,69,86,48]⟩,.string ⟨#[80,87,82,48]⟩,.string ⟨#[95,83,84,65]⟩,.string ⟨#[77,84,88]⟩,.string ⟨#[69,86,84]⟩,.string ⟨#[70,49]⟩,.string ⟨#[77]⟩] 9
def segL:List (List UInt8):=[[65],[66],[67],[68,69,86,48],[80,87,82,48],[95,83,84,65],[77,84,88],[69,86,84],[70,49],[77]]
theorem QwF:∀ k:Fin 10,∃ x∈segL,segL[k.val]?=some x/\x.length<=4:=by decide +kernel
theorem QtM {w:World} {A:Nat} (h:w.heap[A]?=some QtL) (k:Nat) (hk:k<10):∃ x:List UInt8,x.length<=4/\w.cell? ⟨A,k,none⟩=some (.string ⟨x.toArray⟩):=by
 obtain ⟨x,_,h1,h2⟩:=QwF ⟨k,hk⟩;refine ⟨x,h2,?_⟩;rw [cell_of_row w A k _ _ (0,0) h];have e:(segL.map Qb4).toArray[k]?=some (Qb4 x):=by
  have h1':segL[k]?=some x:=h1;rw [List.getElem?_toArray,List.getElem?_map,h1']<;>rfl
 exact e
theorem Qvv (n:Int) (w:World) :
  Calls Tryz.prog 57 #[.int .i64 n] w fun e w'=>∃ s:List UInt8,e = .returned (.string ⟨s.toArray⟩)/\s.length<=4/\Below w.heap.size w w':=by
 have hA:(w.alloc QtL).heap[w.heap.size]?=some QtL:=heap_alloc_new _ _;have HB:Hid (Below w.heap.size w (w.alloc QtL)):=Za (Zb.alloc Zc _);have hnn:=QdC n 10 (by omega);have hln:=Qik n 10 (by omega);obtain ⟨z,hz⟩:∃ z:Nat,Qij n 10=z:=⟨(Qij n 10).toNat,by omega⟩;have HMD:=Za (fun w=>Qj0 n 10 w (by omega) (by omega));rw [hz] at HMD hln;obtain ⟨x,hx,c0⟩:=QtM hA z (by omega);have hz10:(z:Int)<10:=hln;clear hA hnn hz;go_enter Tryz.func57,Tryz.ntmps57;go_upto_region 2 with fail;obtain ⟨A,hAe⟩:∃ A,w.heap.size=A:=⟨_,rfl⟩;have HAE:=Za hAe;rw [hAe] at c0;(try simp only [hAe]);clear hAe;generalize w.alloc QtL=W at c0 HB |-;go_wp2_with fail;((with_reducible refine (HMD.out _).mono ?_));rintro e w1 ⟨rfl,rfl⟩;go_wp2_with fail;go_ret;exact ⟨x,rfl,hx,HB.out⟩
end
section
open Go.RowKit
attribute [local go_sem] ByteArray.mk_append_mk Qac Qad Qae
def NdG (t:Nd):Prop:=t.str.length<=6/\0<=t.num/\t.num<=18446744073709551615
def QaJ (op:Int):Prop:=10<=op/\op<=12\/op=14\/op=16\/op=17\/op=31\/op=32
inductive Tre:Nat->List Nd->Prop
 | flat (h:Nat) (n:Nd) (ks:List (List Nd)) (hp:n.pos=ks.length) (hn:¬ QaJ n.kind) (hk:∀ k∈ks,Tre h k):Tre h (n::ks.flatten)
 | nest (h:Nat) (n:Nd) (ks:List (List Nd)) (hp:n.pos=ks.length) (hk:∀ k∈ks,Tre h k):Tre (h+1) (n::ks.flatten)
theorem Tre.mono {h:Nat} {l:List Nd} (t:Tre h l):∀ {h':Nat},h<=h'->Tre h' l:=by
 induction t with
 | flat h n ks hp hn hk ih=>intro h' hh;exact .flat h' n ks hp hn (fun k hkk=>ih k hkk hh)
 | nest h n ks hp hk ih =>
   intro h' hh;obtain ⟨g,rfl⟩:∃ g,h'=g+1:=⟨h'-1,by omega⟩;exact .nest g n ks hp (fun k hkk=>ih k hkk (by omega))
def For6 (l:List Nd):Prop:=∃ ts:List (List Nd),l=ts.flatten/\∀ t∈ts,Tre 6 t
theorem For6.nil:For6 []:=⟨[],rfl,fun t h=>by cases h⟩
theorem For6.snoc {l l2:List Nd} (h:For6 l) (h2:Tre 6 l2):For6 (l++l2):=by
 obtain ⟨ts,rfl,h1⟩:=h;refine ⟨ts++[l2],by simp,fun t ht=>?_⟩;rcases List.mem_append.1 ht with h|h
 ·exact h1 t h
 ·simp only [List.mem_cons,List.not_mem_nil,or_false] at h;subst h;exact h2
def dpN (N:Nat):Nat:=if N<16 then 0 else if N<140 then 1 else if N<1000 then 2 else if N<6055 then 3 else if N<18173 then 4 else if N<54530 then 5 else 6
theorem QiJ {N M:Nat} (h:N<=M):dpN N<=dpN M:=by
 unfold dpN
 repeat' split
 all_goals omega
theorem QwG (N:Nat):dpN N<=6:=by
 unfold dpN
 repeat' split
 all_goals omega
theorem QtN:∀ (Ns:List Nat) (N:Nat),N∈Ns->N<=Ns.sum
 | [],N,h=>by cases h
 | a::r,N,h=>by
   rw [List.sum_cons];rcases List.mem_cons.1 h with rfl|h
   ·omega
   ·have:=QtN r N h;omega
def NV (w:World) (B N:Nat) (v:Value):Prop:=∃ ns:List Nd,NodesI w B v ns/\(∀ t∈ns,NdG t)/\ns.length<=N/\ns≠[]/\Tre (dpN N) ns
theorem NV.below {w w':World} {B N:Nat} {v:Value} (h:NV w B N v) (hb:Below w.heap.size w w'):NV w' B N v:=by
 obtain ⟨ns,h1,h2,h3⟩:=h;exact ⟨ns,h1.below hb,h2,h3⟩
theorem NV.base {w:World} {B B' N:Nat} {v:Value} (h:NV w B N v) (hB:B'<=B):NV w B' N v:=by
 obtain ⟨ns,h1,h2,h3⟩:=h;exact ⟨ns,Qgz h1 hB,h2,h3⟩
theorem NV.more {w:World} {B N M:Nat} {v:Value} (h:NV w B N v) (hN:N<=M):NV w B M v:=by
 obtain ⟨ns,h1,h2,h3⟩:=h;exact ⟨ns,h1,h2,by have:=h3.1;omega,h3.2.1,h3.2.2.mono (QiJ hN)⟩
theorem QtO {w:World} {B:Nat} {v:Value} {l:List Nd} (h:NodesI w B v l) {C:Nat} {tv:Value} {i:Int} (hb:w.heap[C]?=some (Qqz tv i)):v.ownBlock≠some C:=by
 intro e;obtain ⟨cur,hc⟩:=QcB h e;rw [hb] at hc;injection hc with hc;injection hc with _ h2 _;exact absurd h2 (by decide)
theorem NV.keep {w w':World} {B N C:Nat} {v:Value} (h:NV w B N v) (hC:CSt w C) (hk:Keep C w w'):NV w' B N v:=by
 obtain ⟨ns,h1,h2,h3⟩:=h;obtain ⟨a,cap,i,l,hc,_⟩:=hC;exact ⟨ns,Qd3 h1 hk (fun g hg e=>QtO h1 hc (by rw [hg,e])),h2,h3⟩
def KSl (w:World) (kv:Value) (vs:List Value):Prop :=
 ∃ (a:Option Addr) (cap:Nat),kv = .slice a vs.length cap/\(vs≠[]->∃ b off,a=some ⟨b,off,none⟩/\∀ i (h:i<vs.length),w.cell? ⟨b,off+i,none⟩=some vs[i])
theorem KSl.below {w w':World} {kv:Value} {vs:List Value} (h:KSl w kv vs) (hb:Below w.heap.size w w'):KSl w' kv vs:=by
 obtain ⟨a,cap,hv,hc⟩:=h;refine ⟨a,cap,hv,fun hn=>?_⟩;obtain ⟨b,off,ha,hk⟩:=hc hn;exact ⟨b,off,ha,fun i hi=>(hb.cell (p:=⟨b,off+i,none⟩) (World.block_lt_of_cell? w _ (hk i hi))).trans (hk i hi)⟩
theorem QqA:∀ (l:List Nd) (u:Value),u∈tcI l->u.oneCell'=true
 | [],u,h=>by cases h
 | t::r,u,h=>by
   simp only [tcI,List.mem_cons] at h;rcases h with rfl|rfl|rfl|rfl|h
   ·rfl
   ·rfl
   ·rfl
   ·rfl
   ·exact QqA r u h
theorem Qaq {w:World} {ops:Array Oper} {rest:List Oper} {o:Oper} {a:Act} {Q:Exit->Act->World->Prop} (hgd:o.guard=none) (s x:Operand)
  (ho:o.op = .call { callee:=.builtin .append,args:=#[s,x],argTypes:=#[24,24] })
  (B:Nat) (v:Value) (l1:List Nd) (hs:a.eval s=v) (hown:NodesI w B v l1)
  (B2:Nat) (y:Value) (l2:List Nd) (hx:a.eval x=y) (hy:NodesI w B2 y l2) (hlen:l1.length+l2.length<=1000000) (hB:B<=w.heap.size)
  (h:∀ v' w',NodesI w' B v' (l1++l2)->w.grownBy w' v.ownBlock->wpList Tryz.prog ops Q rest (a.put o.dst v') w'):wpList Tryz.prog ops Q (o::rest) a w:=by
 obtain ⟨i0,hi,hz0,hz1,hz2⟩:=info_parts QnO;rcases hy.2 with ⟨rfl,h0⟩|⟨g,cap,cur,rfl,hg,hb,hn,hm,hsz,ht⟩
 ·have hn:l2=[]:=List.eq_nil_of_length_eq_zero h0;subst hn;refine wpList_append_own_none hgd s x _ ho B 46 i0 4 Tryz.underlying24 hi v l1.length _ hs hown hx ?_;exact h v w (by simpa using hown) (World.grownBy.refl _ _)
 ·refine wpList_append_own _ hgd s x _ ho B 46 i0 _ 4 40 Tryz.underlying24 hi hz0 hz1 hz2 rfl (by decide) v l1.length _ hs hown ⟨g,0,none⟩ l2.length cap (tcI l2) hx (by rw [Qc1]) ?_ ?_ (by unfold maxLen;omega) (by omega) hB ?_
  ·intro j z hj;have e:(⟨g,0,none⟩:Addr).add j=⟨g,j,none⟩:=by by_cases h:j=0<;>simp [Addr.add,h]
   have hjl:j<l2.length * 4:=by
    rcases Nat.lt_or_ge j (l2.length * 4) with h|h
    ·exact h
    ·rw [List.getElem?_eq_none (by rw [Qc1];omega)] at hj;cases hj
   rw [e,World.ownsRow.cellAt hy j hjl];exact hj
  ·intro z hz;exact QqA l2 z hz
  ·intro v' w' h1 h2 _;refine h v' w' ?_ h2;unfold NodesI;rw [List.length_append,QdS];exact h1
theorem QcI {Ns:List Nat} {B K:Nat} (hK:K<=1+Ns.sum) (hB:dpN B+1<=dpN K) (h:∀ N∈Ns,N<=B):∃ g,dpN (1+Ns.sum)=g+1/\∀ N∈Ns,dpN N<=g:=by
 have hm:=QiJ hK;refine ⟨dpN (1+Ns.sum)-1,by omega,fun N hN=>?_⟩;have:=QiJ (h N hN);omega
def KT (Ns:List Nat) (n:Nd) (k:Nat) (l:List Nd):Prop:=∃ ks:List (List Nd),l=n::ks.flatten/\ks.length=k/\∀ j (h:j<ks.length),∃ h2:j<Ns.length,Tre (dpN Ns[j]) ks[j]
theorem KT.ne {Ns:List Nat} {n:Nd} {k:Nat} {l:List Nd} (h:KT Ns n k l):l≠[]:=by
 obtain ⟨ks,rfl,_⟩:=h;simp
theorem KT.snoc {Ns:List Nat} {n:Nd} {k:Nat} {l l2:List Nd} (h:KT Ns n k l) (hk:k<Ns.length) (ht2:Tre (dpN Ns[k]) l2):KT Ns n (k+1) (l++l2):=by
 obtain ⟨ks,rfl,hl,hj⟩:=h;refine ⟨ks++[l2],by simp,by simp [hl],fun j hjl=>?_⟩;by_cases hjk:j<ks.length
 ·rw [List.getElem_append_left hjk];exact hj j hjk
 ·have hjk2:j=k:=by rw [List.length_append,List.length_singleton] at hjl;omega
  subst hjk2;refine ⟨hk,?_⟩;rw [List.getElem_append_right (by omega)];simp only [hl,Nat.sub_self,List.getElem_singleton];exact ht2
theorem KT.tre {Ns:List Nat} {op num:Int} {s:List UInt8} {k:Nat} {l:List Nd} (h:KT Ns ⟨op,num,s,k⟩ k l) (hk:Ns.length=k) (hnp:QaJ op->∃ g,dpN (1+Ns.sum)=g+1/\∀ N∈Ns,dpN N<=g):Tre (dpN (1+Ns.sum)) l:=by
 obtain ⟨ks,rfl,hl,hj⟩:=h;have key:∀ x∈ks,∃ N∈Ns,Tre (dpN N) x:=by
  intro x hx;obtain ⟨j,hjl,rfl⟩:=List.mem_iff_getElem.1 hx;obtain ⟨h2,h3⟩:=hj j hjl;exact ⟨_,List.getElem_mem h2,h3⟩
 by_cases hn:QaJ op
 ·obtain ⟨g,hg,hall⟩:=hnp hn;rw [hg];refine .nest g _ ks (by simp [hl]) (fun x hx=>?_);obtain ⟨M,hM,hx2⟩:=key x hx;exact hx2.mono (hall M hM)
 ·refine .flat _ _ ks (by simp [hl]) hn (fun x hx=>?_);obtain ⟨M,hM,hx2⟩:=key x hx;exact hx2.mono (QiJ (by have:=QtN Ns M hM;omega))
theorem Qlq:∀ (l:List Nat) (k:Nat) (h:k<l.length),(l.take (k+1)).sum=(l.take k).sum+l[k]
 | a::r,0,h=>by simp
 | a::r,k+1,h=>by
   have:=Qlq r k (by simpa using h);simp only [List.take_succ_cons,List.sum_cons,List.getElem_cons_succ] at this |-;omega
theorem QdF:∀ (l:List Nat) (k:Nat),(l.take k).sum<=l.sum
 | [],k=>by simp
 | a::r,0=>by simp
 | a::r,k+1=>by
   have:=QdF r k;simp only [List.take_succ_cons,List.sum_cons];omega
set_option maxRecDepth 100000 in
theorem QcU (op num:Int) (s:List UInt8) (kv:Value) (vs:List Value) (Ns:List Nat) (w:World) (hs:s.length<=6) (hn0:0<=num/\num<=18446744073709551615) (hnp:QaJ op->∃ g,dpN (1+Ns.sum)=g+1/\∀ N∈Ns,dpN N<=g) (hk:KSl w kv vs) (hNl:Ns.length=vs.length) (hv:∀ i (h:i<vs.length) (h2:i<Ns.length),NV w 0 Ns[i] vs[i]) (hm:vs.length<=10000) (h1:1+Ns.sum<=900000) :
  Calls Tryz.prog 94 #[.int .i64 op,.int .u64 num,.string ⟨s.toArray⟩,kv] w fun e w'=>∃ v,e = .returned v/\NV w' w.heap.size (1+Ns.sum) v/\Below w.heap.size w w':=by
 have HKS:=Za hk;have HVS:=Za hv;obtain ⟨a,cap,rfl,hc⟩:=hk;have HC:=Za hc;obtain ⟨P,hP⟩:∃ P,w.heap.size=P:=⟨_,rfl⟩;have HPE:=Za hP;have HR0:Hid (NodesI (w.alloc (Qaj op num s vs.length)) P (.slice (some ⟨P,0,none⟩) 1 1) [⟨op,num,s,vs.length⟩]):=Za (by rw [<- hP];exact World.ownsRow_lit w (tcI [⟨op,num,s,vs.length⟩]).toArray 1 Zc (by unfold maxLen;omega) rfl);have HB0:Hid (Below P w (w.alloc (Qaj op num s vs.length))):=Za (Zb.alloc (by omega) _);obtain ⟨M,hM⟩:∃ M,vs.length=M:=⟨_,rfl⟩;have HM:=Za hM;have HNL:=Za hNl;have HNP:=Za hnp;have HKT0:Hid (KT Ns ⟨op,num,s,vs.length⟩ 0 [⟨op,num,s,vs.length⟩]):=Za ⟨[],rfl,rfl,fun j h=>(by cases h)⟩;rw [hM] at hm HR0 HB0 HKS HKT0;rw [hP,hM];clear hv hc hNl hnp;go_enter Tryz.func94,Tryz.ntmps94;go_upto_region 2 with fail;(try simp only [hP]);generalize w.alloc (Qaj op num s M)=W0 at HR0 HB0 |-;clear hP hM;go_wp2_with fail;go_loopw [9,10] (fun x i wr=>∃ (v:Value) (k:Nat) (ns:List Nd),v=x/\i = .int .i64 k/\k<=M/\ns.length<=1+(Ns.take k).sum/\Hid (KT Ns ⟨op,num,s,M⟩ k ns)/\Hid (NodesI wr P v ns)/\Hid (∀ t∈ns,NdG t)/\Hid (Below P w wr)) (fun _ i _=>M-(intOf i).toNat)
 case atStart=>exact ⟨_,0,_,rfl,rfl,by omega,by simp,HKT0,HR0,Za (by intro t ht;simp only [List.mem_cons,List.not_mem_nil,or_false] at ht;subst ht;exact ⟨hs,hn0⟩),HB0⟩
 case round =>
  clear HR0 HB0 HKT0;obtain ⟨v,k,ns,rfl,rfl,hkM,hnl,HKT,HR,HG,HB⟩:=hrel;obtain ⟨w3,rfl⟩:∃ y:World,y=wr:=⟨_,rfl⟩;have hsz:P<=w3.heap.size:=by have:=HB.out.size;have:=HPE.out;omega
  by_cases hlt:k<M
  ·have hlt':(k:Int)<(M:Int):=by omega
   have hkl:k<vs.length:=by rw [HM.out];exact hlt
   obtain ⟨b,off,rfl,hcell⟩:=HC.out (by rintro rfl;simp at hkl);have c0:=hcell k hkl;obtain ⟨y,hy⟩:∃ y,vs[k]=y:=⟨_,rfl⟩;rw [hy] at c0;have hbw:b<w.heap.size:=World.block_lt_of_cell? w _ c0;have d0:w3.cell? ⟨b,off+k,none⟩=some y:=(HB.out.cell (p:=⟨b,off+k,none⟩) (by rw [<- HPE.out];exact hbw)).trans c0;have hkN:k<Ns.length:=by rw [HNL.out];exact hkl
   have hvk:=HVS.out k hkl hkN;rw [hy] at hvk;obtain ⟨l2,j1,j2,j3,_,j5⟩:=hvk;have HKT2:Hid (KT Ns ⟨op,num,s,M⟩ (k+1) (ns++l2)):=Za (HKT.out.snoc hkN j5);have HY:Hid (NodesI w3 0 y l2):=Za (j1.below (HB.out.mono (by rw [HPE.out];exact Nat.le_refl _)));have HG2:=Za j2;have hkk:=Qlq Ns k hkN;have hkb:=QdF Ns k;have hkb2:=QdF Ns (k+1);obtain ⟨sk,hsk⟩:∃ z,(Ns.take k).sum=z:=⟨_,rfl⟩;obtain ⟨sk1,hsk1⟩:∃ z,(Ns.take (k+1)).sum=z:=⟨_,rfl⟩;obtain ⟨nk,hnk⟩:∃ z,Ns[k]=z:=⟨_,rfl⟩;rw [hsk] at hnl hkk hkb;rw [hsk1,hnk] at hkk;rw [hnk] at j3;clear hcell c0 hy j1 j2 j5 HKT;go_wp2_with (at_builtin;refine Qaq rfl _ _ rfl P v ns rfl HR.out 0 y l2 rfl HY.out (by omega) hsz ?_;intro v2 w2 ho hg;have HO:=Za ho;have HGR:=Za hg;clear ho hg);have HB5:Hid (Below P w w2):=Za (HB.out.grown HGR.out hsz (fun j hj=>Qap HR.out hj));have HG5:Hid (∀ t∈ns++l2,NdG t):=Za (fun t ht=>by
    rcases List.mem_append.1 ht with h|h
    ·exact HG.out t h
    ·exact HG2.out t h)
   have hln:(ns++l2).length<=1+(Ns.take (k+1)).sum:=by rw [List.length_append,hsk1];omega
   clear HGR d0 HY HR;go_wp2_with fail;go_roundw
   case rel=>first|exact ⟨k+1,ns++l2,by go_num,by omega,hln,HKT2,HO,HG5,HB5⟩|exact ⟨_,k+1,ns++l2,rfl,by go_num,by omega,hln,HKT2,HO,HG5,HB5⟩
   case measure=>simp [intOf];omega
  ·have hlt':¬ (k:Int)<(M:Int):=by omega
   have hkM2:k=M:=by omega
   go_wp2_with fail;go_ret;subst hkM2;exact ⟨_,rfl,⟨ns,HR.out,HG.out,by rw [List.take_of_length_le (by rw [HNL.out,HM.out];omega)] at hnl;exact hnl,HKT.out.ne,HKT.out.tre (by rw [HNL.out,HM.out]) HNP.out⟩,HB.out⟩
theorem Qag (op:Int) (kv:Value) (vs:List Value) (Ns:List Nat) (w:World) (hnp:QaJ op->∃ g,dpN (1+Ns.sum)=g+1/\∀ N∈Ns,dpN N<=g) (hk:KSl w kv vs) (hNl:Ns.length=vs.length) (hv:∀ i (h:i<vs.length) (h2:i<Ns.length),NV w 0 Ns[i] vs[i]) (hm:vs.length<=10000) (h1:1+Ns.sum<=900000) :
  Calls Tryz.prog 46 #[.int .i64 op,kv] w fun e w'=>∃ v,e = .returned v/\NV w' w.heap.size (1+Ns.sum) v/\Below w.heap.size w w':=by
 have HN:=Za (QcU op 0 [] kv vs Ns w (by simp) (by omega) hnp hk hNl hv hm h1);generalize 1+Ns.sum=NN at HN |-;clear hk hv hm h1 hNl hnp;go_enter Tryz.func46,Tryz.ntmps46;go_wp2_with fail;((with_reducible refine HN.out.mono ?_));rintro e w1 ⟨v,rfl,hv,hb⟩;have HV:=Za hv;have HB:=Za hb;clear hv hb;go_wp2_with fail;go_ret;exact ⟨_,rfl,HV.out,HB.out⟩
theorem KSl.nil (w:World):KSl w (.slice none 0 0) []:=⟨none,0,rfl,fun h=>absurd rfl h⟩
theorem QaR (n:Int) (w:World) (hn:0<=n/\n<=18446744073709551615) :
  Calls Tryz.prog 48 #[.int .u64 n] w fun e w'=>∃ v,e = .returned v/\NV w' w.heap.size 1 v/\Below w.heap.size w w':=by
 have HN:=Za (QcU 1 n [] _ [] [] w (by simp) hn (fun h=>by unfold QaJ at h;omega) (KSl.nil w) rfl (fun i h=>by cases h) (by simp) (by simp));simp only [List.sum_nil,Nat.add_zero] at HN;go_enter Tryz.func48,Tryz.ntmps48;go_wp2_with fail;((with_reducible refine HN.out.mono ?_));rintro e w1 ⟨v,rfl,hv,hb⟩;have HV:=Za hv;have HB:=Za hb;clear hv hb;go_wp2_with fail;go_ret;exact ⟨_,rfl,HV.out,HB.out⟩
theorem Qax (s:List UInt8) (w:World) (hs:s.length<=6) :
  Calls Tryz.prog 47 #[.string ⟨s.toArray⟩] w fun e w'=>∃ v,e = .returned v/\NV w' w.heap.size 1 v/\Below w.heap.size w w':=by
 have HN:=Za (QcU 3 0 s _ [] [] w hs (by omega) (fun h=>by unfold QaJ at h;omega) (KSl.nil w) rfl (fun i h=>by cases h) (by simp) (by simp));simp only [List.sum_nil,Nat.add_zero] at HN;clear hs;go_enter Tryz.func47,Tryz.ntmps47;go_wp2_with fail;((with_reducible refine HN.out.mono ?_));rintro e w1 ⟨v,rfl,hv,hb⟩;have HV:=Za hv;have HB:=Za hb;clear hv hb;go_wp2_with fail;go_ret;exact ⟨_,rfl,HV.out,HB.out⟩
end
section
open Go.RowKit
attribute [local go_sem] ByteArray.mk_append_mk Qac Qad Qae
theorem QoG (C:Nat) (n:Int) (w:World) (h:CSt w C) :
  Calls Tryz.prog 57 #[.int .i64 n] w fun e w'=>∃ s:List UInt8,e = .returned (.string ⟨s.toArray⟩)/\s.length<=4/\CSt w' C/\Keep C w w' :=
 (Qvv n w).mono fun e w' ⟨s,h1,h2,h3⟩=>⟨s,h1,h2,h.keep h3,Keep.of h3⟩
theorem Qfx (C:Nat) (w:World) (h:CSt w C) :
  Calls Tryz.prog 95 #[.pointer (some ⟨C,0,none⟩)] w fun e w'=>∃ s:List UInt8,e = .returned (.string ⟨s.toArray⟩)/\s.length<=5/\CSt w' C/\Keep C w w':=by
 have HN:=Za (Qal C 6 w h (by omega) (by omega));clear h;go_enter Tryz.func95,Tryz.ntmps95;go_wp2_with fail;((with_reducible refine HN.out.mono ?_));rintro e w1 ⟨k,rfl,hk,hc1,hk1⟩;have HN2:=Za (Qal C 10 w1 hc1 (by omega) (by omega));have HK1:=Za hk1;have hcs:(((k:Int)==4)=true)\/(((k:Int)==4)=false/\((k:Int)==5)=true)\/(((k:Int)==4)=false/\((k:Int)==5)=false):=by
  cases (k:Int)==4<;>cases (k:Int)==5<;>simp
 clear hc1 hk1 HN hk;rcases hcs with t1|⟨t1,t2⟩|⟨t1,t2⟩
 all_goals
  go_wp2_with fail;((with_reducible refine HN2.out.mono ?_));rintro e w2 ⟨k2,rfl,hk2,hc2,hkk2⟩;have HS:=Za (QoG C k2 w2 hc2);have HK2:=Za (HK1.out.trans hkk2);clear hc2 hkk2 hk2;go_wp2_with fail;((with_reducible refine HS.out.mono ?_));rintro e w3 ⟨s,rfl,hs,hc3,hk3⟩;have HC3:=Za hc3;have HK3:=Za (HK2.out.trans hk3);clear hc3 hk3;go_wp2_with fail;go_ret;exact ⟨_,rfl,by first|omega|(simp only [List.length_append,List.length_cons,List.length_nil];omega),HC3.out,HK3.out⟩
theorem QgT (C:Nat) (w:World) (h:CSt w C) :
  Calls Tryz.prog 50 #[.pointer (some ⟨C,0,none⟩)] w fun e w'=>∃ n:Int,e = .returned (.int .u64 n)/\(0<=n/\n<=18446744073709551615)/\CSt w' C/\Keep C w w':=by
 have HN:=Za (Qal C 8 w h (by omega) (by omega));clear h;go_enter Tryz.func50,Tryz.ntmps50;go_wp2_with fail;((with_reducible refine HN.out.mono ?_));rintro e w1 ⟨k,rfl,hk,hc1,hk1⟩;have HC1:=Za hc1;have HN2:=Za (Qal C 9 w1 hc1 (by omega) (by omega));have HN3:=Za (Qal C 1073741824 w1 hc1 (by omega) (by omega));have HK1:=Za hk1;have hcs:(((k:Int)==6)=true)\/(((k:Int)==6)=false/\((k:Int)==7)=true)\/(((k:Int)==6)=false/\((k:Int)==7)=false):=by
  cases (k:Int)==6<;>cases (k:Int)==7<;>simp
 clear hc1 hk1 HN hk;rcases hcs with t1|⟨t1,t2⟩|⟨t1,t2⟩
 ·go_wp2_with fail;go_ret;exact ⟨_,rfl,by omega,HC1.out,HK1.out⟩
 ·go_wp2_with fail;((with_reducible refine HN3.out.mono ?_));rintro e w2 ⟨k2,rfl,hk2,hc2,hkk2⟩;have HC2:=Za hc2;have HK2:=Za (HK1.out.trans hkk2);clear hc2 hkk2;go_wp2_with fail;go_ret;exact ⟨_,rfl,by omega,HC2.out,HK2.out⟩
 ·go_wp2_with fail;((with_reducible refine HN2.out.mono ?_));rintro e w2 ⟨k2,rfl,hk2,hc2,hkk2⟩;have HC2:=Za hc2;have HK2:=Za (HK1.out.trans hkk2);clear hc2 hkk2;go_wp2_with fail;go_ret;exact ⟨_,rfl,by omega,HC2.out,HK2.out⟩
def KRow (w:World) (B:Nat) (v:Value) (vs:List Value):Prop:=w.ownsRow B 24 1 v vs.length vs
theorem QtP:(Tryz.prog.info? 24).map (fun i=>(i.zero,i.size,i.bytes))=some (some (.slice none 0 0),1,24):=by kernel_rfl
theorem KRow.form {w:World} {B:Nat} {v:Value} {vs:List Value} (h:KRow w B v vs):∃ a c,v = .slice a vs.length c:=by
 rcases h.2 with ⟨rfl,h0⟩|⟨g,cap,cur,rfl,_⟩
 ·exact ⟨none,0,by rw [h0]⟩
 ·exact ⟨_,cap,rfl⟩
theorem KRow.sl {w:World} {B:Nat} {v:Value} {vs:List Value} (h:KRow w B v vs):KSl w v vs:=by
 rcases h.2 with ⟨rfl,h0⟩|⟨g,cap,cur,rfl,_⟩
 ·exact ⟨none,0,by rw [h0],fun hn=>absurd (List.eq_nil_of_length_eq_zero h0) hn⟩
 ·exact ⟨_,cap,rfl,fun _=>⟨g,0,rfl,fun i hi=>by rw [World.ownsRow.cellAt h (0+i) (by omega),Nat.zero_add,List.getElem?_eq_getElem hi]⟩⟩
theorem KRow.below {w w':World} {B:Nat} {v:Value} {vs:List Value} (h:KRow w B v vs) (hb:Below w.heap.size w w'):KRow w' B v vs:=QbY h hb
theorem KRow.keep {w w':World} {B C:Nat} {v:Value} {vs:List Value} (h:KRow w B v vs) (hC:CSt w C) (hk:Keep C w w'):KRow w' B v vs:=by
 obtain ⟨a,cap,i,l,hc,_⟩:=hC;refine Qd3 h hk (fun g hg e=>?_);injection e with e;obtain ⟨cur,hcur⟩:=QcB h hg;rw [<- e,hc] at hcur;injection hcur with hcur;injection hcur with _ h2 _;exact absurd h2 (by decide)
theorem KRow.nil (w:World) (B:Nat):KRow w B (.slice none 0 0) []:=⟨rfl,.inl ⟨rfl,rfl⟩⟩
theorem Qa1 {w:World} {ops:Array Oper} {rest:List Oper} {o:Oper} {a:Act} {Q:Exit->Act->World->Prop} (hgd:o.guard=none) (s x:Operand)
  (ho:o.op = .call { callee:=.builtin .append,args:=#[s,x],argTypes:=#[133,133] })
  (B:Nat) (v:Value) (vs:List Value) (hs:a.eval s=v) (hown:KRow w B v vs) (g:Nat) (t:Value) (ht:t.oneCell'=true)
  (hx:a.eval x = .slice (some ⟨g,0,none⟩) 1 1) (hb:w.heap[g]?=some (.cells #[t] 24 (0,0))) (hlen:vs.length<=100000) (hB:B<=w.heap.size)
  (h:∀ v' w',KRow w' B v' (vs++[t])->w.grownBy w' v.ownBlock->wpList Tryz.prog ops Q rest (a.put o.dst v') w'):wpList Tryz.prog ops Q (o::rest) a w:=by
 obtain ⟨i0,hi,hz0,hz1,hz2⟩:=info_parts QtP;refine wpList_append_own _ hgd s x _ ho B 24 i0 _ 1 24 Tryz.underlying133 hi hz0 hz1 hz2 rfl (by decide) v vs.length _ hs hown ⟨g,0,none⟩ 1 1 [t] hx rfl ?_ ?_ (by unfold maxLen;omega) (by omega) hB ?_
 ·intro j z hj
  match j,hj with
  | 0,hj=>cases hj;exact cell_of_row w g 0 _ _ (0,0) hb
 ·intro z hz;simp only [List.mem_cons,List.not_mem_nil,or_false] at hz;rw [hz];exact ht
 ·intro v' w' h1 h2 _;refine h v' w' ?_ h2;unfold KRow;rw [List.length_append];exact h1
def GPost (C N:Nat) (w:World) (e:Ending) (w':World):Prop:=∃ v,e = .returned v/\NV w' w.heap.size N v/\CSt w' C/\Keep C w w'
theorem GPost.more {C N M:Nat} {w w':World} {e:Ending} (h:GPost C N w e w') (hN:N<=M):GPost C M w e w':=by
 obtain ⟨v,h1,h2,h3,h4⟩:=h;exact ⟨v,h1,h2.more hN,h3,h4⟩
theorem NV.one {w:World} {B N:Nat} {v:Value} (h:NV w B N v):v.oneCell'=true:=by
 obtain ⟨ns,h1,_⟩:=h;obtain ⟨a,c,rfl⟩:=h1.form;rfl
def NVs (w:World) (N:Nat) (vs:List Value):Prop:=∀ v∈vs,NV w 0 N v
theorem NVs.keep {w w':World} {N C:Nat} {vs:List Value} (h:NVs w N vs) (hC:CSt w C) (hk:Keep C w w'):NVs w' N vs:=fun v hv=>(h v hv).keep hC hk
theorem NVs.below {w w':World} {N:Nat} {vs:List Value} (h:NVs w N vs) (hb:Below w.heap.size w w'):NVs w' N vs:=fun v hv=>(h v hv).below hb
theorem NVs.nil (w:World) (N:Nat):NVs w N []:=fun v hv=>by cases hv
theorem NVs.snoc {w:World} {N:Nat} {vs:List Value} {v:Value} (h:NVs w N vs) (hv:NV w 0 N v):NVs w N (vs++[v]):=fun x hx=>by
 rcases List.mem_append.1 hx with hx|hx
 ·exact h x hx
 ·simp only [List.mem_cons,List.not_mem_nil,or_false] at hx;subst hx;exact hv
theorem NV.grownRow {w w':World} {B B2 N:Nat} {v kv:Value} {vs:List Value} (h:NV w B N v) (hk:KRow w B2 kv vs) (hg:w.grownBy w' kv.ownBlock):NV w' B N v:=by
 obtain ⟨ns,h1,h2,h3⟩:=h;refine ⟨ns,Qd3 h1 hg (fun g hv e=>?_),h2,h3⟩;obtain ⟨cur,hc⟩:=QcB h1 hv;obtain ⟨cur2,hc2⟩:=QcB hk e;rw [hc] at hc2;injection hc2 with hc2;injection hc2 with _ h2 _;exact absurd h2 (by decide)
theorem NVs.grownRow {w w':World} {B2 N:Nat} {us vs:List Value} {kv:Value} (h:NVs w N us) (hk:KRow w B2 kv vs) (hg:w.grownBy w' kv.ownBlock):NVs w' N us:=fun v hv=>(h v hv).grownRow hk hg
theorem NVs.each {w:World} {N:Nat} {vs:List Value} (h:NVs w N vs):∀ i (hi:i<vs.length) (h2:i<(List.replicate vs.length N).length),NV w 0 (List.replicate vs.length N)[i] vs[i]:=fun i hi h2=>by
 rw [List.getElem_replicate];exact h _ (List.getElem_mem hi)
end
end Go.Proofs.YtoohondkpddmcaaGreatDoor
