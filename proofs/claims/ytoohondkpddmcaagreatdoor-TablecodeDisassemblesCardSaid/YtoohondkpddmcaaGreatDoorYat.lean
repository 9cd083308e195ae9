/- Sf Sg Sh Si Sj Sk Sl Sm -/
import Derived.Test.YtoohondkpddmcaaGreatDoorYzz
import Derived.Test.YtoohondkpddmcaaGreatDoorYak
namespace Go.Proofs.YtoohondkpddmcaaGreatDoor
set_option maxHeartbeats 32000000
set_option linter.unusedVariables false
set_option linter.unusedSimpArgs false
section
open Go.RowKit
attribute [local go_sem] ByteArray.mk_append_mk Qah Qai Qag
theorem QnG (root:Bool) (up:Int) (a:Option Addr) (n c:Nat) (w:World) (hn:n<=1000000):Calls Tryz.prog 181 #[.agg #[.bool root,.int .i64 up,.slice a n c]] w fun e w'=>e = .returned (.bool (!root&&(up==0)&&((n:Int)==1)))/\Below w.heap.size w w':=by
 have HB:Hid (∀ o,Below w.heap.size w (w.alloc o)):=Za (fun o=>Zb.alloc Zc _);obtain ⟨b0,b1,b2⟩:=QaT (heap_alloc_new w (.cells #[.bool root,.int .i64 up,.slice a n c] 128));go_enter Tryz.func181,Tryz.ntmps181;go_wp2_with fail
 all_goals
  go_ret;exact ⟨by simp [*],HB.out _⟩
def QeP (x:List UInt8×List UInt8):Value:=.agg #[.string ⟨x.1.toArray⟩,.string ⟨x.2.toArray⟩]
theorem QeQ (tmps:Array Value) (w:World) (b:Nat) (c0 c1:Value) (h2:tmps.getD 2 undef = .pointer (some ⟨b,0,none⟩)) (hb:w.heap[b]?=some (.cells #[c0,c1] 190 (0,0))) :
  (results Tryz.f182 tmps).run Tryz.prog w = .ok (.agg #[c0,c1]) w:=by
 have e0:w.cell? ⟨b,0,none⟩=some c0:=by rw [cell_of_row w b 0 _ _ (0,0) hb];rfl
 have e1:w.cell? ⟨b,1,none⟩=some c1:=by rw [cell_of_row w b 1 _ _ (0,0) hb];rfl
 have h2':tmps[2]?.getD undef = .pointer (some ⟨b,0,none⟩):=by rw [<- h2];simp
 simp [results];go_simp
set_option maxRecDepth 100000 in
theorem QpL (op:Int) (w:World) (m:Int) (hm:SynG m w) (h1:10<=op) (h2:op<=21):Calls Tryz.prog 182 #[.int .i64 op] w fun e w'=>e = .returned (QeP (Qax op))/\Below w.heap.size w w':=by
 have hx:Qax op=declT.getD (op-10).toNat ([],[]):=by unfold Qax;rw [if_pos ⟨h1,h2⟩]
 have hj:(op-10).toNat<declT.length:=by show (op-10).toNat<12;omega
 obtain ⟨c0,c1⟩:=hm.2.2.2 _ hj;rw [hx,show declT.getD (op-10).toNat ([],[])=declT[(op-10).toNat] by simp [List.getD,hj]];obtain ⟨x,hxx⟩:∃ x,declT[(op-10).toNat]=x:=⟨_,rfl⟩;rw [hxx] at c0 c1 |-;obtain ⟨j,hj2⟩:∃ j:Int,op-10=j:=⟨_,rfl⟩;have hj0:0<=j:=by omega
 have hj1:j<12:=by omega
 rw [hj2,Nat.mul_comm] at c0 c1;have d0:=QeB c0 (.cells #[.string ⟨#[]⟩,.string ⟨#[]⟩] 190);have d1:=QeB c1 (.cells #[.string ⟨#[]⟩,.string ⟨#[]⟩] 190);have HB:Hid (∀ o,Below w.heap.size w (w.alloc o)):=Za (fun o=>Zb.alloc Zc o);clear hx hj hxx hm c0 c1;unfold QeP;obtain ⟨x1,x2⟩:=x;simp only at d0 d1 |-;go_enter Tryz.func182,Tryz.ntmps182;go_wp2_with fail;exact bodyPost_ret (QeQ _ _ _ _ _ rfl (heap_alloc_new w _)) rfl ⟨rfl,HB.out _⟩
set_option maxRecDepth 100000 in
theorem QpM (op:Int) (w:World) (m:Int) (hm:SynG m w) (h1:30<=op) (h2:op<=42):Calls Tryz.prog 182 #[.int .i64 op] w fun e w'=>e = .returned (QeP (Qax op))/\Below w.heap.size w w':=by
 have hx:Qax op=stmtT.getD (op-30).toNat ([],[]):=by unfold Qax;rw [if_neg (by omega),if_pos ⟨h1,h2⟩]
 have hj:(op-30).toNat<stmtT.length:=by show (op-30).toNat<13;omega
 obtain ⟨c0,c1⟩:=hm.2.2.1 _ hj;rw [hx,show stmtT.getD (op-30).toNat ([],[])=stmtT[(op-30).toNat] by simp [List.getD,hj]];obtain ⟨x,hxx⟩:∃ x,stmtT[(op-30).toNat]=x:=⟨_,rfl⟩;rw [hxx] at c0 c1 |-;obtain ⟨j,hj2⟩:∃ j:Int,op-30=j:=⟨_,rfl⟩;have hj0:0<=j:=by omega
 have hj1:j<13:=by omega
 rw [hj2,Nat.mul_comm] at c0 c1;have d0:=QeB c0 (.cells #[.string ⟨#[]⟩,.string ⟨#[]⟩] 190);have d1:=QeB c1 (.cells #[.string ⟨#[]⟩,.string ⟨#[]⟩] 190);have HB:Hid (∀ o,Below w.heap.size w (w.alloc o)):=Za (fun o=>Zb.alloc Zc o);clear hx hj hxx hm c0 c1;unfold QeP;obtain ⟨x1,x2⟩:=x;simp only at d0 d1 |-;go_enter Tryz.func182,Tryz.ntmps182;go_wp2_with fail;exact bodyPost_ret (QeQ _ _ _ _ _ rfl (heap_alloc_new w _)) rfl ⟨rfl,HB.out _⟩
set_option maxRecDepth 100000 in
theorem QpN (op:Int) (w:World) (m:Int) (hm:SynG m w) (h1:60<=op) (h2:op<=88):Calls Tryz.prog 182 #[.int .i64 op] w fun e w'=>e = .returned (QeP (Qax op))/\Below w.heap.size w w':=by
 have hx:Qax op=exprT.getD (op-60).toNat ([],[]):=by unfold Qax;rw [if_neg (by omega),if_neg (by omega),if_pos ⟨h1,h2⟩]
 have hj:(op-60).toNat<exprT.length:=by show (op-60).toNat<29;omega
 obtain ⟨c0,c1⟩:=hm.2.1 _ hj;rw [hx,show exprT.getD (op-60).toNat ([],[])=exprT[(op-60).toNat] by simp [List.getD,hj]];obtain ⟨x,hxx⟩:∃ x,exprT[(op-60).toNat]=x:=⟨_,rfl⟩;rw [hxx] at c0 c1 |-;obtain ⟨j,hj2⟩:∃ j:Int,op-60=j:=⟨_,rfl⟩;have hj0:0<=j:=by omega
 have hj1:j<29:=by omega
 rw [hj2,Nat.mul_comm] at c0 c1;have d0:=QeB c0 (.cells #[.string ⟨#[]⟩,.string ⟨#[]⟩] 190);have d1:=QeB c1 (.cells #[.string ⟨#[]⟩,.string ⟨#[]⟩] 190);have HB:Hid (∀ o,Below w.heap.size w (w.alloc o)):=Za (fun o=>Zb.alloc Zc o);clear hx hj hxx hm c0 c1;unfold QeP;obtain ⟨x1,x2⟩:=x;simp only at d0 d1 |-;go_enter Tryz.func182,Tryz.ntmps182;go_wp2_with fail;exact bodyPost_ret (QeQ _ _ _ _ _ rfl (heap_alloc_new w _)) rfl ⟨rfl,HB.out _⟩
set_option maxRecDepth 100000 in
theorem Qrz (w:World):Calls Tryz.prog 182 #[.int .i64 50] w fun e w'=>e = .returned (QeP (Qax 50))/\Below w.heap.size w w':=by
 rw [show Qax 50=([66,117,102,102,101,114],[105,73]) from rfl];have HB:Hid (∀ o,Below w.heap.size w (w.alloc o)):=Za (fun o=>Zb.alloc Zc o);unfold QeP;go_enter Tryz.func182,Tryz.ntmps182;go_wp2_with fail;exact bodyPost_ret (QeQ _ _ _ _ _ rfl (heap_alloc_new w _)) rfl ⟨rfl,HB.out _⟩
set_option maxRecDepth 100000 in
theorem QpO (w:World):Calls Tryz.prog 182 #[.int .i64 51] w fun e w'=>e = .returned (QeP (Qax 51))/\Below w.heap.size w w':=by
 rw [show Qax 51=([80,97,99,107,97,103,101],[105,80]) from rfl];have HB:Hid (∀ o,Below w.heap.size w (w.alloc o)):=Za (fun o=>Zb.alloc Zc o);unfold QeP;go_enter Tryz.func182,Tryz.ntmps182;go_wp2_with fail;exact bodyPost_ret (QeQ _ _ _ _ _ rfl (heap_alloc_new w _)) rfl ⟨rfl,HB.out _⟩
set_option maxRecDepth 100000 in
theorem QpP (op:Int) (w:World) (h1:¬ (10<=op/\op<=21)) (h2:¬ (30<=op/\op<=42)) (h3:¬ (60<=op/\op<=88)) (h4:op≠50) (h5:op≠51):Calls Tryz.prog 182 #[.int .i64 op] w fun e w'=>e = .returned (QeP (Qax op))/\Below w.heap.size w w':=by
 rw [show Qax op=([],[]) by unfold Qax;rw [if_neg h1,if_neg h2,if_neg h3,if_neg h4,if_neg h5]];have HB:Hid (∀ o,Below w.heap.size w (w.alloc o)):=Za (fun o=>Zb.alloc Zc o);have e4:(op==50)=false:=Zd h4;have e5:(op==51)=false:=Zd h5;have g1:10<=op->¬ op<=21:=fun h h'=>h1 ⟨h,h'⟩;have g2:30<=op->¬ op<=42:=fun h h'=>h2 ⟨h,h'⟩;have g3:60<=op->¬ op<=88:=fun h h'=>h3 ⟨h,h'⟩;have HG:=Za (And.intro g1 (And.intro g2 g3));clear h1 h2 h3 h4 h5 g1 g2 g3;unfold QeP;go_enter Tryz.func182,Tryz.ntmps182;go_wp2_with fail
 all_goals first
  | exact bodyPost_ret (QeQ _ _ _ _ _ rfl (heap_alloc_new w _)) rfl ⟨rfl,HB.out _⟩
  | (exfalso;have h1:=HG.out.1;have h2:=HG.out.2.1;have h3:=HG.out.2.2;omega)
theorem QrA (op:Int) (w:World) (m:Int) (hm:SynG m w):Calls Tryz.prog 182 #[.int .i64 op] w fun e w'=>e = .returned (QeP (Qax op))/\Below w.heap.size w w':=by
 by_cases h1:10<=op/\op<=21
 ·exact QpL op w m hm h1.1 h1.2
 by_cases h2:30<=op/\op<=42
 ·exact QpM op w m hm h2.1 h2.2
 by_cases h3:60<=op/\op<=88
 ·exact QpN op w m hm h3.1 h3.2
 by_cases h4:op=50
 ·subst h4;exact Qrz w
 by_cases h5:op=51
 ·subst h5;exact QpO w
 exact QpP op w h1 h2 h3 h4 h5
end
section
open Go.RowKit
attribute [local go_sem] ByteArray.mk_append_mk Qah Qai Qag
theorem Qlt (o ns:List Nd) (a n:Int) (s:List UInt8) (p u:Int):(tcI (o++⟨a,n,s,p⟩::ns)).set (o.length * 4+3) (.int .i64 u)=tcI (o++⟨a,n,s,u⟩::ns):=by
 rw [QdI,QdI,List.set_append_right _ _ (by rw [QcU];omega),QcU,show o.length * 4+3-o.length * 4=3 by omega];rfl
theorem Qjt (o ns:List Nd) (a n:Int) (s:List UInt8) (p:Int):(tcI (o++⟨a,n,s,p⟩::ns))[o.length * 4+3]?=some (.int .i64 p):=by
 rw [QdI,List.getElem?_append_right (by rw [QcU];omega),QcU,show o.length * 4+3-o.length * 4=3 by omega];rfl
end
section
open Go.RowKit
attribute [local go_sem] ByteArray.mk_append_mk Qah Qai Qag
end
section
open Go.RowKit
attribute [local go_sem] ByteArray.mk_append_mk Qah Qai Qag
def QcZ (kinds:List UInt8) (a:Nat):Prop:=a<=kinds.length/\(∀ j (h:j<kinds.length),QaZ kinds[j]=decide (a<=j))/\(kinds=[]\/0<a)/\kinds.length<=10
theorem Qju:∀ (kinds:List UInt8) (a:Nat),a<=kinds.length->(∀ j (h:j<kinds.length),QaZ kinds[j]=decide (a<=j))->(kinds.dropWhile fun k=>!QaZ k)=kinds.drop a
 | [],a,h,_=>by simp
 | k::ks,a,h,hk=>by
   have h0:=hk 0 (by simp);rw [List.getElem_cons_zero] at h0;cases a with
   | zero=>rw [List.dropWhile_cons,h0];rfl
   | succ a =>
     rw [List.dropWhile_cons,h0,List.drop_succ_cons,if_pos (by simp)];refine Qju ks a (by simpa using h) (fun j hj=>?_);have:=hk (j+1) (by simpa using hj);rw [List.getElem_cons_succ] at this;rw [this];simp
section
variable (sub:UInt8->List TokI->PR)
theorem QrB {kinds:List UInt8} {a:Nat} (hk:QcZ kinds a) (ns:List Nd) (q:List TokI):QcS sub (kinds.drop a) false ns q=if atT 6 q=true then .ok q.tail ns else .no q:=by
 by_cases h:a<kinds.length
 ·rw [List.drop_eq_getElem_cons h,QcS,if_pos (by rw [hk.2.1 a h];simp)]
 ·rw [List.drop_eq_nil_of_le (by omega),QcS]
theorem QpQ {kinds:List UInt8} {a j:Nat} (hk:QcZ kinds a) (h:j<a) (hj:j<kinds.length) (first:Bool) (ns:List Nd) (q:List TokI) :
  QcS sub (kinds.drop j) first ns q=if first=false/\atT 9 q=false then .no q else match sub kinds[j] (if first=false then q.tail else q) with
   | .no x=>.no x
   | .ok r1 n1=>QcS sub (kinds.drop (j+1)) false (ns++n1) r1:=by
 rw [List.drop_eq_getElem_cons hj,QcS,if_neg (by rw [hk.2.1 j hj];simp;omega)];rfl
end
def Qeo (n:Nd):PR->PR
 | .no x=>.no x
 | .ok r ns=>.ok r (n::ns)
end
section
open Go.RowKit
attribute [local go_sem] ByteArray.mk_append_mk Qah Qai Qag
theorem Qh8 {s:List UInt8} (h:QaW s=true):(QaG s).length<=32:=by
 have:=QdR h;omega
theorem Qcw {w:World} {B:Nat} {v:Value} {l:List (List UInt8)} (h:w.ownsRow B 9 1 v l.length (l.map QbT)):∃ a c,v = .slice a l.length c:=by
 rcases h.2 with ⟨rfl,h0⟩|⟨g,cap,cur,rfl,_⟩
 ·exact ⟨none,0,by rw [h0]⟩
 ·exact ⟨_,cap,rfl⟩
end
section
open Go.RowKit
attribute [local go_sem] ByteArray.mk_append_mk Qah Qai Qag
def kOk (kinds:List UInt8):Bool:=(List.range kinds.length).all fun j=>QaZ (kinds.getD j 0)==decide ((kinds.takeWhile fun k=>!QaZ k).length<=j)
theorem QrC {kinds:List UInt8} (h:kOk kinds=true) (h0:kinds=[]\/QaZ (kinds.getD 0 0)=false) (hl:kinds.length<=10):QcZ kinds (kinds.takeWhile fun k=>!QaZ k).length:=by
 refine ⟨(List.takeWhile_sublist _).length_le,fun j hj=>?_,?_,hl⟩
 ·have:=List.all_eq_true.1 h j (List.mem_range.2 hj);rw [beq_iff_eq] at this;rw [<- this,List.getD,List.getElem?_eq_getElem hj];rfl
 ·cases kinds with
  | nil=>exact .inl rfl
  | cons k ks =>
    right;rcases h0 with h0|h0
    ·cases h0
    ·rw [List.getD_cons_zero] at h0;rw [List.takeWhile_cons,h0];simp
def Qjv (kinds:List UInt8):Bool:=kOk kinds&&(kinds==[]||!QaZ (kinds.getD 0 0))&&decide (kinds.length<=10)
theorem QnH {kinds:List UInt8} (h:Qjv kinds=true):∃ a,QcZ kinds a:=by
 unfold Qjv at h;simp only [Bool.and_eq_true,Bool.or_eq_true,beq_iff_eq,Bool.not_eq_true',decide_eq_true_eq] at h;exact ⟨_,QrC h.1.1 h.1.2 h.2⟩
theorem tab_good:(∀ x∈declT,Qjv x.2=true)/\(∀ x∈stmtT,Qjv x.2=true)/\(∀ x∈exprT,Qjv x.2=true):=by decide +kernel
theorem Qhz {T:List (List UInt8×List UInt8)} (h:∀ x∈T,Qjv x.2=true) (j:Nat):Qjv (T.getD j ([],[])).2=true:=by
 by_cases hj:j<T.length
 ·rw [List.getD,List.getElem?_eq_getElem hj];exact h _ (List.getElem_mem hj)
 ·rw [List.getD,List.getElem?_eq_none (by omega)];decide
theorem QkL (op:Int):∃ a,QcZ (Qax op).2 a:=by
 refine QnH ?_;unfold Qax;split
 ·exact Qhz tab_good.1 _
 split
 ·exact Qhz tab_good.2.1 _
 split
 ·exact Qhz tab_good.2.2 _
 split
 ·decide
 split
 ·decide
 ·decide
theorem Qmg (a b:ByteArray) (w:World):(Instr.field 190 (.agg #[.string a,.string b]) 1).run Tryz.prog w = .ok (.string b) w:=by
 kernel_rfl
attribute [local go_sem] Qmg
end
section
open Go.RowKit
attribute [local go_sem] ByteArray.mk_append_mk Qah Qai Qag
end
section
open Go.RowKit
attribute [local go_sem] ByteArray.mk_append_mk Qah Qai Qag Qmg
def Qjw (w:World) (n:Nd) (e:Ending) (w':World):Prop:=∃ ks:List UInt8,e = .returned (.tuple #[.string ⟨ks.toArray⟩,.bool (Qb3 n).isSome])/\(∀ x,Qb3 n=some x->ks=x)/\Below w.heap.size w w'
theorem Qs4 (op:Int) (xw xk:List UInt8) (H:Hid (Qax op=(xw,xk))) (w:World) (m:Int) (hm:SynG m w):Calls Tryz.prog 182 #[.int .i64 op] w fun e w'=>e = .returned (.agg #[.string ⟨xw.toArray⟩,.string ⟨xk.toArray⟩])/\Below w.heap.size w w':=by
 have:=QrA op w m hm;rw [H.out] at this;exact this
theorem QoF (p:Int) (h0:0<=p) (h7:p<=7):List.take p.toNat ([101,101,101,101,101,101,101]:List UInt8)=List.replicate p.toNat 101:=by
 have:p=0\/p=1\/p=2\/p=3\/p=4\/p=5\/p=6\/p=7:=by omega
 rcases this with rfl|rfl|rfl|rfl|rfl|rfl|rfl|rfl<;>rfl
set_option maxRecDepth 100000 in
theorem QrD (k n p:Int) (s:List UInt8) (w:World) (m:Int) (hm:SynG m w):Calls Tryz.prog 126 #[Qbz k n s p] w (Qjw w ⟨k,n,s,p⟩):=by
 obtain ⟨X,hX⟩:∃ X,Hid (Qb3 ⟨k,n,s,p⟩=X):=⟨_,Za rfl⟩;have HBA:Hid (∀ o,Below w.heap.size w (w.alloc o)):=Za (fun o=>Zb.alloc Zc o);obtain ⟨e0,e1,e2,e3⟩:=Qac (heap_alloc_new w (Qae k n s p));have HE:=Za (heap_alloc_new w (Qae k n s p));have HG:=Za (hm.below (HBA.out (Qae k n s p)) hm.low);clear hm;unfold Qbz Qjw;by_cases h5:k=5
 ·subst h5;by_cases h0:p<0
  ·have HX:Hid (X=none):=Za (by rw [<- hX.out];unfold Qb3;simp only [if_true];rw [if_neg (by omega)]);go_enter Tryz.func126,Tryz.ntmps126;go_wp2_with fail;go_ret2;rw [hX.out,HX.out];exact ⟨_,rfl,fun x hx=>(by cases hx),HBA.out _⟩
  by_cases h7:7<p
  ·have HX:Hid (X=none):=Za (by rw [<- hX.out];unfold Qb3;simp only [if_true];rw [if_neg (by omega)]);go_enter Tryz.func126,Tryz.ntmps126;go_wp2_with fail;go_ret2;rw [hX.out,HX.out];exact ⟨_,rfl,fun x hx=>(by cases hx),HBA.out _⟩
  ·have HX:Hid (X=some (List.replicate p.toNat 101)):=Za (by rw [<- hX.out];unfold Qb3;simp only [if_true];rw [if_pos (by omega)]);have HT:=Za (QoF p (by omega) (by omega));have h0':0<=p:=by omega
   have h7':p<=7:=by omega
   go_enter Tryz.func126,Tryz.ntmps126;go_wp2_with fail;go_ret2;rw [hX.out,HX.out];exact ⟨_,rfl,fun x hx=>(by injection hx with hx;rw [<- hx];exact HT.out),HBA.out _⟩
 have f5:(k==5)=false:=Zd h5;by_cases h33:k=33
 ·subst h33;by_cases h0:p<0
  ·have HX:Hid (X=none):=Za (by rw [<- hX.out];unfold Qb3;simp only [show ((33:Int)=5)=False by decide,if_false,if_true];rw [if_neg (by omega)]);go_enter Tryz.func126,Tryz.ntmps126;go_wp2_with fail;go_ret2;rw [hX.out,HX.out];exact ⟨_,rfl,fun x hx=>(by cases hx),HBA.out _⟩
  by_cases h7:1<p
  ·have HX:Hid (X=none):=Za (by rw [<- hX.out];unfold Qb3;simp only [show ((33:Int)=5)=False by decide,if_false,if_true];rw [if_neg (by omega)]);go_enter Tryz.func126,Tryz.ntmps126;go_wp2_with fail;go_ret2;rw [hX.out,HX.out];exact ⟨_,rfl,fun x hx=>(by cases hx),HBA.out _⟩
  ·have HX:Hid (X=some (List.replicate p.toNat 101)):=Za (by rw [<- hX.out];unfold Qb3;simp only [show ((33:Int)=5)=False by decide,if_false,if_true];rw [if_pos (by omega)]);have HT:=Za (QoF p (by omega) (by omega));have h0':0<=p:=by omega
   have h7':p<=1:=by omega
   have h7'':p<=7:=by omega
   go_enter Tryz.func126,Tryz.ntmps126;go_wp2_with fail;go_ret2;rw [hX.out,HX.out];exact ⟨_,rfl,fun x hx=>(by injection hx with hx;rw [<- hx];exact HT.out),HBA.out _⟩
 have f33:(k==33)=false:=Zd h33;by_cases h31:k=31/\p=3
 ·obtain ⟨rfl,rfl⟩:=h31;have HX:Hid (X=some [101,83,83]):=Za (by rw [<- hX.out]<;>rfl);go_enter Tryz.func126,Tryz.ntmps126;go_wp2_with fail;go_ret2;rw [hX.out,HX.out];exact ⟨_,rfl,fun x hx=>(by injection hx),HBA.out _⟩
 have HXF:Hid (X=if ((Qax k).2.length:Int)=p then some (Qax k).2 else none):=Za (by rw [<- hX.out];unfold Qb3;simp only [];rw [if_neg h5,if_neg h33,if_neg h31]);obtain ⟨⟨xw,xk⟩,hf⟩:∃ x,Qax k=x:=⟨_,rfl⟩;have HF:=Za (fun w hm=>Qs4 k xw xk (Za hf) w m hm);rw [hf] at HXF;simp only at HXF;have f31:k=31->(p==3)=false:=fun h=>Zd (fun h2=>h31 ⟨h,h2⟩);obtain ⟨L,hL⟩:∃ L,xk.length=L:=⟨_,rfl⟩;have HL:=Za hL;by_cases hk:k=31
 ·have f31':=f31 hk;subst hk;clear h5 h33 h31 hf f31;go_enter Tryz.func126,Tryz.ntmps126;go_wp2_with fail;((with_reducible refine (HF.out _ HG.out).mono ?_));rintro e w2 ⟨rfl,hb⟩;have HB2:=Za (Qar (HBA.out (Qae 31 n s p)) (by simp) hb);have HE2:=Za (Qad HE.out hb);clear hb e0 e1 e2 e3;obtain ⟨e0,e1,e2,e3⟩:=Qac HE2.out;go_wp2_with fail;go_quiet (fail);go_wp2_with fail;go_ret2;rw [hX.out,HXF.out,HL.out];refine ⟨xk,?_,fun x hx=>?_,below_drewN HB2.out _⟩
  ·by_cases hp:(L:Int)=p<;>simp [hp]
  ·split at hx
   ·injection hx
   ·cases hx
 ·have f31':(k==31)=false:=Zd hk;clear h5 h33 h31 hf f31 hk;go_enter Tryz.func126,Tryz.ntmps126;go_wp2_with fail;((with_reducible refine (HF.out _ HG.out).mono ?_));rintro e w2 ⟨rfl,hb⟩;have HB2:=Za (Qar (HBA.out (Qae k n s p)) (by simp) hb);have HE2:=Za (Qad HE.out hb);clear hb e0 e1 e2 e3;obtain ⟨e0,e1,e2,e3⟩:=Qac HE2.out;go_wp2_with fail;go_quiet (fail);go_wp2_with fail;go_ret2;rw [hX.out,HXF.out,HL.out];refine ⟨xk,?_,fun x hx=>?_,below_drewN HB2.out _⟩
  ·by_cases hp:(L:Int)=p<;>simp [hp]
  ·split at hx
   ·injection hx
   ·cases hx
def Qfy (k n:Int):Bool:=if k=1 then true else if k=6 then decide (n<8) else if k=7 then decide (n<7) else n==0
def QpR (k:Int) (s:List UInt8) (kd:UInt8):Bool:=if k=3\/k=5 then Qek kd s else if k=2 then decide (s.length<=255) else s==[]
theorem QnI (k n p:Int) (s:List UInt8) (kd:UInt8):Qbg ⟨k,n,s,p⟩ kd=(Qfy k n&&QpR k s kd):=rfl
set_option maxRecDepth 100000 in
theorem QnJ (k n p:Int) (s:List UInt8) (kd:UInt8) (w:World) (m:Int) (hm:SynG m w) (hs:s.length<=4000000000) (hn:0<=n):Calls Tryz.prog 125 #[Qbz k n s p,.int .u8 kd.toNat] w fun e w'=>e = .returned (.bool (Qbg ⟨k,n,s,p⟩ kd))/\Below w.heap.size w w':=by
 have HBA:Hid (∀ o,Below w.heap.size w (w.alloc o)):=Za (fun o=>Zb.alloc Zc o);have HE:=Za (heap_alloc_new w (Qae k n s p));have HG:=Za (hm.below (HBA.out (Qae k n s p)) hm.low);have HB:=Za (HBA.out (Qae k n s p));obtain ⟨e0,e1,e2,e3⟩:=Qac HE.out;obtain ⟨X,hX⟩:∃ X,Hid (Qbg ⟨k,n,s,p⟩ kd=X):=⟨_,Za rfl⟩;have HX0:Hid (X=(Qfy k n&&QpR k s kd)):=Za (by rw [<- hX.out,QnI]);obtain ⟨P,hP⟩:∃ P,w.heap.size=P:=⟨_,rfl⟩;have HPE:=Za hP;clear hm HBA;unfold Qbz;go_enter Tryz.func125,Tryz.ntmps125;go_upto_region 1 with fail;generalize w.alloc (Qae k n s p)=W at *;simp only [hP] at HB HE e0 e1 e2 e3 |-;clear hP;go_upto_block 0 with fail;go_cut [12] (fun v wx=>Hid (Qfy k n=true)/\W=wx)
 case first =>
  by_cases h1:k=1
  ·have f1:(k==1)=true:=by rw [h1];rfl
   have HI:Hid (Qfy k n=true):=Za (by unfold Qfy;rw [if_pos h1]);clear h1;go_wp2_with fail;go_meet;exact ⟨HI,rfl⟩
  have f1:(k==1)=false:=Zd h1;by_cases h6:k=6
  ·have f6:(k==6)=true:=by rw [h6];rfl
   by_cases h8:n<8
   ·have HI:Hid (Qfy k n=true):=Za (by unfold Qfy;rw [if_neg h1,if_pos h6];exact decide_eq_true h8);clear h1 h6;go_wp2_with fail;go_meet;exact ⟨HI,rfl⟩
   ·have HX:Hid (X=false):=Za (by rw [HX0.out,show Qfy k n=false by unfold Qfy;rw [if_neg h1,if_pos h6];exact decide_eq_false h8]<;>rfl);have h8':8<=n:=by omega
    clear h1 h6;go_wp2_with fail;go_ret;rw [hX.out,HX.out];exact ⟨rfl,by rw [HPE.out];exact HB.out⟩
  have f6:(k==6)=false:=Zd h6;by_cases h7:k=7
  ·have f7:(k==7)=true:=by rw [h7];rfl
   by_cases h8:n<7
   ·have HI:Hid (Qfy k n=true):=Za (by unfold Qfy;rw [if_neg h1,if_neg h6,if_pos h7];exact decide_eq_true h8);clear h1 h6 h7;go_wp2_with fail;go_meet;exact ⟨HI,rfl⟩
   ·have HX:Hid (X=false):=Za (by rw [HX0.out,show Qfy k n=false by unfold Qfy;rw [if_neg h1,if_neg h6,if_pos h7];exact decide_eq_false h8]<;>rfl);have h8':7<=n:=by omega
    clear h1 h6 h7;go_wp2_with fail;go_ret;rw [hX.out,HX.out];exact ⟨rfl,by rw [HPE.out];exact HB.out⟩
  have f7:(k==7)=false:=Zd h7;by_cases h8:n=0
  ·have f8:(n != 0)=false:=by rw [h8];rfl
   have HI:Hid (Qfy k n=true):=Za (by unfold Qfy;rw [if_neg h1,if_neg h6,if_neg h7,h8]<;>rfl);clear h1 h6 h7 h8;go_wp2_with fail;go_meet;exact ⟨HI,rfl⟩
  ·have f8:(n != 0)=true:=bne_iff_ne.2 h8;have HX:Hid (X=false):=Za (by rw [HX0.out,show Qfy k n=false by unfold Qfy;rw [if_neg h1,if_neg h6,if_neg h7];exact Zd h8]<;>rfl);clear h1 h6 h7 h8;go_wp2_with fail;go_ret;rw [hX.out,HX.out];exact ⟨rfl,by rw [HPE.out];exact HB.out⟩
 case rest =>
  obtain ⟨HI,rfl⟩:=hcut;obtain ⟨W,rfl⟩:∃ x:World,x=W:=⟨_,rfl⟩;have HX1:Hid (X=QpR k s kd):=Za (by rw [HX0.out,HI.out,Bool.true_and]);clear HX0 HI;by_cases h35:k=3\/k=5
  ·have HX2:Hid (X=Qek kd s):=Za (by rw [HX1.out];unfold QpR;rw [if_pos h35]);have HPA:=Za (Qkv s m W HG.out.1 (by omega));have hPW:Hid (P<=W.heap.size):=Za (Nat.le_of_lt (lt_of_block HE.out));have f35:(k==3)=true\/((k==3)=false/\(k==5)=true):=by
    rcases h35 with h|h
    ·left;rw [h];rfl
    ·right;rw [h];exact ⟨rfl,rfl⟩
   clear h35 HX1;cases hok:QaW s with
   | false =>
     have HX:Hid (X=false):=Za (by rw [HX2.out];unfold Qek;rw [hok]<;>rfl);unfold Qck QhW at HPA;rw [hok] at HPA;simp only [Bool.false_and,Bool.false_eq_true,if_false] at HPA;clear hok;rcases f35 with f3|⟨f3,f5⟩
     all_goals
      go_wp2_with fail;((with_reducible refine HPA.out.mono ?_));rintro e w1 ⟨v,rfl,hv,hb1⟩;obtain ⟨va,vc,rfl⟩:=Qcw hv;have HB1:Hid (Below P w w1):=Za (HB.out.trans (hb1.mono hPW.out));have HS1:=Za hb1.size;clear hv hb1;go_wp2_with fail;go_ret;rw [hX.out,HX.out];exact ⟨rfl,by rw [HPE.out];exact HB1.out.alloc (Nat.le_trans hPW.out HS1.out) _⟩
   | true =>
     have hsl:=Qh8 hok;have HSG:Hid (Qf6 s=(!QaJ s&&(((Qbp s:Nat):Int)==0)&&(((QaG s).length:Int)==1))):=Za (by
      unfold Qf6
      congr 1
      ·congr 1
       rw [Bool.eq_iff_iff];simp<;>omega
      ·rw [Bool.eq_iff_iff];simp<;>omega)
     have HNB:Hid (X=(kd != 115||Qf6 s)):=Za (by rw [HX2.out];unfold Qek;rw [hok]<;>rfl);unfold Qck QhW at HPA;rw [hok] at HPA;obtain ⟨segs,hsegs⟩:∃ z,QaG s=z:=⟨_,rfl⟩;obtain ⟨root,hroot⟩:∃ z,QaJ s=z:=⟨_,rfl⟩;obtain ⟨up,hup⟩:∃ z,((Qbp s:Nat):Int)=z:=⟨_,rfl⟩;simp only [Bool.true_and,if_true,hsegs,hroot,hup] at HPA HSG;rw [hsegs] at hsl;clear hok hsegs hroot hup HX2;have hkd:((kd.toNat:Int) != 115)=(kd != 115):=by rw [bne,bne];congr 1;exact Qao kd 115
     obtain ⟨kb,hkb⟩:∃ z,(kd != 115)=z:=⟨_,rfl⟩;rw [hkb] at hkd HNB;clear hkb;cases kb with
     | true =>
       have HX:Hid (X=true):=Za (by rw [HNB.out]<;>rfl);rcases f35 with f3|⟨f3,f5⟩
       all_goals
        go_wp2_with fail;((with_reducible refine HPA.out.mono ?_));rintro e w1 ⟨v,rfl,hv,hb1⟩;obtain ⟨va,vc,rfl⟩:=Qcw hv;have HB1:Hid (Below P w w1):=Za (HB.out.trans (hb1.mono hPW.out));have HS1:=Za hb1.size;clear hv hb1;go_wp2_with fail;go_ret;rw [hX.out,HX.out];exact ⟨rfl,by rw [HPE.out];exact HB1.out.alloc (Nat.le_trans hPW.out HS1.out) _⟩
     | false =>
       have HX:Hid (X=Qf6 s):=Za (by rw [HNB.out]<;>rfl);have HSI:=Za (fun va vc w=>QnG root up va segs.length vc w (by omega));rw [<- HSG.out,<- HX.out] at HSI;rcases f35 with f3|⟨f3,f5⟩
       all_goals
        go_wp2_with fail;((with_reducible refine HPA.out.mono ?_));rintro e w1 ⟨v,rfl,hv,hb1⟩;obtain ⟨va,vc,rfl⟩:=Qcw hv;have HB1:Hid (Below P w w1):=Za (HB.out.trans (hb1.mono hPW.out));have HS1:=Za hb1.size;obtain ⟨d0,d1,d2⟩:=QaT (heap_alloc_new w1 (.cells #[.bool root,.int .i64 up,.slice va segs.length vc] 128));have HB2:Hid (Below P w (w1.alloc (.cells #[.bool root,.int .i64 up,.slice va segs.length vc] 128))):=Za (HB1.out.alloc (Nat.le_trans hPW.out HS1.out) _);have HS2:Hid (P<=(w1.alloc (.cells #[.bool root,.int .i64 up,.slice va segs.length vc] 128)).heap.size):=Za (by simp;have:=hPW.out;have:=HS1.out;omega);clear hv hb1;go_wp2_with fail;((with_reducible refine (HSI.out _ _ _).mono ?_));rintro e w3 ⟨rfl,hb3⟩;have HB3:Hid (Below P w w3):=Za (HB2.out.trans (hb3.mono HS2.out));clear hb3;go_wp2_with fail;go_ret;rw [hX.out];exact ⟨rfl,by rw [HPE.out];exact HB3.out⟩
  ·have f3:(k==3)=false:=Zd (fun h=>h35 (.inl h));have f5:(k==5)=false:=Zd (fun h=>h35 (.inr h));by_cases h2:k=2
   ·have f2:(k==2)=true:=by rw [h2];rfl
    have HX:Hid (X=decide (s.length<=255)):=Za (by rw [HX1.out];unfold QpR;rw [if_neg h35,if_pos h2]);have hd:decide ((s.length:Int)<=255)=decide (s.length<=255):=by rw [decide_eq_decide];omega
    clear h2 h35 HX1;go_wp2_with fail
    all_goals
     go_ret;rw [hX.out,HX.out];exact ⟨by first|rfl|(congr 2;symm;simp;omega)|(congr 2;simp;omega),by rw [HPE.out];exact HB.out⟩
   ·have f2:(k==2)=false:=Zd h2;have HX:Hid (X=s.isEmpty):=Za (by rw [HX1.out];unfold QpR;rw [if_neg h35,if_neg h2];cases s<;>rfl);clear h2 h35 HX1;go_wp2_with fail;go_ret;rw [hX.out,HX.out];exact ⟨rfl,by rw [HPE.out];exact HB.out⟩
end
end Go.Proofs.YtoohondkpddmcaaGreatDoor
