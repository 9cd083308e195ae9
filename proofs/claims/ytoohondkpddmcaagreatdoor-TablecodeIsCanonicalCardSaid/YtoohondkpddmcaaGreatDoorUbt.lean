/- Opx Opy -/
import Derived.Test.YtoohondkpddmcaaGreatDoorUzz
import Derived.Test.YtoohondkpddmcaaGreatDoorUad
import Derived.Test.YtoohondkpddmcaaGreatDoorChecked
import Derived.ProofKit
import Derived.OpenShut
import Derived.SizedLaws
import Derived.SliceStrings
import Derived.Lib.SmallJoins
import Derived.ChangeSlices
import Derived.Shelf.Vars
import Derived.Test.YtoohondkpddmcaaGreatDoorUbi
import Derived.Test.YtoohondkpddmcaaGreatDoorUaq
import Derived.Test.YtoohondkpddmcaaGreatDoorCards
import Derived.Deep.Slices
import Derived.ChangeSame
namespace Go.Proofs.YtoohondkpddmcaaGreatDoor
set_option linter.unusedVariables false
set_option linter.unusedSimpArgs false
section
open Go.ChangeShapes Go.WideShapes Go.RowKit Go.Joins
theorem Qdp {H:Type} {P:Program} {ts:List TypeId} {ds:List (DataW H)} (h:(DataW.weightsEach P ts ds).all (·<=reachBytes)=true) {j:Nat} {t:TypeId} {d:DataW H} (ht:ts[j]?=some t) (hd:ds[j]?=some d):∀ m∈d.weights P t,m<=reachBytes:=by
 intro m hm;have:=List.all_eq_true.1 h m (DataW.weights_mem_each ht hd m hm);simpa using this
end
section
open Go.ChangeShapes Go.WideShapes Go.Deep Go.RowKit Go.Joins
theorem Qp7:Tryz.prog.cellsOf 3=1:=by kernel_rfl
theorem Qp8:Tryz.prog.bytesOf 3=8:=by kernel_rfl
theorem QlA (b o k:Nat):(⟨b,o,none⟩:Addr).add k=⟨b,o+k,none⟩:=by by_cases h:k=0<;>simp [Addr.add,h]
theorem Qp9 {H:Type} {enc:TypeId×Value->H} {W:World} {fuel:Nat} {v:Value} {y:DataW H×List MemPlace} (h:DataW.trod enc Tryz.prog W 0 (fun _=>true) true fuel 22 [v]=some y) (hw:∀ m∈y.1.weights Tryz.prog 22,m<=reachBytes) :
  ∃ l,IArg W v l:=by
 rcases open_ints Tryz.underlying22 Tryz.underlying3 Qp7 h with ⟨hcs,hx⟩|⟨a,len,cap,zs,hcs,_,hl,hm,hz,hx,hcell,hwz⟩
 ·cases hcs;exact ⟨[],none,0,rfl,by simp,(fun h=>absurd rfl h),by simp⟩
 ·cases hcs;subst hx;simp only [if_true] at hz;have h1:((lits (H:=H) .i64 (zs.take len)).length+(lits (H:=H) .i64 (zs.drop len)).length) * Tryz.prog.bytesOf 3<=reachBytes:=by
   apply hw;simp only [DataW.weights,Tryz.underlying22];exact List.mem_cons_self ..
  rw [Qp8] at h1;simp only [lits,List.length_map,List.length_take,List.length_drop] at h1;have hr:reachBytes=140737488351232:=rfl;rw [hr] at h1;have hlen:(zs.take len).length=len:=by simp;omega
  refine ⟨zs.take len,some a,cap,by rw [hlen],by rw [hlen];omega,(fun hn=>?_),fun x hx=>bounds_i64 (hwz x (List.mem_of_mem_take hx))⟩;have hpos:0<len:=by
   rcases Nat.eq_zero_or_pos len with h0|h0
   ·subst h0;simp at hn
   ·exact h0
  obtain ⟨b,o,spot⟩:=a;have hsp:spot=none:=by
   have h1:=hcell 0 (by omega);simpa [Addr.add] using World.cell?_spot h1
  subst hsp;refine ⟨b,o,rfl,fun k hk=>?_⟩;rw [hlen] at hk;have h2:=hcell k (by omega);rw [QlA] at h2;rw [h2];simp [List.getD,List.getElem?_eq_getElem (show k<zs.length by omega)]
set_option maxRecDepth 100000 in
theorem Qdq {H:Type} {enc:TypeId×Value->H} {W:World} {b0:Nat} {v:Value} {d:DataW H} {p:List MemPlace} (hv:Value.okWide Tryz.prog W .any b0 22 v) (h:DataW.Trod enc Tryz.prog W 0 (fun _=>true) true 22 v d p) (hw:∀ m∈d.weights Tryz.prog 22,m<=reachBytes) :
  ∃ l,IArg W v l:=by
 obtain ⟨a0,len,cap,rfl⟩:=okWide_slice Tryz.underlying22 hv;obtain ⟨fuel,hf⟩:=h;exact Qp9 (by simpa [Value.cells] using hf) hw
theorem QqC:Tryz.prog.cellsOf 46=4:=by kernel_rfl
theorem Qsc:Tryz.prog.cellsOf 3=1:=by kernel_rfl
theorem Qsd:Tryz.prog.cellsOf 32=1:=by kernel_rfl
theorem Qse:Tryz.prog.cellsOf 9=1:=by kernel_rfl
theorem QoN {H:Type}:∀ (l:List (DataW H)) (d:DataW H),d∈l->Rows.uptoBulk d<=Rows.uptoBulkAll l
 | [],d,h=>by cases h
 | x::r,d,h=>by
   rw [Rows.uptoBulkAll];rcases List.mem_cons.1 h with rfl|h
   ·omega
   ·have:=QoN r d h;omega
theorem QoO {H:Type}:∀ (l:List (DataW H)),l.length<=Rows.uptoBulkAll l
 | []=>by simp
 | x::r=>by
   have h1:1<=Rows.uptoBulk x:=by
    cases x with
    | lit l=>cases l<;>simp [Rows.uptoBulk]
    | _=>simp [Rows.uptoBulk]
   have:=QoO r;rw [Rows.uptoBulkAll,List.length_cons];omega
set_option maxRecDepth 100000 in
theorem Qt0 {H:Type} {enc:TypeId×Value->H} {W:World} {n:Nat} {cs:List Value} {x:DataW H×List MemPlace} (h:DataW.trod enc Tryz.prog W 0 (fun _=>true) true n 46 cs=some x) :
  ∃ o:Nd,cs=[.int .i64 o.kind,.int .u64 o.num,.string ⟨o.str.toArray⟩,.int .i64 o.pos]/\0<=o.num/\o.str.length<=Rows.uptoBulk x.1/\(-9223372036854775808<=o.kind/\o.kind<=9223372036854775807)/\(-9223372036854775808<=o.pos/\o.pos<=9223372036854775807):=by
 obtain ⟨xs,n',_,hx,hlen,hxl,hf⟩:=DataW.trod_struct Tryz.underlying46 h;rw [QqC] at hlen
 match cs,hlen with
 | [c0,c1,c2,c3],_ =>
   have hxl':xs.length=4:=hxl
   match xs,hxl' with
   | [y0,y1,y2,y3],_ =>
     have h0:DataW.trod enc Tryz.prog W 0 (fun _=>true) true n' 3 (List.take (Tryz.prog.cellsOf 3) [c0,c1,c2,c3])=some y0:=hf 0 _ rfl;have h1:DataW.trod enc Tryz.prog W 0 (fun _=>true) true n' 32 (List.take (Tryz.prog.cellsOf 32) [c1,c2,c3])=some y1:=hf 1 _ rfl;have h2:DataW.trod enc Tryz.prog W 0 (fun _=>true) true n' 9 (List.take (Tryz.prog.cellsOf 9) [c2,c3])=some y2:=hf 2 _ rfl;have h3:DataW.trod enc Tryz.prog W 0 (fun _=>true) true n' 3 (List.take (Tryz.prog.cellsOf 3) [c3])=some y3:=hf 3 _ rfl;rw [Qsc] at h0 h3;rw [Qsd] at h1;rw [Qse] at h2;obtain ⟨a,e0,_,wa⟩:=DataW.trod_int Tryz.underlying3 h0;obtain ⟨b,e1,_,wb⟩:=DataW.trod_int Tryz.underlying32 h1;obtain ⟨s,e2,hy2,_⟩:=DataW.trod_string Tryz.underlying9 h2;obtain ⟨d,e3,_,wd⟩:=DataW.trod_int Tryz.underlying3 h3;simp at e0 e1 e2 e3;refine ⟨⟨a,b,s.data.toList,d⟩,by rw [e0,e1,e2,e3],(bounds_u64 wb).1,?_,bounds_i64 wa,bounds_i64 wd⟩;rw [hx];simp only [List.map_cons,List.map_nil,Rows.uptoBulk,Rows.uptoBulkAll,hy2];omega
set_option maxRecDepth 100000 in
theorem Qqa {H:Type} {enc:TypeId×Value->H} {W:World} {base:Nat} {v:Value} {d:DataW H} {p:List MemPlace} (hv:Value.okWide Tryz.prog W .any base 24 v) (h:DataW.Trod enc Tryz.prog W 0 (fun _=>true) true 24 v d p) (hw:Rows.uptoBulk d<=1048576) :
  ∃ l:List Nd,NSl W v l/\l.length<=1048576/\∀ t∈l,t.str.length<=1048576:=by
 obtain ⟨a0,len,cap,rfl⟩:=okWide_slice Tryz.underlying24 hv;obtain ⟨fuel,hf⟩:=h;rcases open_slice Tryz.underlying24 hf with ⟨hcs,_⟩|⟨a,len',cap',m,n,D,Pl,hcs,hb,hl,hm,hmm,hx,hi⟩
 ·simp [Value.cells] at hcs;obtain ⟨rfl,rfl,rfl⟩:=hcs;exact ⟨[],⟨⟨none,0,rfl,fun h=>absurd rfl h⟩,by simp⟩,by simp,by simp⟩
 ·simp [Value.cells] at hcs;obtain ⟨rfl,rfl,rfl⟩:=hcs;simp only [if_true] at hmm;rw [QqC] at hi;injection hx with hx _;have hall:Rows.uptoBulkAll ((List.range len).map D)<=1048576:=by
   rw [hx,Rows.uptoBulk] at hw;omega
  have hlen1:len<=1048576:=by
   have:=QoO ((List.range len).map D);rw [List.length_map,List.length_range] at this;omega
  have key:∀ i,∃ o:Nd,i<len->(W.cell? ((a.add (i * 4)).add 0)=some (.int .i64 o.kind)/\W.cell? ((a.add (i * 4)).add 1)=some (.int .u64 o.num)/\W.cell? ((a.add (i * 4)).add 2)=some (.string ⟨o.str.toArray⟩)/\W.cell? ((a.add (i * 4)).add 3)=some (.int .i64 o.pos))/\0<=o.num/\o.str.length<=1048576:=by
   intro i;by_cases hil:i<len
   ·obtain ⟨cs',hc,ht⟩:=hi i (by omega);obtain ⟨o,rfl,hn,hwt,_⟩:=Qt0 ht;obtain ⟨_,_,hat⟩:=World.cells?_some hc;refine ⟨o,fun _=>⟨⟨hat 0 (by omega),hat 1 (by omega),hat 2 (by omega),hat 3 (by omega)⟩,hn,?_⟩⟩;have:=QoN _ (D i) (List.mem_map.2 ⟨i,List.mem_range.2 hil,rfl⟩);exact Nat.le_trans hwt (Nat.le_trans this hall)
   ·exact ⟨⟨0,0,[],0⟩,fun h=>absurd h hil⟩
  obtain ⟨f,hfo⟩:∃ f:Nat->Nd,∀ i,i<len->(W.cell? ((a.add (i * 4)).add 0)=some (.int .i64 (f i).kind)/\W.cell? ((a.add (i * 4)).add 1)=some (.int .u64 (f i).num)/\W.cell? ((a.add (i * 4)).add 2)=some (.string ⟨(f i).str.toArray⟩)/\W.cell? ((a.add (i * 4)).add 3)=some (.int .i64 (f i).pos))/\0<=(f i).num/\(f i).str.length<=1048576:=⟨fun i=>(key i).choose,fun i=>(key i).choose_spec⟩;have hlen:((List.range len).map f).length=len:=by simp
  refine ⟨(List.range len).map f,⟨⟨some a,cap,by rw [hlen],fun hne=>?_⟩,?_⟩,by rw [hlen];omega,?_⟩
  ·have hpos:0<len:=by
    rcases Nat.eq_zero_or_pos len with h0|h0
    ·subst h0;simp at hne
    ·exact h0
   obtain ⟨ab,ao,spot⟩:=a;have hsp:spot=none:=by
    have h1:=(hfo 0 hpos).1.1;simpa [Addr.add] using World.cell?_spot h1
   subst hsp;refine ⟨ab,ao,rfl,fun i hil=>?_⟩;rw [hlen] at hil;obtain ⟨⟨h0,h1,h2,h3⟩,_⟩:=hfo i hil;have e:∀ j,(⟨ab,ao,none⟩:Addr).add j=⟨ab,ao+j,none⟩:=fun j=>by by_cases hj:j=0<;>simp [Addr.add,hj]
   have e2:∀ j,(⟨ab,ao+i * 4,none⟩:Addr).add j=⟨ab,ao+i * 4+j,none⟩:=fun j=>by by_cases hj:j=0<;>simp [Addr.add,hj]
   rw [e,e2] at h0 h1 h2 h3;simp only [List.getElem_map,List.getElem_range];exact ⟨h0,h1,h2,h3⟩
  ·intro t ht;obtain ⟨i,hi',rfl⟩:=List.mem_map.1 ht;exact ⟨by have:=(hfo i (List.mem_range.1 hi')).2.2;omega,(hfo i (List.mem_range.1 hi')).2.1⟩
  ·intro t ht;obtain ⟨i,hi',rfl⟩:=List.mem_map.1 ht;exact (hfo i (List.mem_range.1 hi')).2.2
end
end Go.Proofs.YtoohondkpddmcaaGreatDoor
