/- Plan -/
import Derived.Test.YtoohondkpddmcaaGreatDoorUzz
import Derived.OrdersHeld
import Derived.WalkKit
import Derived.BigQuiet
import Derived.StillTail
namespace Go
set_option linter.unusedVariables false
set_option linter.unusedSimpArgs false
open Go.RowKit
section
variable {P:Program} {ops:Array Oper} {Q:Exit->Act->World->Prop} {md:Region.Mode} {S:World->Prop} {n:Nat}
def QfN (P:Program) (md:Region.Mode) (ops:Array Oper) (Q:Exit->Act->World->Prop) (S:World->Prop) (n:Nat):Nat->Array Bool->Act->World->Prop
 | 0,listed,a,w=>Region.ready md ops listed=[]/\Q .normal a w
 | fuel+1,listed,a,w =>
   (Region.ready md ops listed=[]->Q .normal a w) /\
   ∀ i∈Region.ready md ops listed,wpOp P ops Q i (fun a' w'=>(i<n->S w')/\QfN P md ops Q S n fuel (listed.setIfInBounds i true) a' w') a w
theorem Qkf:∀ (fuel:Nat) (listed:Array Bool) (a:Act) (w:World),QfN P md ops Q S n fuel listed a w->wpAny P md ops Q fuel listed a w
 | 0,_,_,_,h=>h
 | fuel+1,_,_,_,h=>⟨h.1,fun i hi=>wpOp_mono (fun a' w' h'=>Qkf fuel _ a' w' h'.2) (h.2 i hi)⟩
def Closed (md:Region.Mode) (ops:Array Oper) (L:Array Bool):Prop:=∀ j oj,ops[j]?=some oj->L.getD j false=true->∀ e∈oj.after,Region.binds md e=true->L.getD e.on false=true
theorem Closed.start (md:Region.Mode) (ops:Array Oper) (m:Nat):Closed md ops (Array.replicate m false):=fun j _ _ h=>by rw [getD_replicate_false] at h;cases h
theorem Closed.set {L:Array Bool} {i:Nat} (h:Closed md ops L) (hi:i∈Region.ready md ops L):Closed md ops (L.setIfInBounds i true):=by
 obtain ⟨_,oi,hoi,hall⟩:=mem_ready.1 hi;intro j oj hj hl e he hb;by_cases hij:i=j
 ·subst hij;have:oj=oi:=Option.some.inj (hj.symm.trans hoi);subst this;exact getD_set_true (hall e he hb)
 ·rw [getD_set_ne false hij] at hl;exact getD_set_true (h j oj hj hl e he hb)
def QhJ (md:Region.Mode) (ops:Array Oper):Nat->Nat->Nat->Bool
 | 0,t,i=>Region.waitsFor md ops t i
 | f+1,t,i=>Region.waitsFor md ops t i||(List.range ops.size).any fun j=>Region.waitsFor md ops t j&&QhJ md ops f j i
theorem QfO {L:Array Bool} (h:Closed md ops L) {i:Nat}:∀ (f t:Nat),(∀ ot,ops[t]?=some ot->∀ e∈ot.after,Region.binds md e=true->L.getD e.on false=true)->QhJ md ops f t i=true->L.getD i false=true
 | 0,t,ht,hr=>by
   obtain ⟨oj,hoj,e,he,hb,hon⟩:=Region.waitsFor_spec hr;rw [<- hon];exact ht oj hoj e he hb
 | f+1,t,ht,hr=>by
   simp only [QhJ,Bool.or_eq_true] at hr;rcases hr with hr|hr
   ·obtain ⟨oj,hoj,e,he,hb,hon⟩:=Region.waitsFor_spec hr;rw [<- hon];exact ht oj hoj e he hb
   ·obtain ⟨j,_,hj⟩:=List.any_eq_true.1 hr;simp only [Bool.and_eq_true] at hj;obtain ⟨oj,hoj,e,he,hb,hon⟩:=Region.waitsFor_spec hj.1;have hl:L.getD j false=true:=by rw [<- hon];exact ht oj hoj e he hb
    exact QfO h f j (fun ot hot e he hb=>h j ot hot hl e he hb) hj.2
theorem Qia {i:Nat} {oi:Oper} {v:Value} (hi:ops[i]?=some oi) (hsel:∀ (j:Nat) (o:Oper) cs b,ops[j]?=some o->o.op≠.select cs b)
  (hQ:∀ c a w,Q (.panic c) (a.put oi.dst v) w->Q (.panic c) a w) (hin:i<n) (hT:∀ t,n<=t->t<ops.size->QhJ md ops 3 t i=true) :
  ∀ (fuel:Nat) (listed:Array Bool) (a:Act) (w:World),Closed md ops listed ->
    (∀ j oj,ops[j]?=some oj->j≠i->listed.getD j true=false->(∀ e∈oj.after,Region.binds md e=true->e.on≠i)->oi.apart ops oj=true) ->
    i∈Region.ready md ops listed->YieldsIf P ops S oi v a->S w ->
    QfN P md ops Q S n fuel (listed.setIfInBounds i true) (a.put oi.dst v) w->QfN P md ops Q S n (fuel+1) listed a w:=by
 intro fuel;induction fuel with
 | zero =>
   intro listed a w _ _ hr hy hS H;refine ⟨fun h=>(by rw [h] at hr;cases hr),fun j hj=>?_⟩;by_cases hji:j=i
   ·subst hji;exact hy.wpOp hi hS ⟨fun _=>hS,H⟩
   ·have:=ready_mono hj hji;rw [H.1] at this;cases this
 | succ fuel ih =>
   intro listed a w hcl hfree hr hy hS H;refine ⟨fun h=>(by rw [h] at hr;cases hr),fun j hj=>?_⟩;by_cases hji:j=i
   ·subst hji;exact hy.wpOp hi hS ⟨fun _=>hS,H⟩
   ·have h1:=H.2 j (ready_mono hj hji);obtain ⟨hjun,oj,hoj,hall⟩:=mem_ready.1 hj;have hnot:∀ e∈oj.after,Region.binds md e=true->e.on≠i:=fun e he hb heq=>by
     have h1:=hall e he hb;have h0:=(mem_ready.1 hr).1;rw [heq] at h1;rcases Nat.lt_or_ge i listed.size with h'|h'
     ·simp [h'] at h0 h1;rw [h0] at h1;cases h1
     ·simp [Array.getElem?_eq_none h'] at h1
    have hjn:j<n:=by
     rcases Nat.lt_or_ge j n with h|h
     ·exact h
     ·have hl:=QfO hcl 3 j (fun ot hot e he hb=>by
       have:ot=oj:=Option.some.inj (hot.symm.trans hoj);subst this;exact hall e he hb) (hT j h (Array.getElem?_eq_some_iff.1 hoj).1)
      have h0:=getD_both (mem_ready.1 hr).1;rw [hl] at h0;cases h0
    have h2:=wpOp_putIf hoj (hfree j oj hoj hji hjun hnot) (fun cs b=>hsel i oi cs b hi) (fun cs b=>hsel j oj cs b hoj) hQ hy h1;have hfree':∀ k ok,ops[k]?=some ok->k≠i->(listed.setIfInBounds j true).getD k true=false ->
      (∀ e∈ok.after,Region.binds md e=true->e.on≠i)->oi.apart ops ok=true:=fun k ok hk hki hun hno=>by
     refine hfree k ok hk hki ?_ hno;by_cases hjk:j=k
     ·subst hjk;exact hjun
     ·rw [getD_set_ne true hjk] at hun;exact hun
    refine wpOp_mono (fun a' w' h3=>⟨h3.2.1,ih (listed.setIfInBounds j true) a' w' (hcl.set hj) hfree' (ready_mono hr (Ne.symm hji)) h3.1 (h3.2.1 hjn) ?_⟩) h2;rw [Array.setIfInBounds_comm _ _ hji];exact h3.2.2
def Callee.reads:Callee->Bool
 | .builtin .len|.builtin .cap|.builtin .min|.builtin .max=>true
 | _=>false
theorem Callee.reads_spec {c:Callee} (h:c.reads=true):∃ b,c = .builtin b/\(b = .len\/b = .cap\/b = .min\/b = .max):=by
 cases c with
 | builtin b=>cases b<;>first|(cases h;done)|exact ⟨_,rfl,by simp⟩
 | _=>cases h
def Op.floats0:Op->Bool
 | .move _|.assign _|.pick ..|.build ..|.load ..|.binOp ..|.unOp ..|.slice ..|.fieldAddr ..|.field ..|.indexAddr ..|.index ..|.extract ..|.convert ..=>true
 | .call c=>c.callee.reads
 | _=>false
def Op.isNilCheck:Op->Bool
 | .nilCheck _=>true
 | _=>false
def Op.floats (o:Op):Bool:=o.isNilCheck||o.floats0
theorem Qqe {s:Sem Value} {w w':World} {x:Next} (h:Sem.run P (do pure (.value (<- s)):Sem Next) w = .ok x w'):∃ u,x = .value u:=by
 rw [Sem.run_bind] at h;cases hs:Sem.run P s w with
 | ok u w1=>rw [hs] at h;simp only [Result.andThen,Sem.run_pure] at h;injection h with h1 h2;exact ⟨u,h1.symm⟩
 | halt e w1=>rw [hs] at h;simp only [Result.andThen] at h;cases h
theorem Qo1 {ρ:Operand->Value} {b:Builtin} {aS:Array Operand} {ts:Array TypeId} {t:TypeId} {w w':World} {x:Next} (hb:b = .len\/b = .cap\/b = .min\/b = .max)
  (h:Sem.run P (do let d <- resolve ρ ⟨.builtin b,aS,ts⟩ t;invoke d.target d.args) w = .ok x w'):∃ u,x = .value u:=by
 simp only [resolve,Sem.run_bind,Sem.run_pure,Result.andThen,invoke] at h;rcases hb with rfl|rfl|rfl|rfl<;>exact Qqe h
theorem QhK {α:Type} {s:Sem α} {f:α->Sem Next} {w w':World} {x:Next} (hf:∀ a w x w',(f a).run P w = .ok x w'->∃ u,x = .value u) (h:(s >>= f).run P w = .ok x w'):∃ u,x = .value u:=by
 rw [Sem.run_bind] at h;cases hs:Sem.run P s w with
 | ok a w1=>rw [hs] at h;exact hf a w1 x w' h
 | halt e w1=>rw [hs] at h;simp only [Result.andThen] at h;cases h
theorem QfP {v:Value} {w w':World} {x:Next} (h:(pure (Next.value v):Sem Next).run P w = .ok x w'):∃ u,x = .value u:=by
 simp only [Sem.run_pure] at h;injection h with h1 h2;exact ⟨_,h1.symm⟩
theorem QeG {w w':World} {x:Next} (h:(runtimePanic .nilDeref:Sem Next).run P w = .ok x w'):∃ u,x = .value u:=by
 simp [runtimePanic,goPanic,go_sem] at h
theorem QlG {o:Oper} {ρ:Operand->Value} {w w':World} {x:Next} (ho:o.op.floats0=true) (h:(execOp ρ o).run P w = .ok x w'):∃ u,x = .value u:=by
 unfold execOp at h;by_cases hc:∃ b aS ts,o.op = .call ⟨.builtin b,aS,ts⟩/\(b = .len\/b = .cap\/b = .min\/b = .max)
 ·obtain ⟨b,aS,ts,hop,hb⟩:=hc;rw [hop] at h;exact Qo1 hb h
 cases hop:o.op<;>rw [hop] at ho h<;>(try (simp only [Op.floats0] at ho))<;>simp only at h <;>
  first
   | exact Qqe h
   | (simp only [Sem.run_pure] at h;injection h with h1 h2;exact ⟨_,h1.symm⟩)
   | (cases ho)
   | skip
 case call c =>
  exfalso;apply hc;obtain ⟨callee,aS,ts⟩:=c;obtain ⟨b,rfl,hb⟩:=Callee.reads_spec ho;exact ⟨b,aS,ts,hop,hb⟩
 all_goals
  rw [Sem.run_bind] at h;generalize Sem.run P _ w=r at h;cases r with
  | ok u w1=>simp only [Result.andThen] at h;simp only [Sem.run_pure] at h;injection h with h1 h2;exact ⟨_,h1.symm⟩
  | halt e w1=>simp only [Result.andThen] at h;cases h
theorem QmV {o:Oper} {ρ:Operand->Value} {w w':World} {x:Next} (ho:o.op.floats=true) (h:(execOp ρ o).run P w = .ok x w'):∃ u,x = .value u:=by
 cases hn:o.op.isNilCheck
 ·refine QlG ?_ h;unfold Op.floats at ho;rw [hn] at ho;exact ho
 ·obtain ⟨y,hop⟩:∃ y,o.op = .nilCheck y:=by
   revert hn;cases o.op<;>intro hn<;>first|(exact ⟨_,rfl⟩)|(cases hn)
  unfold execOp at h;rw [hop] at h;simp only at h;split at h
  ·exact QeG h
  ·exact QeG h
  ·exact QeG h
  ·split at h
   ·exact QeG h
   ·refine QhK (fun a w x w' h=>QhK (fun b w x w' h=>?_) h) h;split at h
    ·exact QhK (fun a w x w' h=>QfP h) h
    ·exact QfP h
   ·exact QfP h
  ·exact QfP h
theorem Qib {o:Oper} {v:Value} {a:Act} (ho:o.op.floats=true) (hw:Region.wanted o (yielded ops a.tmps)=true) (h:∀ w,S w->o.quietAt P a S w v):YieldsIf P ops S o v a:=by
 refine .inl ⟨hw,fun w hS=>?_⟩;have h3:=h w hS;unfold Oper.quietAt at h3;cases hr:(execOp a.eval o).run P w with
 | ok x w' =>
   obtain ⟨u,rfl⟩:=QmV ho hr;rw [hr] at h3;simp only [Oper.quietUpon] at h3;rw [h3.1,h3.2]
 | halt x w'=>rw [hr] at h3;simp only [Oper.quietUpon] at h3
inductive Stage where
 | reads (l:List Nat)
 | act (i:Nat)
 | bag (l:List Nat)
def QcY (P:Program) (ops:Array Oper) (Q:Exit->Act->World->Prop) (S:World->Prop) (n:Nat):List Stage->Act->World->Prop
 | [],a,w=>Q .normal a w
 | .reads l::rest,a,w=>wpQuiet P ops S (fun a'=>QcY P ops Q S n rest a' w) (l.filterMap fun i=>ops[i]?) a
 | .act i::rest,a,w=>wpOp P ops Q i (fun a' w'=>(i<n->S w')/\QcY P ops Q S n rest a' w') a w
 | .bag l::rest,a,w=>∃ Inv:(Nat->Bool)->Act->World->Prop,Inv (fun _=>false) a w /\
  (∀ d a w i,i∈l->d i=false->(∀ j∈l,Region.waitsFor .any ops i j=true->d j=true)->Inv d a w->wpOp P ops Q i (fun a' w'=>(i<n->S w')/\Inv (fun j=>d j||j==i) a' w') a w) /\
  (∀ d a w,(∀ i∈l,d i=true)->Inv d a w->QcY P ops Q S n rest a w)
def QmW (md:Region.Mode) (ops:Array Oper) (n:Nat):List Nat->Array Bool->Bool
 | [],_=>true
 | i::l,listed=>decide (i<n)&&(Region.ready md ops listed).contains i&&Region.free md ops listed i&&(match ops[i]? with|some o=>o.op.floats|none=>false)&&(List.range ops.size).all (fun t=>decide (t<n)||QhJ md ops 3 t i)&&QmW md ops n l (listed.setIfInBounds i true)
def Qb3 (l:List Nat) (listed:Array Bool):Array Bool:=l.foldl (fun L i=>L.setIfInBounds i true) listed
def Qdu (md:Region.Mode) (ops:Array Oper) (L:Array Bool):List Nat->List Nat->Bool
 | [],_=>true
 | i::l,pre=>(match ops[i]? with|some o=>o.after.all (fun e=>!Region.binds md e||L.getD e.on false||pre.contains e.on)|none=>false)&&!(L.getD i true)&&!pre.contains i&&Qdu md ops L l (i::pre)
def Qv0 (md:Region.Mode) (ops:Array Oper) (L:Array Bool) (l:List Nat):Bool :=
 Qdu md ops L l []&&(List.range ops.size).all fun t=>L.getD t false||l.contains t||l.all (fun i=>QhJ md ops 3 t i)
def Qic (md:Region.Mode) (ops:Array Oper) (n:Nat):List Stage->Array Bool->Bool
 | [],listed=>(Region.ready md ops listed).isEmpty
 | .reads l::rest,listed=>QmW md ops n l listed&&Qic md ops n rest (Qb3 l listed)
 | .act i::rest,listed=>decide (Region.ready md ops listed=[i])&&Qic md ops n rest (listed.setIfInBounds i true)
 | .bag l::rest,listed=>Qv0 md ops listed l&&Qic md ops n rest (Qb3 l listed)
def QdB:List Stage->Nat
 | []=>0
 | .reads l::rest=>l.length+QdB rest
 | .act _::rest=>1+QdB rest
 | .bag l::rest=>l.length+QdB rest
theorem QiQ (hs:Region.noSelect ops=true) (hQ:∀ c a d v w,Q (.panic c) (a.put d v) w->Q (.panic c) a w) {fuel:Nat} {K:Act->Prop} {w:World} (hS:S w) :
  ∀ (l:List Nat) (listed:Array Bool) (a:Act),Closed md ops listed->QmW md ops n l listed=true->(∀ a',Closed md ops (Qb3 l listed)->K a'->QfN P md ops Q S n fuel (Qb3 l listed) a' w) ->
    wpQuiet P ops S K (l.filterMap fun i=>ops[i]?) a->QfN P md ops Q S n (l.length+fuel) listed a w
 | [],listed,a,hcl,_,hK,h=>by simpa [Qb3] using hK a hcl h
 | i::l,listed,a,hcl,hB,hK,h=>by
   simp only [QmW,Bool.and_eq_true,decide_eq_true_eq] at hB;obtain ⟨⟨⟨⟨⟨h1,h2⟩,h3⟩,h4⟩,h5⟩,h6⟩:=hB;cases ho:ops[i]? with
   | none=>rw [ho] at h4;cases h4
   | some o =>
     rw [ho] at h4;simp only [List.filterMap_cons,ho] at h;have hT:∀ t,n<=t->t<ops.size->QhJ md ops 3 t i=true:=by
      intro t ht hot;have h7:=List.all_eq_true.1 h5 t (List.mem_range.2 hot);simp only [Bool.or_eq_true,decide_eq_true_eq] at h7;rcases h7 with h7|h7
      ·omega
      ·exact h7
     have hr:i∈Region.ready md ops listed:=by simpa using h2
     rw [show (i::l).length+fuel=(l.length+fuel)+1 by simp;omega];have hL:Qb3 (i::l) listed=Qb3 l (listed.setIfInBounds i true):=rfl;unfold wpQuiet at h;split at h
     ·rename_i hw
      obtain ⟨v,hv,hn⟩:=h;exact Qia ho (Region.noSelect_spec hs) (fun c a w=>hQ c a _ v w) h1 hT _ listed a w hcl (Region.free_spec ho h3) hr (Qib h4 hw hv) hS (QiQ hs hQ hS l _ _ (hcl.set hr) h6 (fun a' hc hk=>by rw [<- hL] at hc |-;exact hK a' hc hk) hn)
     ·rename_i hw
      exact Qia ho (Region.noSelect_spec hs) (fun c a w=>hQ c a _ undef w) h1 hT _ listed a w hcl (Region.free_spec ho h3) hr (.inr ⟨by simpa using hw,rfl⟩) hS (QiQ hs hQ hS l _ _ (hcl.set hr) h6 (fun a' hc hk=>by rw [<- hL] at hc |-;exact hK a' hc hk) h)
def QbO (n:Nat):List Stage->Bool
 | []=>true
 | .reads _::rest=>QbO n rest
 | .act i::.reads l::rest=>decide (i<n)&&QbO n (.reads l::rest)
 | .act _::rest=>QbO n rest
 | .bag _::.reads _::_=>false
 | .bag _::rest=>QbO n rest
def Marked (L:Array Bool) (l:List Nat) (d:Nat->Bool) (K:Array Bool):Prop:=K.size=L.size/\∀ j,K.getD j false=(L.getD j false||(d j&&l.contains j))
theorem QlX {L:Array Bool}:∀ (l pre:List Nat),Qdu md ops L l pre=true->∀ j∈l,j∉pre
 | [],_,_,j,hj=>by cases hj
 | i::l,pre,h,j,hj=>by
   simp only [Qdu,Bool.and_eq_true] at h;rcases List.mem_cons.1 hj with rfl|hj
   ·simpa using h.1.2
   ·exact fun hp=>QlX l (i::pre) h.2 j hj (List.mem_cons_of_mem _ hp)
theorem QlY {L:Array Bool}:∀ (l pre:List Nat),Qdu md ops L l pre=true->l.Nodup
 | [],_,_=>List.nodup_nil
 | i::l,pre,h=>by
   simp only [Qdu,Bool.and_eq_true] at h;exact List.nodup_cons.2 ⟨fun hi=>QlX l (i::pre) h.2 i hi (List.mem_cons_self ..),QlY l _ h.2⟩
theorem Qo2 {L:Array Bool}:∀ (l pre:List Nat),Qdu md ops L l pre=true->∀ j∈l,j<L.size/\L.getD j true=false
 | [],_,_,j,hj=>by cases hj
 | i::l,pre,h,j,hj=>by
   simp only [Qdu,Bool.and_eq_true] at h;rcases List.mem_cons.1 hj with rfl|hj
   ·have h1:L.getD j true=false:=by simpa using h.1.1.2
    refine ⟨?_,h1⟩;rcases Nat.lt_or_ge j L.size with h2|h2
    ·exact h2
    ·simp [Array.getElem?_eq_none h2] at h1
   ·exact Qo2 l _ h.2 j hj
theorem QlZ {L K:Array Bool} {l0:List Nat} {d:Nat->Bool} (hK:Marked L l0 d K):∀ (l pre:List Nat),Qdu md ops L l pre=true->(∀ j∈pre,d j=true/\j∈l0)->(∀ j∈l,j∈l0) ->
  (∃ i∈l,d i=false)->∃ i,i∈Region.ready md ops K
 | [],_,_,_,_,⟨i,hi,_⟩=>by cases hi
 | i::l,pre,h,hp,hl,⟨k,hk,hdk⟩=>by
   have hlt:=Qo2 (i::l) pre h i (List.mem_cons_self ..);have h':=h;simp only [Qdu,Bool.and_eq_true] at h;cases hd:d i with
   | false =>
     refine ⟨i,mem_ready.2 ⟨?_,?_⟩⟩
     ·refine getD_in (by rw [hK.1];exact hlt.1) ?_;rw [hK.2,hd,getD_both hlt.2];rfl
     ·cases ho:ops[i]? with
      | none=>rw [ho] at h;simp at h
      | some o =>
        rw [ho] at h;refine ⟨o,rfl,fun e he hb=>?_⟩;have h1:=Array.all_eq_true_iff_forall_mem.1 h.1.1.1 e he;simp only [Bool.or_eq_true,Bool.not_eq_true',hb,Bool.true_eq_false,false_or] at h1;rw [hK.2];rcases h1 with h1|h1
        ·rw [h1];rfl
        ·have h2:=hp _ (by simpa using h1);rw [h2.1,show l0.contains e.on=true by simpa using h2.2];simp
   | true =>
     refine QlZ hK l (i::pre) h.2 ?_ (fun j hj=>hl j (List.mem_cons_of_mem _ hj)) ?_
     ·intro j hj;rcases List.mem_cons.1 hj with rfl|hj
      ·exact ⟨hd,hl _ (List.mem_cons_self ..)⟩
      ·exact hp j hj
     ·rcases List.mem_cons.1 hk with rfl|hk
      ·rw [hd] at hdk;cases hdk
      ·exact ⟨k,hk,hdk⟩
theorem Marked.set {L K:Array Bool} {l:List Nat} {d:Nat->Bool} (h:Marked L l d K) {i:Nat} (hi:i∈l) (hlt:i<L.size):Marked L l (fun j=>d j||j==i) (K.setIfInBounds i true):=by
 refine ⟨by simpa using h.1,fun j=>?_⟩;by_cases hij:i=j
 ·subst hij;have hk:i<K.size:=by rw [h.1];exact hlt
  rw [show l.contains i=true by simpa using hi];simp [hk]
 ·rw [getD_set_ne false hij,h.2 j];have:(j==i)=false:=by simp;exact fun h=>hij h.symm
  simp only [this,Bool.or_false]
theorem QmX (l:List Nat):∀ L:Array Bool,(Qb3 l L).size=L.size:=by
 induction l with
 | nil=>intro L;rfl
 | cons i l ih=>intro L;rw [show Qb3 (i::l) L=Qb3 l (L.setIfInBounds i true) from rfl,ih];simp
theorem QmY (l:List Nat):∀ L:Array Bool,(∀ i∈l,i<L.size)->∀ j,(Qb3 l L).getD j false=(L.getD j false||l.contains j):=by
 induction l with
 | nil=>intro L _ j;simp [Qb3]
 | cons i l ih =>
   intro L h j;rw [show Qb3 (i::l) L=Qb3 l (L.setIfInBounds i true) from rfl,ih _ (fun k hk=>by simpa using h k (List.mem_cons_of_mem _ hk))];by_cases hij:i=j
   ·subst hij;have:=h i (List.mem_cons_self ..);simp [this]
   ·rw [getD_set_ne false hij];have:(j==i)=false:=by simp;exact fun h=>hij h.symm
    rw [List.contains_cons,this];simp
theorem Qkg {A B:Array Bool} (hs:A.size=B.size) (h:∀ j,A.getD j false=B.getD j false):A=B:=by
 apply Array.ext hs;intro i h1 h2;have:=h i;simpa [h1,h2] using this
theorem Qjq (d:Nat->Bool) (i:Nat):∀ l:List Nat,l.Nodup->i∈l->d i=false->(l.filter fun j=>!(d j||j==i)).length+1=(l.filter fun j=>!d j).length
 | [],_,h,_=>by cases h
 | k::l,hn,h,hd=>by
   obtain ⟨hk,hn⟩:=List.nodup_cons.1 hn;rcases List.mem_cons.1 h with rfl|h
   ·have e:(l.filter fun j=>!(d j||j==i))=l.filter fun j=>!d j:=by
     apply List.filter_congr;intro x hx;have:(x==i)=false:=by simp;rintro rfl;exact hk hx
     rw [this];simp
    rw [List.filter_cons,List.filter_cons,e];simp [hd]
   ·have ih:=Qjq d i l hn h hd;have hki:(k==i)=false:=by simp;rintro rfl;exact hk h
    rw [List.filter_cons,List.filter_cons];cases hdk:d k
    ·simp only [hki,Bool.false_or,Bool.not_false,if_true,List.length_cons];omega
    ·simp only [Bool.true_or,Bool.not_true,Bool.false_eq_true,if_false];exact ih
theorem Qui {fuel:Nat} {L:Array Bool} {l:List Nat} {Inv:(Nat->Bool)->Act->World->Prop} (hB:Qv0 md ops L l=true) (hmd:md = .any)
  (hstep:∀ d a w i,i∈l->d i=false->(∀ j∈l,Region.waitsFor .any ops i j=true->d j=true)->Inv d a w->wpOp P ops Q i (fun a' w'=>(i<n->S w')/\Inv (fun j=>d j||j==i) a' w') a w)
  (hend:∀ K d a w,Closed md ops K->K=Qb3 l L->(∀ i∈l,d i=true)->Inv d a w->QfN P md ops Q S n fuel K a w) :
  ∀ (r:Nat) (d:Nat->Bool) (K:Array Bool) (a:Act) (w:World),(l.filter fun j=>!d j).length=r->Closed md ops K->Marked L l d K->Inv d a w->QfN P md ops Q S n (r+fuel) K a w:=by
 simp only [Qv0,Bool.and_eq_true] at hB;have hnd:=QlY l [] hB.1;have hlt:=Qo2 l [] hB.1;intro r;induction r with
 | zero =>
   intro d K a w hr hcl hK hI;rw [Nat.zero_add];have hall:∀ i∈l,d i=true:=by
    intro i hi;have h0:(l.filter fun j=>!d j)=[]:=List.length_eq_zero_iff.1 hr;have:=List.filter_eq_nil_iff.1 h0 i hi;simpa using this
   refine hend K d a w hcl ?_ hall hI;apply Qkg (by rw [hK.1,QmX]);intro j;rw [hK.2,QmY l L (fun i hi=>(hlt i hi).1)];by_cases hj:l.contains j=true
   ·rw [hall j (by simpa using hj)];simp
   ·simp at hj;simp [hj]
 | succ r ih =>
   intro d K a w hr hcl hK hI;have hex:∃ i∈l,d i=false:=by
    have h0:0<(l.filter fun j=>!d j).length:=by omega
    obtain ⟨i,hi⟩:=List.exists_mem_of_length_pos h0;obtain ⟨h1,h2⟩:=List.mem_filter.1 hi;exact ⟨i,h1,by simpa using h2⟩
   rw [show r+1+fuel=(r+fuel)+1 by omega];refine ⟨fun h0=>?_,fun i hi=>?_⟩
   ·obtain ⟨i,hi⟩:=QlZ hK l [] hB.1 (by simp) (fun _ h=>h) hex;rw [h0] at hi;cases hi
   ·obtain ⟨hun,o,ho,hall⟩:=mem_ready.1 hi;have hunf:=getD_both hun;have h7:=List.all_eq_true.1 hB.2 i (List.mem_range.2 (Array.getElem?_eq_some_iff.1 ho).1);simp only [Bool.or_eq_true] at h7;have hil:i∈l:=by
     rcases h7 with (h7|h7)|h7
     ·rw [hK.2,h7] at hunf;simp at hunf
     ·simpa using h7
     ·obtain ⟨k,hk,hdk⟩:=hex;have h8:=List.all_eq_true.1 h7 k hk;have h9:=QfO hcl 3 i (fun ot hot e he hb=>by
       have:ot=o:=Option.some.inj (hot.symm.trans ho);subst this;exact hall e he hb) h8
      rw [hK.2,hdk,getD_both (hlt k hk).2] at h9;simp at h9
    have hdi:d i=false:=by
     cases hd:d i
     ·rfl
     ·rw [hK.2,hd,show l.contains i=true by simpa using hil] at hunf;simp at hunf
    refine wpOp_mono (fun a' w' h'=>⟨h'.1,ih (fun j=>d j||j==i) _ a' w' ?_ (hcl.set hi) (hK.set hil (hlt i hil).1) h'.2⟩) (hstep d a w i hil hdi ?_ hI)
    ·have:=Qjq d i l hnd hil hdi;omega
    ·intro j hj hw;subst hmd;obtain ⟨oj,hoj,e,he,hb,hon⟩:=Region.waitsFor_spec hw;have:oj=o:=Option.some.inj (hoj.symm.trans ho);subst this;have h9:=hall e he hb;rw [hon,hK.2,getD_both (hlt j hj).2] at h9;simp at h9;exact h9.1
theorem QqY {L:Array Bool} {l:List Nat}:Marked L l (fun _=>false) L:=⟨rfl,fun j=>by simp⟩
theorem Qid (hmd:md = .any) (hs:Region.noSelect ops=true) (hQ:∀ c a d v w,Q (.panic c) (a.put d v) w->Q (.panic c) a w) :
  ∀ (p:List Stage) (listed:Array Bool) (a:Act) (w:World),Closed md ops listed->Qic md ops n p listed=true->QbO n p=true->(∀ l rest,p = .reads l::rest->S w) ->
    QcY P ops Q S n p a w->QfN P md ops Q S n (QdB p) listed a w
 | [],listed,a,w,_,hB,_,_,h=>⟨by simpa [Qic] using hB,h⟩
 | .reads l::rest,listed,a,w,hcl,hB,hH,hS,h=>by
   simp only [Qic,Bool.and_eq_true] at hB;have hSw:=hS l rest rfl;exact QiQ hs hQ hSw l listed a hcl hB.1 (fun a' hc hk=>Qid hmd hs hQ rest _ a' w hc hB.2 (by simpa [QbO] using hH) (fun _ _ _=>hSw) hk) h
 | .act i::rest,listed,a,w,hcl,hB,hH,_,h=>by
   simp only [Qic,Bool.and_eq_true,decide_eq_true_eq] at hB;rw [show QdB (.act i::rest)=QdB rest+1 by simp [QdB];omega];refine ⟨fun h0=>(by rw [hB.1] at h0;cases h0),fun j hj=>?_⟩;have hcl':=hcl.set hj;rw [hB.1] at hj;have hji:j=i:=by simpa using hj
   subst hji;refine wpOp_mono (fun a' w' h'=>⟨h'.1,Qid hmd hs hQ rest _ a' w' hcl' hB.2 ?_ ?_ h'.2⟩) h
   ·cases rest with
    | nil=>rfl
    | cons s rest =>
      cases s with
      | reads l=>simp only [QbO,Bool.and_eq_true] at hH;exact hH.2
      | act k=>simpa [QbO] using hH
      | bag k=>simpa [QbO] using hH
   ·intro l rest' he;subst he;simp only [QbO,Bool.and_eq_true,decide_eq_true_eq] at hH;exact h'.1 hH.1
 | .bag l::rest,listed,a,w,hcl,hB,hH,_,h=>by
   simp only [Qic,Bool.and_eq_true] at hB;obtain ⟨Inv,h0,h1,h2⟩:=h;have hlen:(l.filter fun j=>!(fun _:Nat=>false) j).length=l.length:=by simp
   refine Qui (Inv:=Inv) hB.1 hmd h1 (fun K d a' w' hc hK hall hI=>?_) l.length _ listed a w hlen hcl QqY h0;subst hK;refine Qid hmd hs hQ rest _ a' w' hc hB.2 ?_ ?_ (h2 d a' w' hall hI)
   ·cases rest with
    | nil=>rfl
    | cons s rest=>cases s with
      | reads l=>simp [QbO] at hH
      | act k=>simpa [QbO] using hH
      | bag k=>simpa [QbO] using hH
   ·intro l' rest' he;subst he;simp [QbO] at hH
theorem QaI {id:Nat} {a:Act} {w:World} (S:World->Prop) (n:Nat) (p:List Stage) (hm:P.follows .mixedOrders=true) (hs:Region.noSelect ops=true)
  (hB:Qic .any ops n p (Array.replicate ops.size false)=true) (hH:QbO n p=true) (hZ:QdB p=ops.size)
  (hQ:∀ c a d v w,Q (.panic c) (a.put d v) w->Q (.panic c) a w) (hS:S w.drew) (h:QcY P ops Q S n p a w.drew):(Code.region id ops true).wp P Q a w:=by
 refine wp_region_any hm (Qkf (S:=S) (n:=n) _ _ _ _ ?_);have:=Qid rfl hs hQ p _ a _ (Closed.start _ _ _) hB hH (fun _ _ _=>hS) h;rw [hZ] at this;exact this
theorem Oper.wp_then {o:Oper} {a:Act} {w:World} {K K':Act->World->Prop} (h:o.wp P a w K (Exit.then K' Q)):o.wp P a w K Q:=by
 unfold Oper.wp at *;generalize (execOp a.eval o).run P w=r at *;cases r with
 | ok x w' =>
   cases x<;>simp only [Oper.upon] at h |- <;>
    first
     | exact h
     | exact Calls.mono h (fun e w'' he=>by cases e<;>exact he)
 | halt x w'=>cases x<;>simp only [Oper.upon] at h |-<;>exact h
def Qaf (ops:Array Oper):List Nat->List Oper
 | []=>[]
 | i::l=>(ops.toList.drop i).take 1++Qaf ops l
theorem Qhw:∀ (l:List Oper) (i:Nat),(l.drop i).take 1=(l[i]?).toList
 | [],i=>by simp
 | x::l,0=>by simp
 | x::l,i+1=>by simpa using Qhw l i
theorem QfQ (ops:Array Oper):∀ l:List Nat,Qaf ops l=l.filterMap fun i=>ops[i]?
 | []=>rfl
 | i::l=>by
   unfold Qaf;rw [Qhw,QfQ ops l,List.filterMap_cons,Array.getElem?_toList];cases ops[i]?<;>rfl
theorem Qai {i:Nat} {rest:List Stage} {a:Act} {w:World} (hi:(ops[i]?).isSome=true)
  (h:wpList P ops (Exit.then (fun a' w'=>(i<n->S w')/\QcY P ops Q S n rest a' w') Q) (Qaf ops [i]) a w):QcY P ops Q S n (.act i::rest) a w:=by
 cases ho:ops[i]? with
 | none=>rw [ho] at hi;cases hi
 | some o =>
   simp only [QfQ,List.filterMap_cons,List.filterMap_nil,ho] at h;unfold QcY wpOp;rw [ho];unfold wpList at h;simp only;split
   ·rename_i hw
    rw [if_pos hw] at h;rcases h with h|⟨h1,h2⟩
    ·exact .inl (Oper.wp_mono (fun a w h=>h) (Oper.wp_then h))
    ·exact .inr ⟨h1,h2⟩
   ·rename_i hw
    rw [if_neg hw] at h;exact h
theorem Qas {l:List Nat} {rest:List Stage} {a:Act} {w:World}
  (h:wpQuiet P ops S (fun a'=>QcY P ops Q S n rest a' w) (Qaf ops l) a):QcY P ops Q S n (.reads l::rest) a w:=by
 rw [QfQ] at h;exact h
def Grows (w:World) (w':World):Prop:=Below w.heap.size w w'
theorem Grows.refl (w:World):Grows w w:=Zb
theorem Grows.self (w:World):Grows w w.drew:=Below.drew Zb
theorem Grows.some (w:World):(∃ x,Grows w x)=True:=by simp only [eq_iff_iff,iff_true];exact ⟨w,Grows.refl w⟩
theorem Grows.all (w:World) (p:Prop):(∀ x,Grows w x->p)=p:=by
 rw [eq_iff_iff];exact ⟨fun h=>h w (Grows.refl w),fun h _ _=>h⟩
theorem Grows.trans {a b c:World} (h:Grows a b) (k:Below b.heap.size b c):Grows a c :=
 Below.trans h (k.mono (Below.size h))
attribute [go_sem] Grows.some Grows.all
def Qck (ops:Array Oper) (u:Nat->Value):List Nat->Act->Act
 | [],a=>a
 | i::l,a=>Qck ops u l (a.put (((ops.toList.drop i).take 1).head?.bind (·.dst)) (u i))
theorem Qdg {i:Nat} {K:Act->World->Prop} {a:Act} {w:World} (hi:(ops[i]?).isSome=true)
  (h:wpList P ops (Exit.then K Q) (Qaf ops [i]) a w):wpOp P ops Q i K a w:=by
 cases ho:ops[i]? with
 | none=>rw [ho] at hi;cases hi
 | some o =>
   simp only [QfQ,List.filterMap_cons,List.filterMap_nil,ho] at h;unfold wpOp;rw [ho];unfold wpList at h;simp only;split
   ·rename_i hw
    rw [if_pos hw] at h;rcases h with h|⟨h1,h2⟩
    ·exact .inl (Oper.wp_mono (fun a w h=>h) (Oper.wp_then h))
    ·exact .inr ⟨h1,h2⟩
   ·rename_i hw
    rw [if_neg hw] at h;exact h
theorem Qo3 {l:List Nat} {rest:List Stage} {a:Act} {w:World} (J:(Nat->Bool)->(Nat->Value)->World->Prop) (u0:Nat->Value) (h0:Qck ops u0 l a=a) (hJ:J (fun _=>false) u0 w)
  (hstep:∀ i∈l,∀ d u w,d i=false->(∀ j∈l,Region.waitsFor .any ops i j=true->d j=true)->J d u w ->
   wpOp P ops Q i (fun a' w'=>(i<n->S w')/\∃ v,a'=Qck ops (fun j=>if j=i then v else u j) l a/\J (fun j=>d j||j==i) (fun j=>if j=i then v else u j) w') (Qck ops u l a) w)
  (hend:∀ d u w,(∀ i∈l,d i=true)->J d u w->QcY P ops Q S n rest (Qck ops u l a) w):QcY P ops Q S n (.bag l::rest) a w:=by
 unfold QcY;refine ⟨fun d a' w'=>∃ u,a'=Qck ops u l a/\J d u w',⟨u0,h0.symm,hJ⟩,?_,?_⟩
 ·rintro d a' w' i hi hd hdep ⟨u,rfl,hj⟩;refine wpOp_mono ?_ (hstep i hi d u w' hd hdep hj);rintro a2 w2 ⟨h1,v,h2,h3⟩;exact ⟨h1,_,h2,h3⟩
 ·rintro d a' w' hall ⟨u,rfl,hj⟩;exact hend d u w' hall hj
theorem Qbb {a:Act} {w:World} (h:Q .normal a w):QcY P ops Q S n [] a w:=h
end
end Go
