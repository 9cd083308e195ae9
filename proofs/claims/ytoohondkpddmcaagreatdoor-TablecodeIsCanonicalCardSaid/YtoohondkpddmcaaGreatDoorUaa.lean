/- Bs Lex Tka Tkb -/
import Derived.Test.YtoohondkpddmcaaGreatDoorUzz
import Derived.Test.YtoohondkpddmcaaGreatDoorProg
import Derived.WalkKit
import Derived.WalkLawsBesides
import Derived.WalkSpells
import Derived.WalkSmall
import Derived.OneCell
import Derived.Lib.Hide
import Derived.Deep.QuietTactic
import Derived.BigQuiet
import Derived.Deep.AppendLies
import Derived.Deep.CutBlock
import Derived.Deep.DeepCutAuto
namespace Go.Proofs.YtoohondkpddmcaaGreatDoor
set_option maxHeartbeats 32000000
set_option linter.unusedVariables false
set_option linter.unusedSimpArgs false
section
open Go.RowKit
theorem Qac (l:List UInt8) (i:Nat) (h:i<(ByteArray.mk l.toArray).size):(ByteArray.mk l.toArray)[i]=l[i]'(by have:=h;simp only [ByteArray.size_mk',List.size_toArray] at this;exact this):=rfl
theorem Qad (l:List UInt8) (a b:Nat):(ByteArray.mk l.toArray).extract a b=⟨((l.drop a).take (b-a)).toArray⟩:=by
 apply ByteArray.ext;simp [ByteArray.data_extract]
theorem Qae (s:List UInt8) (p:Nat):List.take (s.length-p) (List.drop p s)=List.drop p s:=by rw [<- List.length_drop,List.take_length]
theorem Qud {w w2:World} {o:Obj} (hb:Below (w.heap.size+1) (w.alloc o) w2):w2.heap[w.heap.size]?=some o :=
 (hb.block _ (by omega)).trans (heap_alloc_new w _)
theorem Qa4 {w:World} {b t:Nat} {c0 c1 c2:Value} (h:w.heap[b]?=some (.cells #[c0,c1,c2] t (0,0))):w.cell? ⟨b,0,none⟩=some c0/\w.cell? ⟨b,1,none⟩=some c1/\w.cell? ⟨b,2,none⟩=some c2 :=
 ⟨(cell_of_row w _ 0 _ _ _ h).trans rfl,(cell_of_row w _ 1 _ _ _ h).trans rfl,(cell_of_row w _ 2 _ _ _ h).trans rfl⟩
theorem QqH {w:World} {B e z:Nat} {v:Value} {n:Nat} {xs:List Value} (h:w.ownsRow B e z v n xs):∃ (a:Option Addr) (m c:Nat),v = .slice a m c:=by
 rcases h.2 with ⟨h,_⟩|⟨g,cap,cur,h,_⟩
 ·exact ⟨_,_,_,h⟩
 ·exact ⟨_,_,_,h⟩
theorem QbY {w w':World} {B e z:Nat} {v:Value} {n:Nat} {xs:List Value} (h:w.ownsRow B e z v n xs) (hb:Below w.heap.size w w'):w'.ownsRow B e z v n xs:=by
 obtain ⟨hl,hv⟩:=h;refine ⟨hl,?_⟩;rcases hv with hv|⟨g,cap,cur,h1,h2,h3,h4⟩
 ·exact .inl hv
 ·exact .inr ⟨g,cap,cur,h1,h2,(hb.block g (lt_of_block h3)).trans h3,h4⟩
theorem Qgz {w:World} {B B' e z:Nat} {v:Value} {n:Nat} {xs:List Value} (h:w.ownsRow B e z v n xs) (hB:B'<=B):w.ownsRow B' e z v n xs:=by
 obtain ⟨hl,hv⟩:=h;refine ⟨hl,?_⟩;rcases hv with hv|⟨g,cap,cur,h1,h2,h3,h4⟩
 ·exact .inl hv
 ·exact .inr ⟨g,cap,cur,h1,by omega,h3,h4⟩
theorem Qdx {w:World} {B e z:Nat} {v:Value} {n:Nat} {xs:List Value} (h:w.ownsRow B e z v n xs) (p:Addr) (u:Value) (hp:p.block<B):(w.setCell p u).ownsRow B e z v n xs:=by
 obtain ⟨hl,hv⟩:=h;refine ⟨hl,?_⟩;rcases hv with hv|⟨g,cap,cur,h1,h2,h3,h4⟩
 ·exact .inl hv
 ·refine .inr ⟨g,cap,cur,h1,h2,?_,h4⟩;rw [heap_setCell_other _ _ _ _ (by omega)];exact h3
theorem QqI {w:World} {b:Nat} {o:Obj} (h:w.heap[b]?=some o) (o':Obj):(w.alloc o').heap[b]?=some o:=(Below.heap_alloc w o' b (lt_of_block h)).trans h
theorem QgZ {w w':World} {b:Nat} {o:Obj} {row:Option Nat} (h:w.heap[b]?=some o) (hg:w.grownBy w' row) (hne:some b≠row):w'.heap[b]?=some o:=(hg.block b (lt_of_block h) hne).trans h
theorem Qab {w w':World} {b:Nat} {o:Obj} (h:w.heap[b]?=some o) (hb:Below w.heap.size w w'):w'.heap[b]?=some o:=(hb.block b (lt_of_block h)).trans h
theorem QbF {w:World} {b:Nat} {o:Obj} (h:w.heap[b]?=some o) (p:Addr) (u:Value) (hp:b≠p.block):(w.setCell p u).heap[b]?=some o:=(heap_setCell_other w p b u hp).trans h
theorem QqJ {w:World} {b:Nat} {o:Obj} (h:w.heap[b]?=some o) (n:Nat):(w.drewN n).heap[b]?=some o:=h
theorem Qay {w:World} {b t:Nat} {cs:Array Value} (h:w.heap[b]?=some (.cells cs t (0,0))) (j:Nat):w.frozen? ⟨b,j,none⟩=false:=frozen_of_row _ _ _ _ _ h
theorem Qah {B:Nat} {w w1 w2:World} (h:Below B w w1) (hB:B<=w.heap.size) (k:Below w1.heap.size w1 w2):Below B w w2:=h.trans (k.mono (Nat.le_trans hB h.size))
theorem Qaa {w:World} {b t:Nat} {c0 c1 c2 c3:Value} (h:w.heap[b]?=some (.cells #[c0,c1,c2,c3] t (0,0))):w.cell? ⟨b,0,none⟩=some c0/\w.cell? ⟨b,1,none⟩=some c1/\w.cell? ⟨b,2,none⟩=some c2/\w.cell? ⟨b,3,none⟩=some c3 :=
 ⟨(cell_of_row w _ 0 _ _ _ h).trans rfl,(cell_of_row w _ 1 _ _ _ h).trans rfl,(cell_of_row w _ 2 _ _ _ h).trans rfl,(cell_of_row w _ 3 _ _ _ h).trans rfl⟩
theorem Qfb {w:World} {a:Addr} {v:Value} (h:w.cell? a=some v) (o:Obj):(w.alloc o).cell? a=some v :=
 (World.cell?_of_block (w:=w) (Below.heap_alloc w o a.block (World.block_lt_of_cell? w a h))).trans h
theorem QjP {w:World} {b t:Nat} {c0 c1 c2 c3:Value} (h:w.heap[b]?=some (.cells #[c0,c1,c2,c3] t (0,0))) (a0 a1 a2 a3:Value) :
  ((((w.setCell ⟨b,0,none⟩ a0).setCell ⟨b,1,none⟩ a1).setCell ⟨b,2,none⟩ a2).setCell ⟨b,3,none⟩ a3).heap[b]?=some (.cells #[a0,a1,a2,a3] t (0,0)):=by
 have e0:=(heap_setCell_same w _ 0 _ _ a0 h);have e1:=(heap_setCell_same _ _ 1 _ _ a1 e0);have e2:=(heap_setCell_same _ _ 2 _ _ a2 e1);exact (heap_setCell_same _ _ 3 _ _ a3 e2).trans rfl
theorem QjQ {B:Nat} {w w1:World} {b:Nat} (h:Below B w w1) (hb:B<=b) (a0 a1 a2 a3:Value):Below B w ((((w1.setCell ⟨b,0,none⟩ a0).setCell ⟨b,1,none⟩ a1).setCell ⟨b,2,none⟩ a2).setCell ⟨b,3,none⟩ a3) :=
 (((h.setCell hb _).setCell hb _).setCell hb _).setCell hb _
theorem QqK {w w1:World} {o:Obj} (h:Below (w.alloc o).heap.size (w.alloc o) w1):Below w.heap.size w w1/\w1.heap[w.heap.size]?=some o:=by
 have h':Below (w.heap.size+1) (w.alloc o) w1:=by simpa using h
 exact ⟨(Zb.alloc Zc o).trans (h'.mono (by omega)),Qud h'⟩
theorem Qap {w:World} {B e z:Nat} {v:Value} {n:Nat} {xs:List Value} (h:w.ownsRow B e z v n xs) {k:Nat} (hk:v.ownBlock=some k):B<=k:=by
 rcases h.2 with ⟨rfl,_⟩|⟨g,cap,cur,rfl,hg,_⟩
 ·cases hk
 ·injection hk with hk;subst hk;exact hg
theorem Qd3 {w w':World} {B e z:Nat} {v:Value} {n:Nat} {xs:List Value} {row:Option Nat} (h:w.ownsRow B e z v n xs) (hg:w.grownBy w' row) (hp:∀ g,v.ownBlock=some g->row≠some g):w'.ownsRow B e z v n xs:=by
 refine ⟨h.1,?_⟩;rcases h.2 with h0|⟨g,cap,cur,rfl,hg',hb,h3⟩
 ·exact .inl h0
 ·exact .inr ⟨g,cap,cur,rfl,hg',QgZ hb hg (fun e=>hp g rfl e.symm),h3⟩
theorem QcB {w:World} {B e z:Nat} {v:Value} {n:Nat} {xs:List Value} (h:w.ownsRow B e z v n xs) {g:Nat} (hg:v.ownBlock=some g):∃ cur,w.heap[g]?=some (.cells cur e (0,0)):=by
 rcases h.2 with ⟨rfl,_⟩|⟨g',cap,cur,rfl,_,hb,_⟩
 ·cases hg
 ·injection hg with hg;subst hg;exact ⟨cur,hb⟩
theorem QhG {w:World} {B e z:Nat} {v:Value} {n:Nat} {xs:List Value} (h:w.ownsRow B e z v n xs) {g:Nat} (hg:v.ownBlock=some g):g<w.heap.size:=by
 obtain ⟨c,hc⟩:=QcB h hg;exact lt_of_block hc
end
section
open Go.RowKit
attribute [local go_sem] ByteArray.mk_append_mk Qac Qad Qae
def QaK (c:UInt8):Bool:=decide ((97<=c.toNat/\c.toNat<=122)\/(65<=c.toNat/\c.toNat<=90)\/c.toNat=95)
def Qba (c:UInt8):Bool:=decide (48<=c.toNat/\c.toNat<=57)
def idB (c:UInt8):Bool:=QaK c||Qba c
def Qbz (c:UInt8):Bool:=decide (97<=c.toNat/\c.toNat<=122)
def Qch (s:List UInt8):Bool:=s.any Qbz
def Qdb (s:List UInt8) (i:Nat):Nat:=i+((s.drop i).takeWhile idB).length
def Qa2:List UInt8->Bool
 | []=>false
 | c::r=>decide (r.length<=3)&&QaK c&&(c::r).all idB&&!Qch (c::r)
theorem QbA {a b:Bool} (h:a=b):Ending.returned (.bool a) = .returned (.bool b):=by rw [h]
theorem QcL (c:UInt8) (w:World):Calls Tryz.prog 189 #[.int .u8 c.toNat] w fun e w'=>e = .returned (.bool (QaK c))/\w=w':=by
 have hc:=c.toNat_lt;unfold QaK;generalize c.toNat=n at *;by_cases h1:97<=n/\n<=122
 ·obtain ⟨ha,hb⟩:=h1;have ha':(97:Int)<=n:=by omega
  have hb':(n:Int)<=122:=by omega
  have HR:=Za (show true=decide ((97<=n/\n<=122)\/(65<=n/\n<=90)\/n=95) by rw [eq_comm,decide_eq_true_eq];omega);generalize decide ((97<=n/\n<=122)\/(65<=n/\n<=90)\/n=95)=R at *;go_enter Tryz.func189,Tryz.ntmps189;go_wp2_with fail;go_ret;exact ⟨QbA HR.out,rfl⟩
 ·by_cases h2:65<=n/\n<=90
  ·obtain ⟨ha,hb⟩:=h2;have ha':(65:Int)<=n:=by omega
   have hb':(n:Int)<=90:=by omega
   have hc':¬ (97:Int)<=n:=by omega
   have HR:=Za (show true=decide ((97<=n/\n<=122)\/(65<=n/\n<=90)\/n=95) by rw [eq_comm,decide_eq_true_eq];omega);generalize decide ((97<=n/\n<=122)\/(65<=n/\n<=90)\/n=95)=R at *;go_enter Tryz.func189,Tryz.ntmps189;go_wp2_with fail;go_ret;exact ⟨QbA HR.out,rfl⟩
  ·have HR:Hid (((n:Int)==95)=decide ((97<=n/\n<=122)\/(65<=n/\n<=90)\/n=95)):=Za (by
    rw [Bool.eq_iff_iff,beq_iff_eq,decide_eq_true_eq];omega)
   generalize decide ((97<=n/\n<=122)\/(65<=n/\n<=90)\/n=95)=R at *;by_cases h3:97<=n
   ·have h3':(97:Int)<=n:=by omega
    have h4':¬ (n:Int)<=122:=by omega
    have h5':¬ (n:Int)<=90:=by omega
    have h6':(65:Int)<=n:=by omega
    go_enter Tryz.func189,Tryz.ntmps189;go_wp2_with fail;go_ret;exact ⟨QbA HR.out,rfl⟩
   ·have h3':¬ (97:Int)<=n:=by omega
    by_cases h4:65<=n
    ·have h4':(65:Int)<=n:=by omega
     have h5':¬ (n:Int)<=90:=by omega
     go_enter Tryz.func189,Tryz.ntmps189;go_wp2_with fail;go_ret;exact ⟨QbA HR.out,rfl⟩
    ·have h4':¬ (65:Int)<=n:=by omega
     go_enter Tryz.func189,Tryz.ntmps189;go_wp2_with fail;go_ret;exact ⟨QbA HR.out,rfl⟩
theorem Qg0 (c:UInt8) (w:World):Calls Tryz.prog 197 #[.int .u8 c.toNat] w fun e w'=>e = .returned (.bool (Qba c))/\w=w':=by
 have hc:=c.toNat_lt;unfold Qba;generalize c.toNat=n at *;have HR:Hid (decide ((n:Int)<=57)=decide (48<=n/\n<=57)\/¬ 48<=n):=Za (by
  by_cases h:48<=n
  ·left;rw [Bool.eq_iff_iff,decide_eq_true_eq,decide_eq_true_eq];omega
  ·right;exact h)
 have HF:Hid (¬ 48<=n->false=decide (48<=n/\n<=57)):=Za (fun h=>by rw [eq_comm,decide_eq_false_iff_not];omega);generalize decide (48<=n/\n<=57)=R at *;by_cases h:48<=n
 ·have h':(48:Int)<=n:=by omega
  go_enter Tryz.func197,Tryz.ntmps197;go_wp2_with fail;go_ret;exact ⟨QbA (HR.out.resolve_right (fun x=>x h)),rfl⟩
 ·have h':¬ (48:Int)<=n:=by omega
  go_enter Tryz.func197,Tryz.ntmps197;go_wp2_with fail;go_ret;exact ⟨QbA (HF.out h),rfl⟩
theorem Qsi (s:List UInt8) (i:Nat) (h:i<s.length):Qdb s i=if idB s[i]=true then Qdb s (i+1) else i:=by
 unfold Qdb;rw [List.drop_eq_getElem_cons h,List.takeWhile_cons];split
 ·rw [List.length_cons];omega
 ·rfl
theorem QqL (s:List UInt8) (i:Nat) (h:s.length<=i):Qdb s i=i:=by
 unfold Qdb;rw [List.drop_eq_nil_of_le h];rfl
theorem Qg1 (s:List UInt8) (i:Nat) (w:World) (hs:s.length<=9223372036854775000) (hi:i<=9223372036854775000) :
  Calls Tryz.prog 190 #[.string ⟨s.toArray⟩,.int .i64 i] w fun e w'=>e = .returned (.int .i64 (Qdb s i:Nat))/\w=w':=by
 go_enter Tryz.func190,Tryz.ntmps190;go_wp2_with fail;go_loop [1] (fun v=>∃ k:Nat,v = .int .i64 k/\k<=9223372036854775000/\Qdb s i=Qdb s k) (fun v=>s.length-(intOf v).toNat)
 case atStart=>exact ⟨i,rfl,hi,rfl⟩
 case round =>
  obtain ⟨k,rfl,hk,he⟩:=hrel;have HE:=Za he;clear he;by_cases hl:k<s.length
  ·have hat:=Za (Qsi s k hl);by_cases h1:QaK s[k]=true
   ·have hid:Hid (idB s[k]=true):=Za (by unfold idB;rw [h1]<;>rfl);go_wp2_with (go_at_call 189;refine (QcL _ _).mono ?_;rintro e w' ⟨rfl,rfl⟩);go_round
    case rel=>exact ⟨k+1,by go_num,by omega,by rw [HE.out,hat.out,if_pos hid.out]⟩
    case measure=>simp [intOf];omega
   ·have h1':QaK s[k]=false:=by simpa using h1
    clear h1;by_cases h2:Qba s[k]=true
    ·have hid:Hid (idB s[k]=true):=Za (by unfold idB;rw [h2];simp);go_wp2_with (first|(go_at_call 189;refine (QcL _ _).mono ?_;rintro e w' ⟨rfl,rfl⟩)|(go_at_call 197;refine (Qg0 _ _).mono ?_;rintro e w' ⟨rfl,rfl⟩));go_round
     case rel=>exact ⟨k+1,by go_num,by omega,by rw [HE.out,hat.out,if_pos hid.out]⟩
     case measure=>simp [intOf];omega
    ·have h2':Qba s[k]=false:=by simpa using h2
     clear h2;have hid:Hid (Qdb s i=k):=Za (by rw [HE.out,hat.out,if_neg (by unfold idB;rw [h1',h2'];decide)]);go_wp2_with (first|(go_at_call 189;refine (QcL _ _).mono ?_;rintro e w' ⟨rfl,rfl⟩)|(go_at_call 197;refine (Qg0 _ _).mono ?_;rintro e w' ⟨rfl,rfl⟩));go_ret;exact ⟨by rw [hid.out];rfl,rfl⟩
  ·have hid:Hid (Qdb s i=k):=Za (by rw [HE.out,QqL s k (by omega)]);go_wp2_with fail;go_ret;exact ⟨by rw [hid.out];rfl,rfl⟩
theorem Qqb (s:List UInt8) (w:World) (hs:s.length<=9223372036854775000) :
 Calls Tryz.prog 190 #[.string ⟨s.toArray⟩,.int .i64 0] w fun e w'=>e = .returned (.int .i64 (Qdb s 0:Nat))/\w=w':=Qg1 s 0 w hs (Nat.zero_le _)
theorem QlS (s:List UInt8) (w:World) (hs:s.length<=9223372036854775000) :
  Calls Tryz.prog 191 #[.string ⟨s.toArray⟩] w fun e w'=>e = .returned (.bool (Qch s))/\w=w':=by
 go_enter Tryz.func191,Tryz.ntmps191;go_wp2_with fail;go_loop [3] (fun v=>∃ k:Nat,v = .int .i64 k/\k<=s.length/\Qch s=(s.drop k).any Qbz) (fun v=>s.length-(intOf v).toNat)
 case atStart=>exact ⟨0,rfl,Nat.zero_le _,rfl⟩
 case round =>
  obtain ⟨k,rfl,hk,he⟩:=hrel;by_cases hl:k<s.length
  ·rw [List.drop_eq_getElem_cons hl,List.any_cons] at he;have hnl:=s[k].toNat_lt;by_cases h1:97<=s[k].toNat
   ·have h1':(97:Int)<=s[k].toNat:=by omega
    by_cases h2:s[k].toNat<=122
    ·have h2':(s[k].toNat:Int)<=122:=by omega
     have HE:Hid (Qch s=true):=Za (by rw [he,show Qbz s[k]=true by unfold Qbz;rw [decide_eq_true_eq];exact ⟨h1,h2⟩]<;>rfl);clear he;go_wp2_with fail;go_ret;exact ⟨by rw [HE.out];rfl,rfl⟩
    ·have h2':¬ (s[k].toNat:Int)<=122:=by omega
     have HE:Hid (Qch s=(s.drop (k+1)).any Qbz):=Za (by rw [he,show Qbz s[k]=false by unfold Qbz;rw [decide_eq_false_iff_not];omega]<;>rfl);clear he;go_wp2_with fail;go_round
     case rel=>exact ⟨k+1,by go_num,by omega,HE.out⟩
     case measure=>simp [intOf];omega
   ·have h1':¬ (97:Int)<=s[k].toNat:=by omega
    have HE:Hid (Qch s=(s.drop (k+1)).any Qbz):=Za (by rw [he,show Qbz s[k]=false by unfold Qbz;rw [decide_eq_false_iff_not];omega]<;>rfl);clear he;go_wp2_with fail;go_round
    case rel=>exact ⟨k+1,by go_num,by omega,HE.out⟩
    case measure=>simp [intOf];omega
  ·rw [List.drop_eq_nil_of_le (by omega)] at he;have HE:=Za he;clear he;go_wp2_with fail;go_ret;exact ⟨by rw [HE.out];rfl,rfl⟩
theorem QlT (s:List UInt8):Qdb s 0=s.length↔s.all idB=true:=by
 unfold Qdb;rw [List.drop_zero,Nat.zero_add];induction s with
 | nil=>simp
 | cons c r ih =>
   rw [List.takeWhile_cons,List.all_cons];by_cases h:idB c=true
   ·rw [if_pos h,List.length_cons,List.length_cons,h,Bool.true_and,<- ih];omega
   ·rw [if_neg h];simp at h;simp [h]
theorem QlU {c:UInt8} {r:List UInt8} (h:¬ r.length<=3):Qa2 (c::r)=false:=by
 rw [Qa2,decide_eq_false h];rfl
theorem Qnv {c:UInt8} {r:List UInt8} (h:QaK c=false):Qa2 (c::r)=false:=by
 rw [Qa2,h];simp
theorem Que {c:UInt8} {r:List UInt8} (h:¬ Qdb (c::r) 0=(c::r).length):Qa2 (c::r)=false:=by
 rw [Qa2];rw [QlT] at h;rw [show (c::r).all idB=false by simpa using h];simp
theorem QqM {c:UInt8} {r:List UInt8} (h0:r.length<=3) (h1:QaK c=true) (h:Qdb (c::r) 0=(c::r).length):Qa2 (c::r)=!Qch (c::r):=by
 rw [Qa2];rw [QlT] at h;rw [h,h1,decide_eq_true h0];rfl
theorem QmS (s:List UInt8) (w:World) (hs:s.length<=9223372036854775000) :
  Calls Tryz.prog 133 #[.string ⟨s.toArray⟩] w fun e w'=>e = .returned (.bool (Qa2 s))/\w=w':=by
 match s,hs with
 | [],_ =>
   go_enter Tryz.func133,Tryz.ntmps133;go_wp2_with fail;go_ret;exact ⟨rfl,rfl⟩
 | c::r,hs =>
   rw [List.length_cons] at hs;have h1:((1:Int)<=(r.length:Int)+1):=by omega
   by_cases h3:r.length<=3
   ·have h3':(r.length:Int)+1<=4:=by omega
    by_cases hl:QaK c=true
    ·by_cases hid:Qdb (c::r) 0=(c::r).length
     ·have HR:=Za (QqM h3 hl hid);have HID:=Za hid;clear hid;go_enter Tryz.func133,Tryz.ntmps133;go_wp2_with fail;((with_reducible refine (QcL _ _).mono ?_));rintro e w' ⟨rfl,rfl⟩;rw [hl];go_wp2_with fail;((with_reducible refine (Qqb (c::r) _ (by rw [List.length_cons];omega)).mono ?_));rintro e w' ⟨rfl,rfl⟩;rw [HID.out];go_wp2_with fail;((with_reducible refine (QlS (c::r) _ (by rw [List.length_cons];omega)).mono ?_));rintro e w' ⟨rfl,rfl⟩;go_wp2_with fail;go_ret;exact ⟨QbA HR.out.symm,rfl⟩
     ·have HR:=Za (Que hid);have hne:((Qdb (c::r) 0:Int)==(r.length:Int)+1)=false:=by rw [beq_eq_false_iff_ne];rw [List.length_cons] at hid;omega
      clear hid;go_enter Tryz.func133,Tryz.ntmps133;go_wp2_with fail;((with_reducible refine (QcL _ _).mono ?_));rintro e w' ⟨rfl,rfl⟩;rw [hl];go_wp2_with fail;((with_reducible refine (Qqb (c::r) _ (by rw [List.length_cons];omega)).mono ?_));rintro e w' ⟨rfl,rfl⟩;go_wp2_with fail;go_ret;exact ⟨QbA HR.out.symm,rfl⟩
    ·have hl':QaK c=false:=by simpa using hl
     have HR:=Za (Qnv (r:=r) hl');clear hl;go_enter Tryz.func133,Tryz.ntmps133;go_wp2_with fail;((with_reducible refine (QcL _ _).mono ?_));rintro e w' ⟨rfl,rfl⟩;rw [hl'];go_wp2_with fail;go_ret;exact ⟨QbA HR.out.symm,rfl⟩
   ·have h3':¬ (r.length:Int)+1<=4:=by omega
    have HR:=Za (QlU (c:=c) h3);go_enter Tryz.func133,Tryz.ntmps133;go_wp2_with fail;go_ret;exact ⟨QbA HR.out.symm,rfl⟩
theorem Qdy (s:List UInt8) (b:Bool) (H:Hid (Qa2 s=b)) (w:World) (hs:s.length<=9223372036854775000) :
  Calls Tryz.prog 133 #[.string ⟨s.toArray⟩] w fun e w'=>e = .returned (.bool b)/\w=w' :=
 (QmS s w hs).mono fun _ _ ⟨he,hw⟩=>⟨by rw [he,H.out],hw⟩
end
section
open Go.RowKit
def Qbh (s:List UInt8):Nat:=(s.takeWhile idB).length
def Qka (s:List UInt8):Nat:=(s.takeWhile (·==94)).length
def Qda:List UInt8->Nat
 | 92::_=>1
 | s=>Qka s
def Qdc:Nat->List UInt8->Option Nat
 | 0,_=>none
 | _+1,[]=>none
 | f + 1, c :: r => if QaK c = false then none else if Qa2 ((c :: r).take (Qbh (c :: r))) = false then none else
     match (c::r).drop (Qbh (c::r)) with
     | 46::t=>(Qdc f t).map (Qbh (c::r)+1 + ·)
     | _=>some (Qbh (c::r))
def QcC (s:List UInt8):Option Nat :=
 match s.drop (Qda s) with
 | []=>if 0<Qda s then some (Qda s) else none
 | c::r=>if QaK c=true then (Qdc (c::r).length (c::r)).map (Qda s + ·) else if 0<Qda s then some (Qda s) else none
def QcM (c:UInt8):Option Nat :=
 if Qba c=true then some (c.toNat-48) else if 97<=c.toNat/\c.toNat<=102 then some (c.toNat-87) else if 65<=c.toNat/\c.toNat<=70 then some (c.toNat-55) else none
def QiO:List UInt8->Nat->Option Nat
 | [],v=>some v
 | c::r,v=>match QcM c with
   | some d=>QiO r (v * 16+d)
   | none=>none
def Qey:List UInt8->Nat->Option Nat
 | [],v=>some v
 | c::r,v=>if Qba c=true then (if (18446744073709551615-(c.toNat-48)) / 10<v then none else Qey r (v * 10+(c.toNat-48))) else none
def Qkb:List UInt8->Option Nat
 | 48::120::d=>if d=[]\/16<d.length then none else QiO d 0
 | [48]=>some 0
 | 48::_=>none
 | s=>Qey s 0
def Qbp:List UInt8->List UInt8->Option (List UInt8×List UInt8)
 | [],_=>none
 | 34::r,v=>if 255<v.length then none else some (v,r)
 | 92::34::r,v=>Qbp r (v++[34])
 | 92::92::r,v=>Qbp r (v++[92])
 | 92::120::h::l::r,v=>match QcM h,QcM l with
   | some a,some b=>Qbp r (v++[UInt8.ofNat (a * 16+b)])
   | _,_=>none
 | 92::_,_=>none
 | c::r,v=>if 32<=c.toNat/\c.toNat<=126 then Qbp r (v++[c]) else none
def QbU:List UInt8->Option (List UInt8)
 | []=>none
 | 42::47::r=>some r
 | _::r=>QbU r
def QfM (c:UInt8):Bool:=c==32||c==9||c==13||c==10
theorem QhH:∀ (s r:List UInt8),QbU s=some r->r.length+2<=s.length
 | [],r,h=>by simp [QbU] at h
 | 42::47::t,r,h=>by
   rw [QbU] at h;injection h with h;subst h;simp
 | c::t,r,h=>by
   unfold QbU at h;split at h
   ·cases h
   ·next heq =>
    injection heq with h1 h2;subst h1 h2;injection h with h;subst h;simp
   ·next heq =>
    injection heq with h1 h2;subst h1 h2;have:=QhH _ r h;simp;omega
def QeE:Nat->List UInt8->List UInt8×Bool
 | 0,s=>(s,true)
 | f+1,s=>match s with
   | []=>([],true)
   | 47::47::r=>QeE f ((47::47::r).dropWhile (· != 10))
   | 47::42::r=>match QbU r with
     | some t=>QeE f t
     | none=>(47::42::r,false)
   | c::r=>if QfM c=true then QeE f r else (c::r,true)
theorem Qh7 (r:List UInt8):((47::47::r:List UInt8).dropWhile (· != 10)).length<=r.length:=by
 have h1:(47::47::r:List UInt8).dropWhile (· != 10)=r.dropWhile (· != 10):=by simp
 rw [h1];exact (List.dropWhile_sublist _).length_le
theorem Qdf:∀ (f g:Nat) (s:List UInt8),s.length<f->s.length<g->QeE f s=QeE g s
 | 0,_,_,h,_=>absurd h (by omega)
 | _+1,0,_,_,h=>absurd h (by omega)
 | f+1,g+1,s,h1,h2=>by
   unfold QeE;split
   ·rfl
   ·next r =>
    have:=Qh7 r;simp only [List.length_cons] at h1 h2;exact Qdf f g _ (by omega) (by omega)
   ·next r =>
    simp only [List.length_cons] at h1 h2;split
    ·next t ht =>
     have:=QhH r t ht;exact Qdf f g _ (by omega) (by omega)
    ·rfl
   ·next c r _ _ =>
    simp only [List.length_cons] at h1 h2;split
    ·exact Qdf f g _ (by omega) (by omega)
    ·rfl
def Qa3 (s:List UInt8):List UInt8×Bool:=QeE (s.length+1) s
theorem QoR (r:List UInt8):Qa3 (47::47::r)=Qa3 ((47::47::r:List UInt8).dropWhile (· != 10)):=by
 have:=Qh7 r;unfold Qa3;rw [QeE];exact Qdf _ _ _ (by simp only [List.length_cons];omega) (by omega)
theorem Qnw {r t:List UInt8} (h:QbU r=some t):Qa3 (47::42::r)=Qa3 t:=by
 have:=QhH r t h;unfold Qa3;rw [QeE];simp only [h];exact Qdf _ _ _ (by simp only [List.length_cons];omega) (by omega)
theorem QoS {r:List UInt8} (h:QbU r=none):Qa3 (47::42::r)=(47::42::r,false):=by
 unfold Qa3;rw [QeE];simp only [h]
theorem Qnx {c:UInt8} {r:List UInt8} (h:QfM c=true):Qa3 (c::r)=Qa3 r:=by
 have hc:c≠47:=by rintro rfl;cases h
 unfold Qa3;rw [QeE]
 ·rw [if_pos h];exact Qdf _ _ _ (by simp) (by omega)
 ·intro x e _;exact hc e
 ·intro x e _;exact hc e
theorem QoT {c:UInt8} {r:List UInt8} (h:QfM c=false) (h2:c=47->∀ t,r≠47::t/\r≠42::t):Qa3 (c::r)=(c::r,true):=by
 unfold Qa3;rw [QeE]
 ·rw [if_neg (by rw [h];decide)]
 ·intro x e1 e2;exact (h2 e1 x).1 e2
 ·intro x e1 e2;exact (h2 e1 x).2 e2
structure Tok where
 kind:Nat
 num:Nat
 str:List UInt8
 pos:Nat
deriving DecidableEq
def QdI (c:UInt8):Nat:=if c=40 then 5 else if c=41 then 6 else if c=123 then 7 else if c=125 then 8 else if c=44 then 9 else 0
def QcD:List UInt8->Option (Nat×Nat×List UInt8×Nat)
 | []=>none
 | c::r =>
   if Qba c=true then (Qkb ((c::r).take (Qbh (c::r)))).map fun v=>(3,v,[],Qbh (c::r))
   else if QaK c=true then
    (if Qch ((c::r).take (Qbh (c::r)))=true then (if Qbh (c::r)<=32 then some (2,0,(c::r).take (Qbh (c::r)),Qbh (c::r)) else none)
     else (QcC (c::r)).map fun m=>(1,0,(c::r).take m,m))
   else if c=92\/c=94 then (QcC (c::r)).map fun m=>(1,0,(c::r).take m,m)
   else if c=34 then (Qbp r []).map fun p=>(4,0,p.1,(c::r).length-p.2.length)
   else if QdI c=0 then none else some (QdI c,0,[],1)
def QdN (s:List UInt8):Nat->Nat->List Tok->List Tok×Nat×Nat
 | 0,_,acc=>(acc,0,0)
 | f+1,p,acc =>
   if (Qa3 (s.drop p)).2=false then ([],s.length-(Qa3 (s.drop p)).1.length,2)
   else if (Qa3 (s.drop p)).1=[] then (acc,0,0)
   else match QcD (Qa3 (s.drop p)).1 with
    | none=>([],s.length-(Qa3 (s.drop p)).1.length,2)
    | some (k,v,t,n)=>QdN s f (s.length-(Qa3 (s.drop p)).1.length+n) (acc++[⟨k,v,t,s.length-(Qa3 (s.drop p)).1.length⟩])
def QeF (s:List UInt8):List Tok×Nat×Nat:=if 65536<s.length then ([],0,11) else QdN s (s.length+1) 0 []
end
section
open Go.RowKit
attribute [local go_sem] ByteArray.mk_append_mk Qac Qad Qae
def QoU (c:UInt8):Int:=match QcM c with
 | some d=>(d:Int)
 | none=>-1
theorem QgA (c:UInt8) (w:World):Calls Tryz.prog 231 #[.int .u8 c.toNat] w fun e w'=>e = .returned (.int .i64 (QoU c))/\w=w':=by
 have hc:=c.toNat_lt;obtain ⟨b,hb⟩:∃ b,Qba c=b:=⟨_,rfl⟩;have HN:=Za (Qg0 c w);rw [hb] at HN;obtain ⟨X,hX⟩:∃ X,Hid (QoU c=X):=⟨_,Za rfl⟩;rw [hX.out];have HV:Hid (X=if b=true then ((c.toNat-48:Nat):Int) else if 97<=c.toNat/\c.toNat<=102 then ((c.toNat-87:Nat):Int) else if 65<=c.toNat/\c.toNat<=70 then ((c.toNat-55:Nat):Int) else -1):=Za (by rw [<- hX.out,<- hb];unfold QoU QcM;(repeat' split)<;>simp_all);have HD:Hid (b=true->48<=c.toNat/\c.toNat<=57):=Za (by rw [<- hb];unfold Qba;simp);clear hX hb;obtain ⟨n,hn⟩:∃ n,c.toNat=n:=⟨_,rfl⟩;rw [hn] at HV HN hc HD |-;clear hn;go_enter Tryz.func231,Tryz.ntmps231;go_wp2_with fail;((with_reducible refine HN.out.mono ?_));rintro e w2 ⟨rfl,rfl⟩;cases b
 ·by_cases h1:(97:Int)<=n
  ·by_cases h2:(n:Int)<=102
   ·go_wp2_with fail;go_ret;exact ⟨by rw [HV.out,if_neg (by decide),if_pos (by omega)];simp;omega,rfl⟩
   ·go_wp2_with fail;go_ret;exact ⟨by rw [HV.out,if_neg (by decide),if_neg (by omega),if_neg (by omega)];rfl,rfl⟩
  ·by_cases h3:(65:Int)<=n
   ·by_cases h2:(n:Int)<=70
    ·go_wp2_with fail;go_ret;exact ⟨by rw [HV.out,if_neg (by decide),if_neg (by omega),if_pos (by omega)];simp;omega,rfl⟩
    ·go_wp2_with fail;go_ret;exact ⟨by rw [HV.out,if_neg (by decide),if_neg (by omega),if_neg (by omega)];rfl,rfl⟩
   ·go_wp2_with fail;go_ret;exact ⟨by rw [HV.out,if_neg (by decide),if_neg (by omega),if_neg (by omega)];rfl,rfl⟩
 ·obtain ⟨h1,h2⟩:=HD.out rfl;go_wp2_with fail;go_ret;exact ⟨by rw [HV.out];simp;omega,rfl⟩
theorem QqN (c:UInt8):QdI c=if c.toNat=40 then 5 else if c.toNat=41 then 6 else if c.toNat=123 then 7 else if c.toNat=125 then 8 else if c.toNat=44 then 9 else 0:=by
 have e:∀ d:UInt8,(c=d)=(c.toNat=d.toNat):=fun d=>propext UInt8.toNat_inj.symm;unfold QdI;simp only [e];rfl
theorem QoV (c:UInt8) (w:World):Calls Tryz.prog 200 #[.int .u8 c.toNat] w fun e w'=>e = .returned (.int .i64 (QdI c:Nat))/\w=w':=by
 rw [QqN];have hc:=c.toNat_lt;generalize c.toNat=n at *;obtain ⟨K,hK⟩:∃ K:Nat,Hid ((if n=40 then 5 else if n=41 then 6 else if n=123 then 7 else if n=125 then 8 else if n=44 then 9 else 0)=K):=⟨_,Za rfl⟩;rw [hK.out];go_enter Tryz.func200,Tryz.ntmps200;go_wp2_with fail
 all_goals go_ret
 all_goals refine ⟨?_,rfl⟩
 all_goals (rw [<- hK.out];simp only [beq_iff_eq,beq_eq_false_iff_ne] at *;first|(rw [if_pos (by omega)]<;>rfl)|(rw [if_neg (by omega),if_pos (by omega)]<;>rfl)|(rw [if_neg (by omega),if_neg (by omega),if_pos (by omega)]<;>rfl)|(rw [if_neg (by omega),if_neg (by omega),if_neg (by omega),if_pos (by omega)]<;>rfl)|(rw [if_neg (by omega),if_neg (by omega),if_neg (by omega),if_neg (by omega),if_pos (by omega)]<;>rfl)|(rw [if_neg (by omega),if_neg (by omega),if_neg (by omega),if_neg (by omega),if_neg (by omega)]<;>rfl))
end
end Go.Proofs.YtoohondkpddmcaaGreatDoor
