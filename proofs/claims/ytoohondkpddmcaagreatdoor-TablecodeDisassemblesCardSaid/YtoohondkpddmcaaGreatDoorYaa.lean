/- Bs Lex Tka Tkb -/
import Derived.Test.YtoohondkpddmcaaGreatDoorYzz
import Derived.Test.YtoohondkpddmcaaGreatDoorProg
import Derived.WalkKit
import Derived.WalkLawsBesides
import Derived.WalkSpells
import Derived.WalkSmall
import Derived.OneCell
import Derived.Lib.Hide
import Derived.Deep.QuietTactic
import Derived.BigQuiet
import Derived.Deep.AppendLies
import Derived.Deep.CutBlock
import Derived.Deep.DeepCutAuto
namespace Go.Proofs.YtoohondkpddmcaaGreatDoor
set_option maxHeartbeats 32000000
set_option linter.unusedVariables false
set_option linter.unusedSimpArgs false
section
open Go.RowKit
theorem Qah (l:List UInt8) (i:Nat) (h:i<(ByteArray.mk l.toArray).size):(ByteArray.mk l.toArray)[i]=l[i]'(by have:=h;simp only [ByteArray.size_mk',List.size_toArray] at this;exact this):=rfl
theorem Qai (l:List UInt8) (a b:Nat):(ByteArray.mk l.toArray).extract a b=⟨((l.drop a).take (b-a)).toArray⟩:=by
 apply ByteArray.ext;simp [ByteArray.data_extract]
theorem Qag (s:List UInt8) (p:Nat):List.take (s.length-p) (List.drop p s)=List.drop p s:=by rw [<- List.length_drop,List.take_length]
theorem Qsq {w w2:World} {o:Obj} (hb:Below (w.heap.size+1) (w.alloc o) w2):w2.heap[w.heap.size]?=some o :=
 (hb.block _ (by omega)).trans (heap_alloc_new w _)
theorem QaT {w:World} {b t:Nat} {c0 c1 c2:Value} (h:w.heap[b]?=some (.cells #[c0,c1,c2] t (0,0))):w.cell? ⟨b,0,none⟩=some c0/\w.cell? ⟨b,1,none⟩=some c1/\w.cell? ⟨b,2,none⟩=some c2 :=
 ⟨(cell_of_row w _ 0 _ _ _ h).trans rfl,(cell_of_row w _ 1 _ _ _ h).trans rfl,(cell_of_row w _ 2 _ _ _ h).trans rfl⟩
theorem QoT {w:World} {B e z:Nat} {v:Value} {n:Nat} {xs:List Value} (h:w.ownsRow B e z v n xs):∃ (a:Option Addr) (m c:Nat),v = .slice a m c:=by
 rcases h.2 with ⟨h,_⟩|⟨g,cap,cur,h,_⟩
 ·exact ⟨_,_,_,h⟩
 ·exact ⟨_,_,_,h⟩
theorem QbH {w w':World} {B e z:Nat} {v:Value} {n:Nat} {xs:List Value} (h:w.ownsRow B e z v n xs) (hb:Below w.heap.size w w'):w'.ownsRow B e z v n xs:=by
 obtain ⟨hl,hv⟩:=h;refine ⟨hl,?_⟩;rcases hv with hv|⟨g,cap,cur,h1,h2,h3,h4⟩
 ·exact .inl hv
 ·exact .inr ⟨g,cap,cur,h1,h2,(hb.block g (lt_of_block h3)).trans h3,h4⟩
theorem Qfm {w:World} {B B' e z:Nat} {v:Value} {n:Nat} {xs:List Value} (h:w.ownsRow B e z v n xs) (hB:B'<=B):w.ownsRow B' e z v n xs:=by
 obtain ⟨hl,hv⟩:=h;refine ⟨hl,?_⟩;rcases hv with hv|⟨g,cap,cur,h1,h2,h3,h4⟩
 ·exact .inl hv
 ·exact .inr ⟨g,cap,cur,h1,by omega,h3,h4⟩
theorem Qdl {w:World} {B e z:Nat} {v:Value} {n:Nat} {xs:List Value} (h:w.ownsRow B e z v n xs) (p:Addr) (u:Value) (hp:p.block<B):(w.setCell p u).ownsRow B e z v n xs:=by
 obtain ⟨hl,hv⟩:=h;refine ⟨hl,?_⟩;rcases hv with hv|⟨g,cap,cur,h1,h2,h3,h4⟩
 ·exact .inl hv
 ·refine .inr ⟨g,cap,cur,h1,h2,?_,h4⟩;rw [heap_setCell_other _ _ _ _ (by omega)];exact h3
theorem QoU {w:World} {b:Nat} {o:Obj} (h:w.heap[b]?=some o) (o':Obj):(w.alloc o').heap[b]?=some o:=(Below.heap_alloc w o' b (lt_of_block h)).trans h
theorem QfK {w w':World} {b:Nat} {o:Obj} {row:Option Nat} (h:w.heap[b]?=some o) (hg:w.grownBy w' row) (hne:some b≠row):w'.heap[b]?=some o:=(hg.block b (lt_of_block h) hne).trans h
theorem Qad {w w':World} {b:Nat} {o:Obj} (h:w.heap[b]?=some o) (hb:Below w.heap.size w w'):w'.heap[b]?=some o:=(hb.block b (lt_of_block h)).trans h
theorem QbB {w:World} {b:Nat} {o:Obj} (h:w.heap[b]?=some o) (p:Addr) (u:Value) (hp:b≠p.block):(w.setCell p u).heap[b]?=some o:=(heap_setCell_other w p b u hp).trans h
theorem QoV {w:World} {b:Nat} {o:Obj} (h:w.heap[b]?=some o) (n:Nat):(w.drewN n).heap[b]?=some o:=h
theorem Qam {w:World} {b t:Nat} {cs:Array Value} (h:w.heap[b]?=some (.cells cs t (0,0))) (j:Nat):w.frozen? ⟨b,j,none⟩=false:=frozen_of_row _ _ _ _ _ h
theorem Qar {B:Nat} {w w1 w2:World} (h:Below B w w1) (hB:B<=w.heap.size) (k:Below w1.heap.size w1 w2):Below B w w2:=h.trans (k.mono (Nat.le_trans hB h.size))
theorem Qac {w:World} {b t:Nat} {c0 c1 c2 c3:Value} (h:w.heap[b]?=some (.cells #[c0,c1,c2,c3] t (0,0))):w.cell? ⟨b,0,none⟩=some c0/\w.cell? ⟨b,1,none⟩=some c1/\w.cell? ⟨b,2,none⟩=some c2/\w.cell? ⟨b,3,none⟩=some c3 :=
 ⟨(cell_of_row w _ 0 _ _ _ h).trans rfl,(cell_of_row w _ 1 _ _ _ h).trans rfl,(cell_of_row w _ 2 _ _ _ h).trans rfl,(cell_of_row w _ 3 _ _ _ h).trans rfl⟩
theorem QeB {w:World} {a:Addr} {v:Value} (h:w.cell? a=some v) (o:Obj):(w.alloc o).cell? a=some v :=
 (World.cell?_of_block (w:=w) (Below.heap_alloc w o a.block (World.block_lt_of_cell? w a h))).trans h
theorem Qik {w:World} {b t:Nat} {c0 c1 c2 c3:Value} (h:w.heap[b]?=some (.cells #[c0,c1,c2,c3] t (0,0))) (a0 a1 a2 a3:Value) :
  ((((w.setCell ⟨b,0,none⟩ a0).setCell ⟨b,1,none⟩ a1).setCell ⟨b,2,none⟩ a2).setCell ⟨b,3,none⟩ a3).heap[b]?=some (.cells #[a0,a1,a2,a3] t (0,0)):=by
 have e0:=(heap_setCell_same w _ 0 _ _ a0 h);have e1:=(heap_setCell_same _ _ 1 _ _ a1 e0);have e2:=(heap_setCell_same _ _ 2 _ _ a2 e1);exact (heap_setCell_same _ _ 3 _ _ a3 e2).trans rfl
theorem Qil {B:Nat} {w w1:World} {b:Nat} (h:Below B w w1) (hb:B<=b) (a0 a1 a2 a3:Value):Below B w ((((w1.setCell ⟨b,0,none⟩ a0).setCell ⟨b,1,none⟩ a1).setCell ⟨b,2,none⟩ a2).setCell ⟨b,3,none⟩ a3) :=
 (((h.setCell hb _).setCell hb _).setCell hb _).setCell hb _
theorem QoW {w w1:World} {o:Obj} (h:Below (w.alloc o).heap.size (w.alloc o) w1):Below w.heap.size w w1/\w1.heap[w.heap.size]?=some o:=by
 have h':Below (w.heap.size+1) (w.alloc o) w1:=by simpa using h
 exact ⟨(Zb.alloc Zc o).trans (h'.mono (by omega)),Qsq h'⟩
theorem QaN {w:World} {B e z:Nat} {v:Value} {n:Nat} {xs:List Value} (h:w.ownsRow B e z v n xs) {k:Nat} (hk:v.ownBlock=some k):B<=k:=by
 rcases h.2 with ⟨rfl,_⟩|⟨g,cap,cur,rfl,hg,_⟩
 ·cases hk
 ·injection hk with hk;subst hk;exact hg
theorem QdO {w w':World} {B e z:Nat} {v:Value} {n:Nat} {xs:List Value} {row:Option Nat} (h:w.ownsRow B e z v n xs) (hg:w.grownBy w' row) (hp:∀ g,v.ownBlock=some g->row≠some g):w'.ownsRow B e z v n xs:=by
 refine ⟨h.1,?_⟩;rcases h.2 with h0|⟨g,cap,cur,rfl,hg',hb,h3⟩
 ·exact .inl h0
 ·exact .inr ⟨g,cap,cur,rfl,hg',QfK hb hg (fun e=>hp g rfl e.symm),h3⟩
theorem Qcp {w:World} {B e z:Nat} {v:Value} {n:Nat} {xs:List Value} (h:w.ownsRow B e z v n xs) {g:Nat} (hg:v.ownBlock=some g):∃ cur,w.heap[g]?=some (.cells cur e (0,0)):=by
 rcases h.2 with ⟨rfl,_⟩|⟨g',cap,cur,rfl,_,hb,_⟩
 ·cases hg
 ·injection hg with hg;subst hg;exact ⟨cur,hb⟩
theorem Qfn {w:World} {B e z:Nat} {v:Value} {n:Nat} {xs:List Value} (h:w.ownsRow B e z v n xs) {g:Nat} (hg:v.ownBlock=some g):g<w.heap.size:=by
 obtain ⟨c,hc⟩:=Qcp h hg;exact lt_of_block hc
end
section
open Go.RowKit
attribute [local go_sem] ByteArray.mk_append_mk Qah Qai Qag
def QaC (c:UInt8):Bool:=decide ((97<=c.toNat/\c.toNat<=122)\/(65<=c.toNat/\c.toNat<=90)\/c.toNat=95)
def Qa7 (c:UInt8):Bool:=decide (48<=c.toNat/\c.toNat<=57)
def idB (c:UInt8):Bool:=QaC c||Qa7 c
def Qbx (c:UInt8):Bool:=decide (97<=c.toNat/\c.toNat<=122)
def Qb8 (s:List UInt8):Bool:=s.any Qbx
def Qc4 (s:List UInt8) (i:Nat):Nat:=i+((s.drop i).takeWhile idB).length
def QaV:List UInt8->Bool
 | []=>false
 | c::r=>decide (r.length<=3)&&QaC c&&(c::r).all idB&&!Qb8 (c::r)
theorem Qby {a b:Bool} (h:a=b):Ending.returned (.bool a) = .returned (.bool b):=by rw [h]
theorem QcB (c:UInt8) (w:World):Calls Tryz.prog 189 #[.int .u8 c.toNat] w fun e w'=>e = .returned (.bool (QaC c))/\w=w':=by
 have hc:=c.toNat_lt;unfold QaC;generalize c.toNat=n at *;by_cases h1:97<=n/\n<=122
 ·obtain ⟨ha,hb⟩:=h1;have ha':(97:Int)<=n:=by omega
  have hb':(n:Int)<=122:=by omega
  have HR:=Za (show true=decide ((97<=n/\n<=122)\/(65<=n/\n<=90)\/n=95) by rw [eq_comm,decide_eq_true_eq];omega);generalize decide ((97<=n/\n<=122)\/(65<=n/\n<=90)\/n=95)=R at *;go_enter Tryz.func189,Tryz.ntmps189;go_wp2_with fail;go_ret;exact ⟨Qby HR.out,rfl⟩
 ·by_cases h2:65<=n/\n<=90
  ·obtain ⟨ha,hb⟩:=h2;have ha':(65:Int)<=n:=by omega
   have hb':(n:Int)<=90:=by omega
   have hc':¬ (97:Int)<=n:=by omega
   have HR:=Za (show true=decide ((97<=n/\n<=122)\/(65<=n/\n<=90)\/n=95) by rw [eq_comm,decide_eq_true_eq];omega);generalize decide ((97<=n/\n<=122)\/(65<=n/\n<=90)\/n=95)=R at *;go_enter Tryz.func189,Tryz.ntmps189;go_wp2_with fail;go_ret;exact ⟨Qby HR.out,rfl⟩
  ·have HR:Hid (((n:Int)==95)=decide ((97<=n/\n<=122)\/(65<=n/\n<=90)\/n=95)):=Za (by
    rw [Bool.eq_iff_iff,beq_iff_eq,decide_eq_true_eq];omega)
   generalize decide ((97<=n/\n<=122)\/(65<=n/\n<=90)\/n=95)=R at *;by_cases h3:97<=n
   ·have h3':(97:Int)<=n:=by omega
    have h4':¬ (n:Int)<=122:=by omega
    have h5':¬ (n:Int)<=90:=by omega
    have h6':(65:Int)<=n:=by omega
    go_enter Tryz.func189,Tryz.ntmps189;go_wp2_with fail;go_ret;exact ⟨Qby HR.out,rfl⟩
   ·have h3':¬ (97:Int)<=n:=by omega
    by_cases h4:65<=n
    ·have h4':(65:Int)<=n:=by omega
     have h5':¬ (n:Int)<=90:=by omega
     go_enter Tryz.func189,Tryz.ntmps189;go_wp2_with fail;go_ret;exact ⟨Qby HR.out,rfl⟩
    ·have h4':¬ (65:Int)<=n:=by omega
     go_enter Tryz.func189,Tryz.ntmps189;go_wp2_with fail;go_ret;exact ⟨Qby HR.out,rfl⟩
theorem QfL (c:UInt8) (w:World):Calls Tryz.prog 197 #[.int .u8 c.toNat] w fun e w'=>e = .returned (.bool (Qa7 c))/\w=w':=by
 have hc:=c.toNat_lt;unfold Qa7;generalize c.toNat=n at *;have HR:Hid (decide ((n:Int)<=57)=decide (48<=n/\n<=57)\/¬ 48<=n):=Za (by
  by_cases h:48<=n
  ·left;rw [Bool.eq_iff_iff,decide_eq_true_eq,decide_eq_true_eq];omega
  ·right;exact h)
 have HF:Hid (¬ 48<=n->false=decide (48<=n/\n<=57)):=Za (fun h=>by rw [eq_comm,decide_eq_false_iff_not];omega);generalize decide (48<=n/\n<=57)=R at *;by_cases h:48<=n
 ·have h':(48:Int)<=n:=by omega
  go_enter Tryz.func197,Tryz.ntmps197;go_wp2_with fail;go_ret;exact ⟨Qby (HR.out.resolve_right (fun x=>x h)),rfl⟩
 ·have h':¬ (48:Int)<=n:=by omega
  go_enter Tryz.func197,Tryz.ntmps197;go_wp2_with fail;go_ret;exact ⟨Qby (HF.out h),rfl⟩
theorem Qqy (s:List UInt8) (i:Nat) (h:i<s.length):Qc4 s i=if idB s[i]=true then Qc4 s (i+1) else i:=by
 unfold Qc4;rw [List.drop_eq_getElem_cons h,List.takeWhile_cons];split
 ·rw [List.length_cons];omega
 ·rfl
theorem QoX (s:List UInt8) (i:Nat) (h:s.length<=i):Qc4 s i=i:=by
 unfold Qc4;rw [List.drop_eq_nil_of_le h];rfl
theorem QfM (s:List UInt8) (i:Nat) (w:World) (hs:s.length<=9223372036854775000) (hi:i<=9223372036854775000) :
  Calls Tryz.prog 190 #[.string ⟨s.toArray⟩,.int .i64 i] w fun e w'=>e = .returned (.int .i64 (Qc4 s i:Nat))/\w=w':=by
 go_enter Tryz.func190,Tryz.ntmps190;go_wp2_with fail;go_loop [1] (fun v=>∃ k:Nat,v = .int .i64 k/\k<=9223372036854775000/\Qc4 s i=Qc4 s k) (fun v=>s.length-(intOf v).toNat)
 case atStart=>exact ⟨i,rfl,hi,rfl⟩
 case round =>
  obtain ⟨k,rfl,hk,he⟩:=hrel;have HE:=Za he;clear he;by_cases hl:k<s.length
  ·have hat:=Za (Qqy s k hl);by_cases h1:QaC s[k]=true
   ·have hid:Hid (idB s[k]=true):=Za (by unfold idB;rw [h1]<;>rfl);go_wp2_with (go_at_call 189;refine (QcB _ _).mono ?_;rintro e w' ⟨rfl,rfl⟩);go_round
    case rel=>exact ⟨k+1,by go_num,by omega,by rw [HE.out,hat.out,if_pos hid.out]⟩
    case measure=>simp [intOf];omega
   ·have h1':QaC s[k]=false:=by simpa using h1
    clear h1;by_cases h2:Qa7 s[k]=true
    ·have hid:Hid (idB s[k]=true):=Za (by unfold idB;rw [h2];simp);go_wp2_with (first|(go_at_call 189;refine (QcB _ _).mono ?_;rintro e w' ⟨rfl,rfl⟩)|(go_at_call 197;refine (QfL _ _).mono ?_;rintro e w' ⟨rfl,rfl⟩));go_round
     case rel=>exact ⟨k+1,by go_num,by omega,by rw [HE.out,hat.out,if_pos hid.out]⟩
     case measure=>simp [intOf];omega
    ·have h2':Qa7 s[k]=false:=by simpa using h2
     clear h2;have hid:Hid (Qc4 s i=k):=Za (by rw [HE.out,hat.out,if_neg (by unfold idB;rw [h1',h2'];decide)]);go_wp2_with (first|(go_at_call 189;refine (QcB _ _).mono ?_;rintro e w' ⟨rfl,rfl⟩)|(go_at_call 197;refine (QfL _ _).mono ?_;rintro e w' ⟨rfl,rfl⟩));go_ret;exact ⟨by rw [hid.out];rfl,rfl⟩
  ·have hid:Hid (Qc4 s i=k):=Za (by rw [HE.out,QoX s k (by omega)]);go_wp2_with fail;go_ret;exact ⟨by rw [hid.out];rfl,rfl⟩
theorem Qol (s:List UInt8) (w:World) (hs:s.length<=9223372036854775000) :
 Calls Tryz.prog 190 #[.string ⟨s.toArray⟩,.int .i64 0] w fun e w'=>e = .returned (.int .i64 (Qc4 s 0:Nat))/\w=w':=QfM s 0 w hs (Nat.zero_le _)
theorem Qkk (s:List UInt8) (w:World) (hs:s.length<=9223372036854775000) :
  Calls Tryz.prog 191 #[.string ⟨s.toArray⟩] w fun e w'=>e = .returned (.bool (Qb8 s))/\w=w':=by
 go_enter Tryz.func191,Tryz.ntmps191;go_wp2_with fail;go_loop [3] (fun v=>∃ k:Nat,v = .int .i64 k/\k<=s.length/\Qb8 s=(s.drop k).any Qbx) (fun v=>s.length-(intOf v).toNat)
 case atStart=>exact ⟨0,rfl,Nat.zero_le _,rfl⟩
 case round =>
  obtain ⟨k,rfl,hk,he⟩:=hrel;by_cases hl:k<s.length
  ·rw [List.drop_eq_getElem_cons hl,List.any_cons] at he;have hnl:=s[k].toNat_lt;by_cases h1:97<=s[k].toNat
   ·have h1':(97:Int)<=s[k].toNat:=by omega
    by_cases h2:s[k].toNat<=122
    ·have h2':(s[k].toNat:Int)<=122:=by omega
     have HE:Hid (Qb8 s=true):=Za (by rw [he,show Qbx s[k]=true by unfold Qbx;rw [decide_eq_true_eq];exact ⟨h1,h2⟩]<;>rfl);clear he;go_wp2_with fail;go_ret;exact ⟨by rw [HE.out];rfl,rfl⟩
    ·have h2':¬ (s[k].toNat:Int)<=122:=by omega
     have HE:Hid (Qb8 s=(s.drop (k+1)).any Qbx):=Za (by rw [he,show Qbx s[k]=false by unfold Qbx;rw [decide_eq_false_iff_not];omega]<;>rfl);clear he;go_wp2_with fail;go_round
     case rel=>exact ⟨k+1,by go_num,by omega,HE.out⟩
     case measure=>simp [intOf];omega
   ·have h1':¬ (97:Int)<=s[k].toNat:=by omega
    have HE:Hid (Qb8 s=(s.drop (k+1)).any Qbx):=Za (by rw [he,show Qbx s[k]=false by unfold Qbx;rw [decide_eq_false_iff_not];omega]<;>rfl);clear he;go_wp2_with fail;go_round
    case rel=>exact ⟨k+1,by go_num,by omega,HE.out⟩
    case measure=>simp [intOf];omega
  ·rw [List.drop_eq_nil_of_le (by omega)] at he;have HE:=Za he;clear he;go_wp2_with fail;go_ret;exact ⟨by rw [HE.out];rfl,rfl⟩
theorem Qkl (s:List UInt8):Qc4 s 0=s.length↔s.all idB=true:=by
 unfold Qc4;rw [List.drop_zero,Nat.zero_add];induction s with
 | nil=>simp
 | cons c r ih =>
   rw [List.takeWhile_cons,List.all_cons];by_cases h:idB c=true
   ·rw [if_pos h,List.length_cons,List.length_cons,h,Bool.true_and,<- ih];omega
   ·rw [if_neg h];simp at h;simp [h]
theorem Qkm {c:UInt8} {r:List UInt8} (h:¬ r.length<=3):QaV (c::r)=false:=by
 rw [QaV,decide_eq_false h];rfl
theorem QlG {c:UInt8} {r:List UInt8} (h:QaC c=false):QaV (c::r)=false:=by
 rw [QaV,h];simp
theorem Qsr {c:UInt8} {r:List UInt8} (h:¬ Qc4 (c::r) 0=(c::r).length):QaV (c::r)=false:=by
 rw [QaV];rw [Qkl] at h;rw [show (c::r).all idB=false by simpa using h];simp
theorem QoY {c:UInt8} {r:List UInt8} (h0:r.length<=3) (h1:QaC c=true) (h:Qc4 (c::r) 0=(c::r).length):QaV (c::r)=!Qb8 (c::r):=by
 rw [QaV];rw [Qkl] at h;rw [h,h1,decide_eq_true h0];rfl
theorem Qci (s:List UInt8) (w:World) (hs:s.length<=9223372036854775000) :
  Calls Tryz.prog 133 #[.string ⟨s.toArray⟩] w fun e w'=>e = .returned (.bool (QaV s))/\w=w':=by
 match s,hs with
 | [],_ =>
   go_enter Tryz.func133,Tryz.ntmps133;go_wp2_with fail;go_ret;exact ⟨rfl,rfl⟩
 | c::r,hs =>
   rw [List.length_cons] at hs;have h1:((1:Int)<=(r.length:Int)+1):=by omega
   by_cases h3:r.length<=3
   ·have h3':(r.length:Int)+1<=4:=by omega
    by_cases hl:QaC c=true
    ·by_cases hid:Qc4 (c::r) 0=(c::r).length
     ·have HR:=Za (QoY h3 hl hid);have HID:=Za hid;clear hid;go_enter Tryz.func133,Tryz.ntmps133;go_wp2_with fail;((with_reducible refine (QcB _ _).mono ?_));rintro e w' ⟨rfl,rfl⟩;rw [hl];go_wp2_with fail;((with_reducible refine (Qol (c::r) _ (by rw [List.length_cons];omega)).mono ?_));rintro e w' ⟨rfl,rfl⟩;rw [HID.out];go_wp2_with fail;((with_reducible refine (Qkk (c::r) _ (by rw [List.length_cons];omega)).mono ?_));rintro e w' ⟨rfl,rfl⟩;go_wp2_with fail;go_ret;exact ⟨Qby HR.out.symm,rfl⟩
     ·have HR:=Za (Qsr hid);have hne:((Qc4 (c::r) 0:Int)==(r.length:Int)+1)=false:=by rw [beq_eq_false_iff_ne];rw [List.length_cons] at hid;omega
      clear hid;go_enter Tryz.func133,Tryz.ntmps133;go_wp2_with fail;((with_reducible refine (QcB _ _).mono ?_));rintro e w' ⟨rfl,rfl⟩;rw [hl];go_wp2_with fail;((with_reducible refine (Qol (c::r) _ (by rw [List.length_cons];omega)).mono ?_));rintro e w' ⟨rfl,rfl⟩;go_wp2_with fail;go_ret;exact ⟨Qby HR.out.symm,rfl⟩
    ·have hl':QaC c=false:=by simpa using hl
     have HR:=Za (QlG (r:=r) hl');clear hl;go_enter Tryz.func133,Tryz.ntmps133;go_wp2_with fail;((with_reducible refine (QcB _ _).mono ?_));rintro e w' ⟨rfl,rfl⟩;rw [hl'];go_wp2_with fail;go_ret;exact ⟨Qby HR.out.symm,rfl⟩
   ·have h3':¬ (r.length:Int)+1<=4:=by omega
    have HR:=Za (Qkm (c:=c) h3);go_enter Tryz.func133,Tryz.ntmps133;go_wp2_with fail;go_ret;exact ⟨Qby HR.out.symm,rfl⟩
theorem QcJ (s:List UInt8) (b:Bool) (H:Hid (QaV s=b)) (w:World) (hs:s.length<=9223372036854775000) :
  Calls Tryz.prog 133 #[.string ⟨s.toArray⟩] w fun e w'=>e = .returned (.bool b)/\w=w' :=
 (Qci s w hs).mono fun _ _ ⟨he,hw⟩=>⟨by rw [he,H.out],hw⟩
end
section
open Go.RowKit
def Qbd (s:List UInt8):Nat:=(s.takeWhile idB).length
def QiE (s:List UInt8):Nat:=(s.takeWhile (·==94)).length
def Qc3:List UInt8->Nat
 | 92::_=>1
 | s=>QiE s
def Qc5:Nat->List UInt8->Option Nat
 | 0,_=>none
 | _+1,[]=>none
 | f + 1, c :: r => if QaC c = false then none else if QaV ((c :: r).take (Qbd (c :: r))) = false then none else
     match (c::r).drop (Qbd (c::r)) with
     | 46::t=>(Qc5 f t).map (Qbd (c::r)+1 + ·)
     | _=>some (Qbd (c::r))
def Qcq (s:List UInt8):Option Nat :=
 match s.drop (Qc3 s) with
 | []=>if 0<Qc3 s then some (Qc3 s) else none
 | c::r=>if QaC c=true then (Qc5 (c::r).length (c::r)).map (Qc3 s + ·) else if 0<Qc3 s then some (Qc3 s) else none
def QcC (c:UInt8):Option Nat :=
 if Qa7 c=true then some (c.toNat-48) else if 97<=c.toNat/\c.toNat<=102 then some (c.toNat-87) else if 65<=c.toNat/\c.toNat<=70 then some (c.toNat-55) else none
def Qhl:List UInt8->Nat->Option Nat
 | [],v=>some v
 | c::r,v=>match QcC c with
   | some d=>Qhl r (v * 16+d)
   | none=>none
def Qeb:List UInt8->Nat->Option Nat
 | [],v=>some v
 | c::r,v=>if Qa7 c=true then (if (18446744073709551615-(c.toNat-48)) / 10<v then none else Qeb r (v * 10+(c.toNat-48))) else none
def QiF:List UInt8->Option Nat
 | 48::120::d=>if d=[]\/16<d.length then none else Qhl d 0
 | [48]=>some 0
 | 48::_=>none
 | s=>Qeb s 0
def Qbm:List UInt8->List UInt8->Option (List UInt8×List UInt8)
 | [],_=>none
 | 34::r,v=>if 255<v.length then none else some (v,r)
 | 92::34::r,v=>Qbm r (v++[34])
 | 92::92::r,v=>Qbm r (v++[92])
 | 92::120::h::l::r,v=>match QcC h,QcC l with
   | some a,some b=>Qbm r (v++[UInt8.ofNat (a * 16+b)])
   | _,_=>none
 | 92::_,_=>none
 | c::r,v=>if 32<=c.toNat/\c.toNat<=126 then Qbm r (v++[c]) else none
def QbO:List UInt8->Option (List UInt8)
 | []=>none
 | 42::47::r=>some r
 | _::r=>QbO r
def QeX (c:UInt8):Bool:=c==32||c==9||c==13||c==10
theorem Qgd:∀ (s r:List UInt8),QbO s=some r->r.length+2<=s.length
 | [],r,h=>by simp [QbO] at h
 | 42::47::t,r,h=>by
   rw [QbO] at h;injection h with h;subst h;simp
 | c::t,r,h=>by
   unfold QbO at h;split at h
   ·cases h
   ·next heq =>
    injection heq with h1 h2;subst h1 h2;injection h with h;subst h;simp
   ·next heq =>
    injection heq with h1 h2;subst h1 h2;have:=Qgd _ r h;simp;omega
def Qef:Nat->List UInt8->List UInt8×Bool
 | 0,s=>(s,true)
 | f+1,s=>match s with
   | []=>([],true)
   | 47::47::r=>Qef f ((47::47::r).dropWhile (· != 10))
   | 47::42::r=>match QbO r with
     | some t=>Qef f t
     | none=>(47::42::r,false)
   | c::r=>if QeX c=true then Qef f r else (c::r,true)
theorem QgF (r:List UInt8):((47::47::r:List UInt8).dropWhile (· != 10)).length<=r.length:=by
 have h1:(47::47::r:List UInt8).dropWhile (· != 10)=r.dropWhile (· != 10):=by simp
 rw [h1];exact (List.dropWhile_sublist _).length_le
theorem Qc7:∀ (f g:Nat) (s:List UInt8),s.length<f->s.length<g->Qef f s=Qef g s
 | 0,_,_,h,_=>absurd h (by omega)
 | _+1,0,_,_,h=>absurd h (by omega)
 | f+1,g+1,s,h1,h2=>by
   unfold Qef;split
   ·rfl
   ·next r =>
    have:=QgF r;simp only [List.length_cons] at h1 h2;exact Qc7 f g _ (by omega) (by omega)
   ·next r =>
    simp only [List.length_cons] at h1 h2;split
    ·next t ht =>
     have:=Qgd r t ht;exact Qc7 f g _ (by omega) (by omega)
    ·rfl
   ·next c r _ _ =>
    simp only [List.length_cons] at h1 h2;split
    ·exact Qc7 f g _ (by omega) (by omega)
    ·rfl
def QaQ (s:List UInt8):List UInt8×Bool:=Qef (s.length+1) s
theorem QmW (r:List UInt8):QaQ (47::47::r)=QaQ ((47::47::r:List UInt8).dropWhile (· != 10)):=by
 have:=QgF r;unfold QaQ;rw [Qef];exact Qc7 _ _ _ (by simp only [List.length_cons];omega) (by omega)
theorem QlH {r t:List UInt8} (h:QbO r=some t):QaQ (47::42::r)=QaQ t:=by
 have:=Qgd r t h;unfold QaQ;rw [Qef];simp only [h];exact Qc7 _ _ _ (by simp only [List.length_cons];omega) (by omega)
theorem QmX {r:List UInt8} (h:QbO r=none):QaQ (47::42::r)=(47::42::r,false):=by
 unfold QaQ;rw [Qef];simp only [h]
theorem QlI {c:UInt8} {r:List UInt8} (h:QeX c=true):QaQ (c::r)=QaQ r:=by
 have hc:c≠47:=by rintro rfl;cases h
 unfold QaQ;rw [Qef]
 ·rw [if_pos h];exact Qc7 _ _ _ (by simp) (by omega)
 ·intro x e _;exact hc e
 ·intro x e _;exact hc e
theorem QmY {c:UInt8} {r:List UInt8} (h:QeX c=false) (h2:c=47->∀ t,r≠47::t/\r≠42::t):QaQ (c::r)=(c::r,true):=by
 unfold QaQ;rw [Qef]
 ·rw [if_neg (by rw [h];decide)]
 ·intro x e1 e2;exact (h2 e1 x).1 e2
 ·intro x e1 e2;exact (h2 e1 x).2 e2
structure Tok where
 kind:Nat
 num:Nat
 str:List UInt8
 pos:Nat
deriving DecidableEq
def Qdv (c:UInt8):Nat:=if c=40 then 5 else if c=41 then 6 else if c=123 then 7 else if c=125 then 8 else if c=44 then 9 else 0
def Qcr:List UInt8->Option (Nat×Nat×List UInt8×Nat)
 | []=>none
 | c::r =>
   if Qa7 c=true then (QiF ((c::r).take (Qbd (c::r)))).map fun v=>(3,v,[],Qbd (c::r))
   else if QaC c=true then
    (if Qb8 ((c::r).take (Qbd (c::r)))=true then (if Qbd (c::r)<=32 then some (2,0,(c::r).take (Qbd (c::r)),Qbd (c::r)) else none)
     else (Qcq (c::r)).map fun m=>(1,0,(c::r).take m,m))
   else if c=92\/c=94 then (Qcq (c::r)).map fun m=>(1,0,(c::r).take m,m)
   else if c=34 then (Qbm r []).map fun p=>(4,0,p.1,(c::r).length-p.2.length)
   else if Qdv c=0 then none else some (Qdv c,0,[],1)
def QdD (s:List UInt8):Nat->Nat->List Tok->List Tok×Nat×Nat
 | 0,_,acc=>(acc,0,0)
 | f+1,p,acc =>
   if (QaQ (s.drop p)).2=false then ([],s.length-(QaQ (s.drop p)).1.length,2)
   else if (QaQ (s.drop p)).1=[] then (acc,0,0)
   else match Qcr (QaQ (s.drop p)).1 with
    | none=>([],s.length-(QaQ (s.drop p)).1.length,2)
    | some (k,v,t,n)=>QdD s f (s.length-(QaQ (s.drop p)).1.length+n) (acc++[⟨k,v,t,s.length-(QaQ (s.drop p)).1.length⟩])
def Qeg (s:List UInt8):List Tok×Nat×Nat:=if 65536<s.length then ([],0,11) else QdD s (s.length+1) 0 []
end
section
open Go.RowKit
attribute [local go_sem] ByteArray.mk_append_mk Qah Qai Qag
def QmZ (c:UInt8):Int:=match QcC c with
 | some d=>(d:Int)
 | none=>-1
theorem Qfo (c:UInt8) (w:World):Calls Tryz.prog 231 #[.int .u8 c.toNat] w fun e w'=>e = .returned (.int .i64 (QmZ c))/\w=w':=by
 have hc:=c.toNat_lt;obtain ⟨b,hb⟩:∃ b,Qa7 c=b:=⟨_,rfl⟩;have HN:=Za (QfL c w);rw [hb] at HN;obtain ⟨X,hX⟩:∃ X,Hid (QmZ c=X):=⟨_,Za rfl⟩;rw [hX.out];have HV:Hid (X=if b=true then ((c.toNat-48:Nat):Int) else if 97<=c.toNat/\c.toNat<=102 then ((c.toNat-87:Nat):Int) else if 65<=c.toNat/\c.toNat<=70 then ((c.toNat-55:Nat):Int) else -1):=Za (by rw [<- hX.out,<- hb];unfold QmZ QcC;(repeat' split)<;>simp_all);have HD:Hid (b=true->48<=c.toNat/\c.toNat<=57):=Za (by rw [<- hb];unfold Qa7;simp);clear hX hb;obtain ⟨n,hn⟩:∃ n,c.toNat=n:=⟨_,rfl⟩;rw [hn] at HV HN hc HD |-;clear hn;go_enter Tryz.func231,Tryz.ntmps231;go_wp2_with fail;((with_reducible refine HN.out.mono ?_));rintro e w2 ⟨rfl,rfl⟩;cases b
 ·by_cases h1:(97:Int)<=n
  ·by_cases h2:(n:Int)<=102
   ·go_wp2_with fail;go_ret;exact ⟨by rw [HV.out,if_neg (by decide),if_pos (by omega)];simp;omega,rfl⟩
   ·go_wp2_with fail;go_ret;exact ⟨by rw [HV.out,if_neg (by decide),if_neg (by omega),if_neg (by omega)];rfl,rfl⟩
  ·by_cases h3:(65:Int)<=n
   ·by_cases h2:(n:Int)<=70
    ·go_wp2_with fail;go_ret;exact ⟨by rw [HV.out,if_neg (by decide),if_neg (by omega),if_pos (by omega)];simp;omega,rfl⟩
    ·go_wp2_with fail;go_ret;exact ⟨by rw [HV.out,if_neg (by decide),if_neg (by omega),if_neg (by omega)];rfl,rfl⟩
   ·go_wp2_with fail;go_ret;exact ⟨by rw [HV.out,if_neg (by decide),if_neg (by omega),if_neg (by omega)];rfl,rfl⟩
 ·obtain ⟨h1,h2⟩:=HD.out rfl;go_wp2_with fail;go_ret;exact ⟨by rw [HV.out];simp;omega,rfl⟩
theorem QoZ (c:UInt8):Qdv c=if c.toNat=40 then 5 else if c.toNat=41 then 6 else if c.toNat=123 then 7 else if c.toNat=125 then 8 else if c.toNat=44 then 9 else 0:=by
 have e:∀ d:UInt8,(c=d)=(c.toNat=d.toNat):=fun d=>propext UInt8.toNat_inj.symm;unfold Qdv;simp only [e];rfl
theorem Qm0 (c:UInt8) (w:World):Calls Tryz.prog 200 #[.int .u8 c.toNat] w fun e w'=>e = .returned (.int .i64 (Qdv c:Nat))/\w=w':=by
 rw [QoZ];have hc:=c.toNat_lt;generalize c.toNat=n at *;obtain ⟨K,hK⟩:∃ K:Nat,Hid ((if n=40 then 5 else if n=41 then 6 else if n=123 then 7 else if n=125 then 8 else if n=44 then 9 else 0)=K):=⟨_,Za rfl⟩;rw [hK.out];go_enter Tryz.func200,Tryz.ntmps200;go_wp2_with fail
 all_goals go_ret
 all_goals refine ⟨?_,rfl⟩
 all_goals (rw [<- hK.out];simp only [beq_iff_eq,beq_eq_false_iff_ne] at *;first|(rw [if_pos (by omega)]<;>rfl)|(rw [if_neg (by omega),if_pos (by omega)]<;>rfl)|(rw [if_neg (by omega),if_neg (by omega),if_pos (by omega)]<;>rfl)|(rw [if_neg (by omega),if_neg (by omega),if_neg (by omega),if_pos (by omega)]<;>rfl)|(rw [if_neg (by omega),if_neg (by omega),if_neg (by omega),if_neg (by omega),if_pos (by omega)]<;>rfl)|(rw [if_neg (by omega),if_neg (by omega),if_neg (by omega),if_neg (by omega),if_neg (by omega)]<;>rfl))
end
end Go.Proofs.YtoohondkpddmcaaGreatDoor
