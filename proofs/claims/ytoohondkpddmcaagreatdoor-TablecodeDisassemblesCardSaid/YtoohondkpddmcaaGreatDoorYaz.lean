/- Rf Rc2 Rh -/
import Derived.Test.YtoohondkpddmcaaGreatDoorYzz
import Derived.Test.YtoohondkpddmcaaGreatDoorYay
import Derived.Test.YtoohondkpddmcaaGreatDoorYak
namespace Go.Proofs.YtoohondkpddmcaaGreatDoor
set_option maxHeartbeats 32000000
set_option linter.unusedVariables false
set_option linter.unusedSimpArgs false
section
open Go.RowKit
attribute [local go_sem] ByteArray.mk_append_mk Qah Qai Qag
theorem Qtp (op:Int) (w:World):Calls Tryz.prog 53 #[.int .u8 110,.int .i64 op] w fun e w'=>e = .returned (.bool (Qaq 110 op))/\w=w':=by
 rw [show Qaq 110 op=(op==3) from rfl];go_enter Tryz.func53,Tryz.ntmps53;go_wp2_with fail
 all_goals
  go_ret;exact ⟨by first|(simp [*];done)|(refine Qby ?_;rw [Bool.eq_iff_iff];simp only [Bool.or_eq_true,Bool.and_eq_true,Bool.not_eq_true',Bool.or_eq_false_iff,beq_iff_eq,bne_iff_ne,decide_eq_true_eq,beq_eq_false_iff_ne,ne_eq,Bool.true_eq_false,Bool.false_eq_true,false_and,and_false,true_and,and_true,false_or,or_false,true_or,or_true,iff_true,true_iff,iff_false,false_iff];omega),rfl⟩
theorem Qtq (op:Int) (w:World):Calls Tryz.prog 53 #[.int .u8 115,.int .i64 op] w fun e w'=>e = .returned (.bool (Qaq 115 op))/\w=w':=by
 rw [show Qaq 115 op=(op==3) from rfl];go_enter Tryz.func53,Tryz.ntmps53;go_wp2_with fail
 all_goals
  go_ret;exact ⟨by first|(simp [*];done)|(refine Qby ?_;rw [Bool.eq_iff_iff];simp only [Bool.or_eq_true,Bool.and_eq_true,Bool.not_eq_true',Bool.or_eq_false_iff,beq_iff_eq,bne_iff_ne,decide_eq_true_eq,beq_eq_false_iff_ne,ne_eq,Bool.true_eq_false,Bool.false_eq_true,false_and,and_false,true_and,and_true,false_or,or_false,true_or,or_true,iff_true,true_iff,iff_false,false_iff];omega),rfl⟩
theorem Qtr (op:Int) (w:World):Calls Tryz.prog 53 #[.int .u8 105,.int .i64 op] w fun e w'=>e = .returned (.bool (Qaq 105 op))/\w=w':=by
 rw [show Qaq 105 op=(op==1) from rfl];go_enter Tryz.func53,Tryz.ntmps53;go_wp2_with fail
 all_goals
  go_ret;exact ⟨by first|(simp [*];done)|(refine Qby ?_;rw [Bool.eq_iff_iff];simp only [Bool.or_eq_true,Bool.and_eq_true,Bool.not_eq_true',Bool.or_eq_false_iff,beq_iff_eq,bne_iff_ne,decide_eq_true_eq,beq_eq_false_iff_ne,ne_eq,Bool.true_eq_false,Bool.false_eq_true,false_and,and_false,true_and,and_true,false_or,or_false,true_or,or_true,iff_true,true_iff,iff_false,false_iff];omega),rfl⟩
theorem QuN (op:Int) (w:World):Calls Tryz.prog 53 #[.int .u8 73,.int .i64 op] w fun e w'=>e = .returned (.bool (Qaq 73 op))/\w=w':=by
 rw [show Qaq 73 op=(op==1) from rfl];go_enter Tryz.func53,Tryz.ntmps53;go_wp2_with fail
 all_goals
  go_ret;exact ⟨by first|(simp [*];done)|(refine Qby ?_;rw [Bool.eq_iff_iff];simp only [Bool.or_eq_true,Bool.and_eq_true,Bool.not_eq_true',Bool.or_eq_false_iff,beq_iff_eq,bne_iff_ne,decide_eq_true_eq,beq_eq_false_iff_ne,ne_eq,Bool.true_eq_false,Bool.false_eq_true,false_and,and_false,true_and,and_true,false_or,or_false,true_or,or_true,iff_true,true_iff,iff_false,false_iff];omega),rfl⟩
theorem Qts (op:Int) (w:World):Calls Tryz.prog 53 #[.int .u8 100,.int .i64 op] w fun e w'=>e = .returned (.bool (Qaq 100 op))/\w=w':=by
 rw [show Qaq 100 op=(op==1||op==2||op==50||op==51) from rfl];go_enter Tryz.func53,Tryz.ntmps53;go_wp2_with fail
 all_goals
  go_ret;exact ⟨by first|(simp [*];done)|(refine Qby ?_;rw [Bool.eq_iff_iff];simp only [Bool.or_eq_true,Bool.and_eq_true,Bool.not_eq_true',Bool.or_eq_false_iff,beq_iff_eq,bne_iff_ne,decide_eq_true_eq,beq_eq_false_iff_ne,ne_eq,Bool.true_eq_false,Bool.false_eq_true,false_and,and_false,true_and,and_true,false_or,or_false,true_or,or_true,iff_true,true_iff,iff_false,false_iff];omega),rfl⟩
theorem QuO (op:Int) (w:World):Calls Tryz.prog 53 #[.int .u8 80,.int .i64 op] w fun e w'=>e = .returned (.bool (Qaq 80 op))/\w=w':=by
 rw [show Qaq 80 op=((op==1||op==2||op==50||op==51)||op==3) from rfl];go_enter Tryz.func53,Tryz.ntmps53;go_wp2_with fail
 all_goals
  go_ret;exact ⟨by first|(simp [*];done)|(refine Qby ?_;rw [Bool.eq_iff_iff];simp only [Bool.or_eq_true,Bool.and_eq_true,Bool.not_eq_true',Bool.or_eq_false_iff,beq_iff_eq,bne_iff_ne,decide_eq_true_eq,beq_eq_false_iff_ne,ne_eq,Bool.true_eq_false,Bool.false_eq_true,false_and,and_false,true_and,and_true,false_or,or_false,true_or,or_true,iff_true,true_iff,iff_false,false_iff];omega),rfl⟩
theorem QuP (op:Int) (w:World):Calls Tryz.prog 53 #[.int .u8 68,.int .i64 op] w fun e w'=>e = .returned (.bool (Qaq 68 op))/\w=w':=by
 rw [show Qaq 68 op=(decide (10<=op)&&decide (op<=21)&&!(op==18||op==19)) from rfl];go_enter Tryz.func53,Tryz.ntmps53;go_wp2_with fail
 all_goals
  go_ret;exact ⟨by first|(simp [*];done)|(refine Qby ?_;rw [Bool.eq_iff_iff];simp only [Bool.or_eq_true,Bool.and_eq_true,Bool.not_eq_true',Bool.or_eq_false_iff,beq_iff_eq,bne_iff_ne,decide_eq_true_eq,beq_eq_false_iff_ne,ne_eq,Bool.true_eq_false,Bool.false_eq_true,false_and,and_false,true_and,and_true,false_or,or_false,true_or,or_true,iff_true,true_iff,iff_false,false_iff];omega),rfl⟩
theorem QuQ (op:Int) (w:World):Calls Tryz.prog 53 #[.int .u8 70,.int .i64 op] w fun e w'=>e = .returned (.bool (Qaq 70 op))/\w=w':=by
 rw [show Qaq 70 op=(op==18||op==19) from rfl];go_enter Tryz.func53,Tryz.ntmps53;go_wp2_with fail
 all_goals
  go_ret;exact ⟨by first|(simp [*];done)|(refine Qby ?_;rw [Bool.eq_iff_iff];simp only [Bool.or_eq_true,Bool.and_eq_true,Bool.not_eq_true',Bool.or_eq_false_iff,beq_iff_eq,bne_iff_ne,decide_eq_true_eq,beq_eq_false_iff_ne,ne_eq,Bool.true_eq_false,Bool.false_eq_true,false_and,and_false,true_and,and_true,false_or,or_false,true_or,or_true,iff_true,true_iff,iff_false,false_iff];omega),rfl⟩
theorem QuR (op:Int) (w:World):Calls Tryz.prog 53 #[.int .u8 83,.int .i64 op] w fun e w'=>e = .returned (.bool (Qaq 83 op))/\w=w':=by
 rw [show Qaq 83 op=((decide (30<=op)&&decide (op<=42))||op==5) from rfl];go_enter Tryz.func53,Tryz.ntmps53;go_wp2_with fail
 all_goals
  go_ret;exact ⟨by first|(simp [*];done)|(refine Qby ?_;rw [Bool.eq_iff_iff];simp only [Bool.or_eq_true,Bool.and_eq_true,Bool.not_eq_true',Bool.or_eq_false_iff,beq_iff_eq,bne_iff_ne,decide_eq_true_eq,beq_eq_false_iff_ne,ne_eq,Bool.true_eq_false,Bool.false_eq_true,false_and,and_false,true_and,and_true,false_or,or_false,true_or,or_true,iff_true,true_iff,iff_false,false_iff];omega),rfl⟩
theorem Qtt (op:Int) (w:World):Calls Tryz.prog 53 #[.int .u8 116,.int .i64 op] w fun e w'=>e = .returned (.bool (Qaq 116 op))/\w=w':=by
 rw [show Qaq 116 op=(op==3||op==6||op==7||op==76||op==84) from rfl];go_enter Tryz.func53,Tryz.ntmps53;go_wp2_with fail
 all_goals
  go_ret;exact ⟨by first|(simp [*];done)|(refine Qby ?_;rw [Bool.eq_iff_iff];simp only [Bool.or_eq_true,Bool.and_eq_true,Bool.not_eq_true',Bool.or_eq_false_iff,beq_iff_eq,bne_iff_ne,decide_eq_true_eq,beq_eq_false_iff_ne,ne_eq,Bool.true_eq_false,Bool.false_eq_true,false_and,and_false,true_and,and_true,false_or,or_false,true_or,or_true,iff_true,true_iff,iff_false,false_iff];omega),rfl⟩
theorem Qtu (op:Int) (w:World):Calls Tryz.prog 53 #[.int .u8 101,.int .i64 op] w fun e w'=>e = .returned (.bool (Qaq 101 op))/\w=w':=by
 rw [show Qaq 101 op=(op==3||op==5||op==6||op==7||op==41||op==42||(op==1||op==2||op==50||op==51)||(decide (60<=op)&&decide (op<=88))) from rfl];go_enter Tryz.func53,Tryz.ntmps53;go_wp2_with fail
 all_goals
  go_ret;exact ⟨by first|(simp [*];done)|(refine Qby ?_;rw [Bool.eq_iff_iff];simp only [Bool.or_eq_true,Bool.and_eq_true,Bool.not_eq_true',Bool.or_eq_false_iff,beq_iff_eq,bne_iff_ne,decide_eq_true_eq,beq_eq_false_iff_ne,ne_eq,Bool.true_eq_false,Bool.false_eq_true,false_and,and_false,true_and,and_true,false_or,or_false,true_or,or_true,iff_true,true_iff,iff_false,false_iff];omega),rfl⟩
theorem QrP (k:UInt8) (op:Int) (w:World) (h110:k≠110) (h115:k≠115) (h105:k≠105) (h73:k≠73) (h100:k≠100) (h80:k≠80) (h68:k≠68) (h70:k≠70) (h83:k≠83) (h116:k≠116) (h101:k≠101):Calls Tryz.prog 53 #[.int .u8 k.toNat,.int .i64 op] w fun e w'=>e = .returned (.bool false)/\w=w':=by
 have e110:((k.toNat:Int)==110)=false:=(Qao k 110).trans (Zd h110);have e115:((k.toNat:Int)==115)=false:=(Qao k 115).trans (Zd h115);have e105:((k.toNat:Int)==105)=false:=(Qao k 105).trans (Zd h105);have e73:((k.toNat:Int)==73)=false:=(Qao k 73).trans (Zd h73);have e100:((k.toNat:Int)==100)=false:=(Qao k 100).trans (Zd h100);have e80:((k.toNat:Int)==80)=false:=(Qao k 80).trans (Zd h80);have e68:((k.toNat:Int)==68)=false:=(Qao k 68).trans (Zd h68);have e70:((k.toNat:Int)==70)=false:=(Qao k 70).trans (Zd h70);have e83:((k.toNat:Int)==83)=false:=(Qao k 83).trans (Zd h83);have e116:((k.toNat:Int)==116)=false:=(Qao k 116).trans (Zd h116);have e101:((k.toNat:Int)==101)=false:=(Qao k 101).trans (Zd h101);clear h110 h115 h105 h73 h100 h80 h68 h70 h83 h116 h101;go_enter Tryz.func53,Tryz.ntmps53;go_wp2_with fail
 all_goals
  go_ret;exact ⟨rfl,rfl⟩
theorem Qtv (k:UInt8) (op:Int) (w:World):Calls Tryz.prog 53 #[.int .u8 k.toNat,.int .i64 op] w fun e w'=>e = .returned (.bool (Qaq k op))/\w=w':=by
 by_cases h110:k=110
 ·subst h110;exact Qtp op w
 by_cases h115:k=115
 ·subst h115;exact Qtq op w
 by_cases h105:k=105
 ·subst h105;exact Qtr op w
 by_cases h73:k=73
 ·subst h73;exact QuN op w
 by_cases h100:k=100
 ·subst h100;exact Qts op w
 by_cases h80:k=80
 ·subst h80;exact QuO op w
 by_cases h68:k=68
 ·subst h68;exact QuP op w
 by_cases h70:k=70
 ·subst h70;exact QuQ op w
 by_cases h83:k=83
 ·subst h83;exact QuR op w
 by_cases h116:k=116
 ·subst h116;exact Qtt op w
 by_cases h101:k=101
 ·subst h101;exact Qtu op w
 have e:Qaq k op=false:=by unfold Qaq;simp only [h110,h115,h105,h73,h100,h80,h68,h70,h83,h116,h101,or_self,if_false]
 rw [e];exact QrP k op w h110 h115 h105 h73 h100 h80 h68 h70 h83 h116 h101
theorem Qdc (k:UInt8) (op:Int) (b:Bool) (H:Hid (Qaq k op=b)) (w:World):Calls Tryz.prog 53 #[.int .u8 k.toNat,.int .i64 op] w fun e w'=>e = .returned (.bool b)/\w=w':=by
 have:=Qtv k op w;rw [H.out] at this;exact this
theorem QrQ (k:UInt8) (w:World):Calls Tryz.prog 64 #[.int .u8 k.toNat] w fun e w'=>e = .returned (.bool (Qf2 k))/\w=w':=by
 have h1:=Qao k 68;have h2:=Qao k 83;have h3:=Qao k 70;have h4:=Qao k 73;have h5:=Qao k 80;unfold Qf2;rw [<- h1,<- h2,<- h3,<- h4,<- h5];clear h1 h2 h3 h4 h5;go_enter Tryz.func64,Tryz.ntmps64;go_wp2_with fail
 all_goals
  go_ret;exact ⟨by simp [*],rfl⟩
theorem QfX (k:UInt8) (b:Bool) (H:Hid (Qf2 k=b)) (w:World):Calls Tryz.prog 64 #[.int .u8 k.toNat] w fun e w'=>e = .returned (.bool b)/\w=w':=by
 have:=QrQ k w;rw [H.out] at this;exact this
theorem Qgx (s:List UInt8) (b:Bool) (H:Hid (QaV s=b)) (w:World) (hs:s.length<=9223372036854775000):Calls Tryz.prog 139 #[.string ⟨s.toArray⟩] w fun e w'=>e = .returned (.bool b)/\w=w':=by
 have HS:=Za (QcJ s b H w hs);go_enter Tryz.func139,Tryz.ntmps139;go_wp2_with fail;((with_reducible refine HS.out.mono ?_));rintro e w1 ⟨rfl,rfl⟩;go_wp2_with fail;go_ret;exact ⟨rfl,rfl⟩
theorem Qmp (s word:List UInt8) (n:Int) (w:World) (hs:s.length<=1000000) (hw:word.length<=1000000) (h:s.length≠word.length+1) :
  Calls Tryz.prog 201 #[.string ⟨s.toArray⟩,.string ⟨word.toArray⟩,.int .i64 n] w fun e w'=>e = .returned (.int .i64 (Qfl s word n))/\w=w':=by
 rw [QnP h];have hn:((s.length:Int)==(word.length:Int)+1)=false:=by rw [beq_eq_false_iff_ne];omega
 go_enter Tryz.func201,Tryz.ntmps201;go_wp2_with fail;go_ret;exact ⟨rfl,rfl⟩
theorem Qly (d word:List UInt8) (c:UInt8) (n:Int) (w:World) (hs:d.length<=1000000) (h:d.length=word.length) :
  Calls Tryz.prog 201 #[.string ⟨(d++[c]).toArray⟩,.string ⟨word.toArray⟩,.int .i64 n] w fun e w'=>e = .returned (.int .i64 (Qfl (d++[c]) word n))/\w=w':=by
 obtain ⟨X,hX⟩:∃ X,Hid (Qfl (d++[c]) word n=X):=⟨_,Za rfl⟩;rw [hX.out];rw [QrN] at hX;obtain ⟨S,hS⟩:∃ S,d++[c]=S:=⟨_,rfl⟩;have hl:S.length=word.length+1:=by rw [<- hS];simp [h]
 have hg:∀ h:word.length<S.length,S[word.length]=c:=by intro h2;subst hS;simp [h]
 have ht:S.take word.length=d:=by rw [<- hS,<- h];simp
 have hle:word.length<=S.length:=by omega
 have hlt:(word.length:Int)<(S.length:Int):=by omega
 have hlen:((S.length:Int)==(word.length:Int)+1)=true:=by rw [beq_iff_eq];omega
 have hwl:word.length<=1000000:=by omega
 obtain ⟨b,hb⟩:∃ b,Hid (Qa7 c=b):=⟨_,Za rfl⟩;have HD:=Za (fun w=>QeD c b hb w);rw [hS];have hc:=c.toNat_lt;clear hS hl;by_cases hd:d=word
 ·have hdd:(d==word)=true:=by rw [hd];exact beq_self_eq_true _
  cases b with
  | false =>
    have HX:Hid (X = -1):=Za (by
     rw [<- hX.out];have:=hb.out;unfold Qa7 at this;rw [decide_eq_false_iff_not] at this;exact if_neg (fun e=>this ⟨e.2.1,e.2.2.1⟩))
    clear hX hd;go_enter Tryz.func201,Tryz.ntmps201;go_wp2_with (go_at_call 197;((with_reducible refine (HD.out _).mono ?_));rintro e w1 ⟨rfl,rfl⟩);go_ret;rw [HX.out];exact ⟨rfl,rfl⟩
  | true =>
    have hb2:=hb.out;unfold Qa7 at hb2;rw [decide_eq_true_eq] at hb2;have HB2:=Za hb2;have HDW:=Za hd;clear hb2 hd;go_enter Tryz.func201,Tryz.ntmps201;go_wp2_with (go_at_call 197;((with_reducible refine (HD.out _).mono ?_));rintro e w1 ⟨rfl,rfl⟩)
    all_goals
     go_ret
     rename_i hh
     have hm:((c.toNat:Int)-48) % 256=(c.toNat:Int)-48:=by
      have h1:=HB2.out.1;have h2:=HB2.out.2;omega
     rw [hm] at hh;refine ⟨?_,rfl⟩;rw [<- hX.out]
     first|exact congrArg (fun z=>Ending.returned (Value.int .i64 z)) (hm.trans (if_pos ⟨HDW.out,HB2.out.1,HB2.out.2,hh⟩).symm)|exact congrArg (fun z=>Ending.returned (Value.int .i64 z)) (if_neg (fun e=>absurd e.2.2.2 (by omega))).symm
 ·have hdd:(d==word)=false:=by rw [beq_eq_false_iff_ne];exact hd
  have HX:Hid (X = -1):=Za (by rw [<- hX.out];exact if_neg (fun e=>hd e.1));clear hX hd;go_enter Tryz.func201,Tryz.ntmps201;go_wp2_with fail;go_ret;rw [HX.out];exact ⟨rfl,rfl⟩
theorem Qhb (s word:List UInt8) (n:Int) (w:World) (hs:s.length<=1000000) (hw:word.length<=1000) :
  Calls Tryz.prog 201 #[.string ⟨s.toArray⟩,.string ⟨word.toArray⟩,.int .i64 n] w fun e w'=>e = .returned (.int .i64 (Qfl s word n))/\w=w':=by
 by_cases h:s.length=word.length+1
 ·have hne:s≠[]:=by rintro rfl;simp at h
  have e:=(List.dropLast_concat_getLast hne).symm;have hl:s.dropLast.length=word.length:=by rw [List.length_dropLast];omega
  rw [e];exact Qly s.dropLast word _ n w (by omega) hl
 ·exact Qmp s word n w hs (by omega) h
end
section
open Go.RowKit
attribute [local go_sem] ByteArray.mk_append_mk Qah Qai Qag
abbrev Qtw:Obj:=.cells #[.int .i64 10,.string ⟨#[83,99,111,112,101]⟩,.string ⟨#[110,68]⟩,.int .i64 11,.string ⟨#[68,101,118,105,99,101]⟩,.string ⟨#[115,68]⟩,.int .i64 12,.string ⟨#[80,111,119,101,114,82,101,115,111,117,114,99,101]⟩,.string ⟨#[115,105,105,68]⟩,.int .i64 13,.string ⟨#[78,97,109,101]⟩,.string ⟨#[115,100]⟩,.int .i64 14,.string ⟨#[77,101,116,104,111,100]⟩,.string ⟨#[115,105,105,105,83]⟩,.int .i64 15,.string ⟨#[79,112,101,114,97,116,105,111,110,82,101,103,105,111,110]⟩,.string ⟨#[115,105,105,105]⟩,.int .i64 16,.string ⟨#[70,105,101,108,100]⟩,.string ⟨#[110,105,105,70]⟩,.int .i64 17,.string ⟨#[73,110,100,101,120,70,105,101,108,100]⟩,.string ⟨#[110,110,105,105,70]⟩,.int .i64 18,.string ⟨#[85,110,105,116]⟩,.string ⟨#[115,105]⟩,.int .i64 19,.string ⟨#[83,107,105,112]⟩,.string ⟨#[105]⟩,.int .i64 20,.string ⟨#[77,117,116,101,120]⟩,.string ⟨#[115,105]⟩,.int .i64 21,.string ⟨#[69,118,101,110,116]⟩,.string ⟨#[115]⟩,.int .i64 30,.string ⟨#[83,116,111,114,101]⟩,.string ⟨#[101,116]⟩,.int .i64 31,.string ⟨#[73,102]⟩,.string ⟨#[101,83]⟩,.int .i64 32,.string ⟨#[87,104,105,108,101]⟩,.string ⟨#[101,83]⟩,.int .i64 33,.string ⟨#[82,101,116,117,114,110]⟩,.string ⟨#[]⟩,.int .i64 34,.string ⟨#[66,114,101,97,107]⟩,.string ⟨#[]⟩,.int .i64 35,.string ⟨#[67,111,110,116,105,110,117,101]⟩,.string ⟨#[]⟩,.int .i64 36,.string ⟨#[82,101,108,101,97,115,101]⟩,.string ⟨#[110]⟩,.int .i64 37,.string ⟨#[83,105,103,110,97,108]⟩,.string ⟨#[110]⟩,.int .i64 38,.string ⟨#[82,101,115,101,116]⟩,.string ⟨#[110]⟩,.int .i64 39,.string ⟨#[83,108,101,101,112]⟩,.string ⟨#[101]⟩,.int .i64 40,.string ⟨#[78,111,116,105,102,121]⟩,.string ⟨#[110,101]⟩,.int .i64 41,.string ⟨#[65,99,113,117,105,114,101]⟩,.string ⟨#[110,105]⟩,.int .i64 42,.string ⟨#[87,97,105,116]⟩,.string ⟨#[110,101]⟩,.int .i64 50,.string ⟨#[66,117,102,102,101,114]⟩,.string ⟨#[105,73]⟩,.int .i64 51,.string ⟨#[80,97,99,107,97,103,101]⟩,.string ⟨#[105,80]⟩,.int .i64 85,.string ⟨#[82,101,102,79,102]⟩,.string ⟨#[116]⟩,.int .i64 87,.string ⟨#[79,98,106,101,99,116,84,121,112,101]⟩,.string ⟨#[116]⟩,.int .i64 86,.string ⟨#[67,111,110,100,82,101,102,79,102]⟩,.string ⟨#[110]⟩,.int .i64 88,.string ⟨#[77,105,100]⟩,.string ⟨#[101,101,101]⟩] 102
abbrev QnR:Obj:=.cells #[.string ⟨#[65,100,100]⟩,.string ⟨#[83,117,98,116,114,97,99,116]⟩,.string ⟨#[77,117,108,116,105,112,108,121]⟩,.string ⟨#[68,105,118,105,100,101]⟩,.string ⟨#[77,111,100]⟩,.string ⟨#[65,110,100]⟩,.string ⟨#[79,114]⟩,.string ⟨#[88,111,114]⟩,.string ⟨#[83,104,105,102,116,76,101,102,116]⟩,.string ⟨#[83,104,105,102,116,82,105,103,104,116]⟩,.string ⟨#[76,65,110,100]⟩,.string ⟨#[76,79,114]⟩,.string ⟨#[76,69,113,117,97,108]⟩,.string ⟨#[76,76,101,115,115]⟩,.string ⟨#[76,71,114,101,97,116,101,114]⟩,.string ⟨#[67,111,110,99,97,116,101,110,97,116,101]⟩,.string ⟨#[73,110,100,101,120]⟩] 9
abbrev QnS:Obj:=.cells #[.string ⟨#[78,111,116]⟩,.string ⟨#[76,78,111,116]⟩,.string ⟨#[83,105,122,101,79,102]⟩,.string ⟨#[84,111,73,110,116,101,103,101,114]⟩,.string ⟨#[84,111,66,117,102,102,101,114]⟩,.string ⟨#[84,111,72,101,120,83,116,114,105,110,103]⟩,.string ⟨#[84,111,68,101,99,105,109,97,108,83,116,114,105,110,103]⟩,.string ⟨#[68,101,114,101,102,79,102]⟩] 9
def Qdd (a:Int) (x:List UInt8):List (List UInt8)->List Rw
 | []=>[]
 | t::r=>(a,t,x)::Qdd (a+1) x r
theorem Qtx:Qvs=Qdd 60 [101,101] two0:=by decide +kernel
theorem Qty:Qvt=Qdd 77 [101] one0:=by decide +kernel
theorem QfC (x:List UInt8):∀ (l:List (List UInt8)) (a:Int),(Qdd a x l).length=l.length
 | [],a=>rfl
 | t::r,a=>by rw [Qdd,List.length_cons,QfC x r,List.length_cons]
theorem QhB (x:List UInt8):∀ (l:List (List UInt8)) (a:Int) (k:Nat) (h:k<l.length),Qdd a x (l.take (k+1))=Qdd a x (l.take k)++[(a+k,l[k],x)]
 | t::r,a,0,h=>by simp [Qdd]
 | t::r,a,k+1,h=>by
   rw [List.take_succ_cons,List.take_succ_cons,Qdd,Qdd,QhB x r (a+1) k (by simpa using h)];simp only [List.cons_append,List.getElem_cons_succ];rw [show a+1+(k:Int)=a+((k+1:Nat):Int) by omega]
theorem QrR {w:World} {B:Nat} {v:Value} {l:List Rw} (h:RowsI w B v l) {b:Nat} {cs:Array Value} (hb:w.heap[b]?=some (.cells cs 9 (0,0))):v.ownBlock≠some b:=by
 intro e;obtain ⟨cur,hc⟩:=Qcp h e;rw [hb] at hc;injection hc with hc;injection hc with _ h2 _;exact absurd h2 (by decide)
theorem QuS (k:Nat) (h:k<two0.length):(two0.map QbT).toArray[k]?=some (QbT two0[k]):=by simp [h]
theorem QuT (k:Nat) (h:k<one0.length):(one0.map QbT).toArray[k]?=some (QbT one0[k]):=by simp [h]
set_option maxRecDepth 100000 in
theorem Qmq (w:World):Calls Tryz.prog 112 #[] w fun e w'=>∃ v,e = .returned v/\RowsI w' w.heap.size v rowsL/\Below w.heap.size w w':=by
 obtain ⟨P,hP⟩:∃ P,w.heap.size=P:=⟨_,rfl⟩;have HPE:=Za hP;have HR0:Hid (RowsI (w.alloc Qtw) P (.slice (some ⟨P,0,none⟩) 31 31) QoJ):=Za (by rw [<- hP];exact World.ownsRow_lit w (rcI QoJ).toArray 31 Zc (by unfold maxLen;omega) rfl);have HB0:Hid (Below P w (w.alloc Qtw)):=Za (Zb.alloc (by omega) _);have hs0:P<=(w.alloc Qtw).heap.size:=by have:=HB0.out.size;omega
 rw [hP];go_enter Tryz.func112,Tryz.ntmps112;go_upto_region 2 with fail;(try simp only [hP]);generalize w.alloc Qtw=W1 at *;obtain ⟨r0,hr0⟩:∃ z,QoJ=z:=⟨_,rfl⟩;have HR0E:=Za hr0;rw [hr0] at HR0;have hl0:r0.length=31:=by rw [<- hr0];rfl
 clear hr0 hP;have HT8:Hid ((W1.alloc QnR).heap[W1.heap.size]?=some QnR):=Za (heap_alloc_new _ _);have HR8:=Za (HR0.out.below (Zb.alloc Zc QnR));have HB8:Hid (Below P w (W1.alloc QnR)):=Za (HB0.out.alloc hs0 _);have hs8:P<=(W1.alloc QnR).heap.size:=by have:=HB8.out.size;have:=HPE.out;omega
 go_upto_region 3 with fail;obtain ⟨G,hG⟩:∃ G,W1.heap.size=G:=⟨_,rfl⟩;rw [hG] at HT8;(try simp only [hG]);generalize W1.alloc QnR=V8 at *;clear hG;go_wp2_with fail;go_loopw [1,3] (fun x i wr=>∃ (v:Value) (k:Nat),v=x/\i = .int .i64 k/\k<=17/\Hid (RowsI wr P v (r0++Qdd 60 [101,101] (two0.take k)))/\Hid (wr.heap[G]?=some QnR)/\Hid (Below P w wr)) (fun _ i _=>17-(intOf i).toNat)
 case atStart=>exact ⟨_,0,rfl,rfl,by omega,by rw [List.take_zero,Qdd,List.append_nil];exact HR8,HT8,HB8⟩
 case round =>
  clear HR8 HT8 HB8;obtain ⟨v,k,rfl,rfl,hk,HR,HT,HB⟩:=hrel;obtain ⟨w3,rfl⟩:∃ y:World,y=wr:=⟨_,rfl⟩;by_cases hlt:k<17
  ·have hlt':(k:Int)<17:=by omega
   have hkl:k<two0.length:=hlt;have HTK:=Za (QhB [101,101] two0 60 k hkl);obtain ⟨t,ht⟩:∃ t,two0[k]=t:=⟨_,rfl⟩;have hc:w3.cell? ⟨G,k,none⟩=some (.string ⟨t.toArray⟩):=by
    rw [cell_of_row w3 G k _ _ (0,0) HT.out,<- ht];exact QuS k hkl
   rw [ht] at HTK;obtain ⟨l,hl⟩:∃ l,r0++Qdd 60 [101,101] (two0.take k)=l:=⟨_,rfl⟩;have HLL:Hid (l++[(60+(k:Int),t,[101,101])]=r0++Qdd 60 [101,101] (two0.take (k+1))):=Za (by rw [HTK.out,<- hl,List.append_assoc]);have hpl:r0.length<=100:=by first|omega|(rw [List.length_append,hl0,QfC];decide)
   have hll : l.length ≤ 1000 := by rw [← hl, List.length_append, QfC, List.length_take]; have : two0.length ≤ 100 := by decide
                                    omega
   rw [hl] at HR;have HNN:Hid ((w3.alloc (QbG (60+(k:Int)) t [101,101])).heap[w3.heap.size]?=some (QbG (60+(k:Int)) t [101,101])):=Za (heap_alloc_new _ _);have HR4:=Za (HR.out.below (Zb.alloc Zc (QbG (60+(k:Int)) t [101,101])));have HT4:=Za (Qad HT.out (Zb.alloc Zc (QbG (60+(k:Int)) t [101,101])));have hsz3:P<=w3.heap.size:=by have:=HB.out.size;have:=HPE.out;omega
   have HB4:Hid (Below P w (w3.alloc (QbG (60+(k:Int)) t [101,101]))):=Za (HB.out.alloc hsz3 _);have hsz4:P<=(w3.alloc (QbG (60+(k:Int)) t [101,101])).heap.size:=by have:=HB4.out.size;have:=HPE.out;omega
   clear hl ht HTK HR HT;go_wp2_with (at_builtin;refine Qer rfl _ _ rfl P _ l rfl HR4.out w3.heap.size (60+(k:Int),t,[101,101]) rfl HNN.out (by omega) hsz4 ?_;intro v2 w2 ho hg;have HO:=Za ho;have HG:=Za hg;clear ho hg);have HT5:=Za ((HG.out.block G (lt_of_block HT4.out) (fun e=>QrR HR4.out HT4.out e.symm)).trans HT4.out);have HB5:Hid (Below P w w2):=Za (HB4.out.grown HG.out hsz4 (fun j hj=>QaN HR4.out hj));rw [HLL.out] at HO;clear hc HNN HR4 HT4 HB4 HG;go_wp2_with fail;go_roundw
   case rel=>first|exact ⟨k+1,by go_num,by omega,HO,HT5,HB5⟩|exact ⟨_,k+1,rfl,by go_num,by omega,HO,HT5,HB5⟩
   case measure=>simp [intOf];omega
  ·have hkN:k=17:=by omega
   have hlt':¬ (k:Int)<17:=by omega
   have HRX:Hid (RowsI w3 P v (r0++Qdd 60 [101,101] two0)):=by rw [hkN,show two0.take 17=two0 from rfl] at HR;exact HR
   have hs3:P<=w3.heap.size:=by have:=HB.out.size;have:=HPE.out;omega
   clear HR HT hlt hk hkN;have HT9:Hid ((w3.alloc QnS).heap[w3.heap.size]?=some QnS):=Za (heap_alloc_new _ _);have HR9:=Za (HRX.out.below (Zb.alloc Zc QnS));have HB9:Hid (Below P w (w3.alloc QnS)):=Za (HB.out.alloc hs3 _);have hs9:P<=(w3.alloc QnS).heap.size:=by have:=HB9.out.size;have:=HPE.out;omega
   go_upto_region 8 with fail;obtain ⟨H,hG⟩:∃ H,w3.heap.size=H:=⟨_,rfl⟩;rw [hG] at HT9;(try simp only [hG]);generalize w3.alloc QnS=V9 at *;clear hG;go_wp2_with fail;go_loopw [1,5] (fun x i wr=>∃ (v:Value) (k:Nat),v=x/\i = .int .i64 k/\k<=8/\Hid (RowsI wr P v ((r0++Qdd 60 [101,101] two0)++Qdd 77 [101] (one0.take k)))/\Hid (wr.heap[H]?=some QnS)/\Hid (Below P w wr)) (fun _ i _=>8-(intOf i).toNat)
   case atStart=>exact ⟨_,0,rfl,rfl,by omega,by rw [List.take_zero,Qdd,List.append_nil];exact HR9,HT9,HB9⟩
   case round =>
    clear HR9 HT9 HB9;obtain ⟨v,k,rfl,rfl,hk,HR,HT,HB⟩:=hrel;obtain ⟨w4,rfl⟩:∃ y:World,y=wr:=⟨_,rfl⟩;by_cases hlt:k<8
    ·have hlt':(k:Int)<8:=by omega
     have hkl:k<one0.length:=hlt;have HTK:=Za (QhB [101] one0 77 k hkl);obtain ⟨t,ht⟩:∃ t,one0[k]=t:=⟨_,rfl⟩;have hc:w4.cell? ⟨H,k,none⟩=some (.string ⟨t.toArray⟩):=by
      rw [cell_of_row w4 H k _ _ (0,0) HT.out,<- ht];exact QuT k hkl
     rw [ht] at HTK;obtain ⟨l,hl⟩:∃ l,(r0++Qdd 60 [101,101] two0)++Qdd 77 [101] (one0.take k)=l:=⟨_,rfl⟩;have HLL:Hid (l++[(77+(k:Int),t,[101])]=(r0++Qdd 60 [101,101] two0)++Qdd 77 [101] (one0.take (k+1))):=Za (by rw [HTK.out,<- hl,List.append_assoc]);have hpl:(r0++Qdd 60 [101,101] two0).length<=100:=by first|omega|(rw [List.length_append,hl0,QfC];decide)
     have hll : l.length ≤ 1000 := by rw [← hl, List.length_append, QfC, List.length_take]; have : one0.length ≤ 100 := by decide
                                      omega
     rw [hl] at HR;have HNN:Hid ((w4.alloc (QbG (77+(k:Int)) t [101])).heap[w4.heap.size]?=some (QbG (77+(k:Int)) t [101])):=Za (heap_alloc_new _ _);have HR4:=Za (HR.out.below (Zb.alloc Zc (QbG (77+(k:Int)) t [101])));have HT4:=Za (Qad HT.out (Zb.alloc Zc (QbG (77+(k:Int)) t [101])));have hsz3:P<=w4.heap.size:=by have:=HB.out.size;have:=HPE.out;omega
     have HB4:Hid (Below P w (w4.alloc (QbG (77+(k:Int)) t [101]))):=Za (HB.out.alloc hsz3 _);have hsz4:P<=(w4.alloc (QbG (77+(k:Int)) t [101])).heap.size:=by have:=HB4.out.size;have:=HPE.out;omega
     clear hl ht HTK HR HT;go_wp2_with (at_builtin;refine Qer rfl _ _ rfl P _ l rfl HR4.out w4.heap.size (77+(k:Int),t,[101]) rfl HNN.out (by omega) hsz4 ?_;intro v2 w2 ho hg;have HO:=Za ho;have HG:=Za hg;clear ho hg);have HT5:=Za ((HG.out.block H (lt_of_block HT4.out) (fun e=>QrR HR4.out HT4.out e.symm)).trans HT4.out);have HB5:Hid (Below P w w2):=Za (HB4.out.grown HG.out hsz4 (fun j hj=>QaN HR4.out hj));rw [HLL.out] at HO;clear hc HNN HR4 HT4 HB4 HG;go_wp2_with fail;go_roundw
     case rel=>first|exact ⟨k+1,by go_num,by omega,HO,HT5,HB5⟩|exact ⟨_,k+1,rfl,by go_num,by omega,HO,HT5,HB5⟩
     case measure=>simp [intOf];omega
    ·have hkN:k=8:=by omega
     have hlt':¬ (k:Int)<8:=by omega
     have HRX:Hid (RowsI w4 P v ((r0++Qdd 60 [101,101] two0)++Qdd 77 [101] one0)):=by rw [hkN,show one0.take 8=one0 from rfl] at HR;exact HR
     have hs3:P<=w4.heap.size:=by have:=HB.out.size;have:=HPE.out;omega
     clear HR HT hlt hk hkN;go_wp2_with fail;go_ret;exact ⟨_,rfl,by rw [show rowsL=r0++Qdd 60 [101,101] two0++Qdd 77 [101] one0 from by rw [<- HR0E.out,<- Qtx,<- Qty];rfl];exact HRX.out,HB.out⟩
abbrev rwV (t:Rw):Value:=.agg #[.int .i64 t.1,.string ⟨t.2.1.toArray⟩,.string ⟨t.2.2.toArray⟩]
theorem QhC:rowsL.length=56:=by decide
theorem Qia {w:World} {B:Nat} {v:Value} (h:RowsI w B v rowsL):∃ g c,v = .slice (some ⟨g,0,none⟩) 56 c /\ 
  ∀ i (h:i<rowsL.length),w.cell? ⟨g,i * 3,none⟩=some (.int .i64 rowsL[i].1)/\w.cell? ⟨g,i * 3+1,none⟩=some (.string ⟨rowsL[i].2.1.toArray⟩)/\w.cell? ⟨g,i * 3+2,none⟩=some (.string ⟨rowsL[i].2.2.toArray⟩):=by
 obtain ⟨g,c,h1,_,_,h4⟩:=h.cells (by decide);rw [QhC] at h1;exact ⟨g,c,h1,h4⟩
theorem QkR (p:Rw->Bool) (k:Nat) (h:k<rowsL.length):(rowsL.drop k).find? p=if p rowsL[k]=true then some rowsL[k] else (rowsL.drop (k+1)).find? p:=by
 rw [List.drop_eq_getElem_cons h,List.find?_cons];cases p rowsL[k]<;>rfl
theorem QkS (tmps:Array Value) (w:World) (b:Nat) (c0 c1 c2:Value) (h2:tmps.getD 2 undef = .pointer (some ⟨b,0,none⟩)) (hb:w.heap[b]?=some (.cells #[c0,c1,c2] 102 (0,0))) :
  (results Tryz.f63 tmps).run Tryz.prog w = .ok (.tuple #[.agg #[c0,c1,c2],tmps.getD 3 undef]) w:=by
 obtain ⟨e0,e1,e2⟩:=QaT hb;have h2':tmps[2]?.getD undef = .pointer (some ⟨b,0,none⟩):=by rw [<- h2];simp
 simp [results];go_simp
set_option maxRecDepth 100000 in
theorem QhD (op:Int) (w:World):Calls Tryz.prog 63 #[.int .i64 op] w fun e w'=>e = .returned (.tuple #[rwV (Qec (QhA op)),.bool (QhA op).isSome])/\Below w.heap.size w w':=by
 obtain ⟨X,hX⟩:∃ X,Hid (QhA op=X):=⟨_,Za rfl⟩;have HX0:Hid ((rowsL.drop 0).find? (fun t=>t.1==op)=X):=Za (by rw [<- hX.out]<;>rfl);rw [hX.out];have HB0:Hid (Below w.heap.size w (w.alloc (QbG 0 [] []))):=Za (Zb.alloc Zc _);have HE0:Hid ((w.alloc (QbG 0 [] [])).heap[w.heap.size]?=some (QbG 0 [] [])):=Za (heap_alloc_new _ _);obtain ⟨P,hP⟩:∃ P,w.heap.size=P:=⟨_,rfl⟩;have HPE:=Za hP;go_enter Tryz.func63,Tryz.ntmps63;go_upto_region 1 with fail;(try simp only [hP]);rw [hP] at HB0 HE0;generalize w.alloc (QbG 0 [] [])=W0 at *;have HRW:=Za (Qmq W0);clear hP;go_wp2_with fail;((with_reducible refine HRW.out.mono ?_));rintro e w1 ⟨v,rfl,hr,hb1⟩;have HB1:Hid (Below P w w1):=Za (Qar HB0.out (by have:=HPE.out;omega) hb1);have HE1:=Za (Qad HE0.out hb1);obtain ⟨g,c,rfl,hcell⟩:=Qia hr;have HC:=Za hcell;clear hr hb1 hcell HB0 HE0 HRW;go_wp2_with fail;go_loopw [5] (fun i wr=>∃ k:Nat,i = .int .i64 k/\k<=56/\Hid ((rowsL.drop k).find? (fun t=>t.1==op)=X)/\w1=wr) (fun i _=>56-(intOf i).toNat)
 case atStart=>exact ⟨0,rfl,by omega,HX0,rfl⟩
 case round =>
  clear HX0;obtain ⟨k,rfl,hk,HX,rfl⟩:=hrel;obtain ⟨w3,rfl⟩:∃ y:World,y=w1:=⟨_,rfl⟩;have f0:=Qam HE1.out 0;have f1:=Qam HE1.out 1;have f2:=Qam HE1.out 2;obtain ⟨e0,e1,e2⟩:=QaT HE1.out;by_cases hlt:k<56
  ·have hlt':(k:Int)<56:=by omega
   have hkl:k<rowsL.length:=by rw [QhC];exact hlt
   obtain ⟨c0,c1,c2⟩:=HC.out k hkl;have HXS:=Za (QkR (fun t=>t.1==op) k hkl);obtain ⟨t,ht⟩:∃ t,rowsL[k]=t:=⟨_,rfl⟩;rw [ht] at HXS c0 c1 c2;rw [HX.out] at HXS;obtain ⟨ta,tb,tc⟩:=t;simp only at c0 c1 c2;have HE9:=Za (HE1.out);clear ht HX;cases htest:(ta==op) with
   | true =>
     have HX2:Hid (X=some (ta,tb,tc)):=Za (by rw [HXS.out,if_pos htest]);go_wp2_with fail;exact bodyPost_ret (QkS _ _ _ _ _ _ rfl (Qio HE1.out _ _ _)) rfl ⟨by rw [HX2.out];rfl,by rw [HPE.out];exact Qip HB1.out Zc _ _ _⟩
   | false =>
     have HX2:Hid ((rowsL.drop (k+1)).find? (fun t=>t.1==op)=X):=Za (by rw [HXS.out,if_neg (by rw [htest];decide)]);clear HXS e0 e1 e2 f0 f1 f2;go_wp2_with fail;go_roundw
     case rel=>exact ⟨k+1,by go_num,by omega,HX2,by trivial⟩
     case measure=>simp [intOf];omega
  ·obtain rfl:k=56:=by omega
   have HX2:Hid (X=none):=Za (by rw [<- HX.out]<;>rfl);clear HX;go_wp2_with fail;exact bodyPost_ret (QkS _ _ _ _ _ _ rfl (Qio HE1.out _ _ _)) rfl ⟨by rw [HX2.out];rfl,by rw [HPE.out];exact Qip HB1.out Zc _ _ _⟩
theorem QjB (tmps:Array Value) (w:World) (b:Nat) (c0 c1 c2:Value) (h2:tmps.getD 2 undef = .pointer (some ⟨b,0,none⟩)) (hb:w.heap[b]?=some (.cells #[c0,c1,c2] 102 (0,0))) :
  (results Tryz.f202 tmps).run Tryz.prog w = .ok (.tuple #[.agg #[c0,c1,c2],tmps.getD 3 undef]) w:=by
 obtain ⟨e0,e1,e2⟩:=QaT hb;have h2':tmps[2]?.getD undef = .pointer (some ⟨b,0,none⟩):=by rw [<- h2];simp
 simp [results];go_simp
set_option maxRecDepth 100000 in
theorem QnT (s:List UInt8) (w:World) (hs:s.length<=1000000):Calls Tryz.prog 202 #[.string ⟨s.toArray⟩] w fun e w'=>e = .returned (.tuple #[rwV (Qec (Qg9 s)),.bool (Qg9 s).isSome])/\Below w.heap.size w w':=by
 obtain ⟨X,hX⟩:∃ X,Hid (Qg9 s=X):=⟨_,Za rfl⟩;have HX0:Hid ((rowsL.drop 0).find? (fun t=>t.2.1==s)=X):=Za (by rw [<- hX.out]<;>rfl);rw [hX.out];have HB0:Hid (Below w.heap.size w (w.alloc (QbG 0 [] []))):=Za (Zb.alloc Zc _);have HE0:Hid ((w.alloc (QbG 0 [] [])).heap[w.heap.size]?=some (QbG 0 [] [])):=Za (heap_alloc_new _ _);obtain ⟨P,hP⟩:∃ P,w.heap.size=P:=⟨_,rfl⟩;have HPE:=Za hP;go_enter Tryz.func202,Tryz.ntmps202;go_upto_region 1 with fail;(try simp only [hP]);rw [hP] at HB0 HE0;generalize w.alloc (QbG 0 [] [])=W0 at *;have HRW:=Za (Qmq W0);clear hP;go_wp2_with fail;((with_reducible refine HRW.out.mono ?_));rintro e w1 ⟨v,rfl,hr,hb1⟩;have HB1:Hid (Below P w w1):=Za (Qar HB0.out (by have:=HPE.out;omega) hb1);have HE1:=Za (Qad HE0.out hb1);obtain ⟨g,c,rfl,hcell⟩:=Qia hr;have HC:=Za hcell;clear hr hb1 hcell HB0 HE0 HRW;go_wp2_with fail;go_loopw [5] (fun i wr=>∃ k:Nat,i = .int .i64 k/\k<=56/\Hid ((rowsL.drop k).find? (fun t=>t.2.1==s)=X)/\w1=wr) (fun i _=>56-(intOf i).toNat)
 case atStart=>exact ⟨0,rfl,by omega,HX0,rfl⟩
 case round =>
  clear HX0;obtain ⟨k,rfl,hk,HX,rfl⟩:=hrel;obtain ⟨w3,rfl⟩:∃ y:World,y=w1:=⟨_,rfl⟩;have f0:=Qam HE1.out 0;have f1:=Qam HE1.out 1;have f2:=Qam HE1.out 2;obtain ⟨e0,e1,e2⟩:=QaT HE1.out;by_cases hlt:k<56
  ·have hlt':(k:Int)<56:=by omega
   have hkl:k<rowsL.length:=by rw [QhC];exact hlt
   obtain ⟨c0,c1,c2⟩:=HC.out k hkl;have HXS:=Za (QkR (fun t=>t.2.1==s) k hkl);obtain ⟨t,ht⟩:∃ t,rowsL[k]=t:=⟨_,rfl⟩;rw [ht] at HXS c0 c1 c2;rw [HX.out] at HXS;obtain ⟨ta,tb,tc⟩:=t;simp only at c0 c1 c2;have HE9:=Za (HE1.out);clear ht HX;cases htest:(tb==s) with
   | true =>
     have HX2:Hid (X=some (ta,tb,tc)):=Za (by rw [HXS.out,if_pos htest]);go_wp2_with fail;exact bodyPost_ret (QjB _ _ _ _ _ _ rfl (Qio HE1.out _ _ _)) rfl ⟨by rw [HX2.out];rfl,by rw [HPE.out];exact Qip HB1.out Zc _ _ _⟩
   | false =>
     have HX2:Hid ((rowsL.drop (k+1)).find? (fun t=>t.2.1==s)=X):=Za (by rw [HXS.out,if_neg (by rw [htest];decide)]);clear HXS e0 e1 e2 f0 f1 f2;go_wp2_with fail;go_roundw
     case rel=>exact ⟨k+1,by go_num,by omega,HX2,by trivial⟩
     case measure=>simp [intOf];omega
  ·obtain rfl:k=56:=by omega
   have HX2:Hid (X=none):=Za (by rw [<- HX.out]<;>rfl);clear HX;go_wp2_with fail;exact bodyPost_ret (QjB _ _ _ _ _ _ rfl (Qio HE1.out _ _ _)) rfl ⟨by rw [HX2.out];rfl,by rw [HPE.out];exact Qip HB1.out Zc _ _ _⟩
end
section
open Go.RowKit
attribute [local go_sem] ByteArray.mk_append_mk Qah Qai Qag
def Qc0 (op kids:Int):List UInt8×Bool :=
 if op=1\/op=2\/op=3\/op=6\/op=7 then ([],kids==0)
 else if op=5 then (if kids<0\/7<kids then ([],false) else (List.replicate kids.toNat 101,true))
 else if op=31/\kids=3 then ([101,83,83],true)
 else if op=33/\kids=1 then ([101],true)
 else ((Qec (QhA op)).2.2,(QhA op).isSome&&(((Qec (QhA op)).2.2.length:Int)==kids))
def inR (op:Int):Bool:=op==1||op==2||op==3||op==5||op==6||op==7||QeS op
theorem Qhc {k:UInt8} {op:Int} (h:Qaq k op=true):inR op=true:=by
 unfold Qaq QdZ QcL Qcd at h;unfold inR QeS
 repeat' split at h
 all_goals
  simp only [Bool.or_eq_true,Bool.and_eq_true,Bool.not_eq_true',Bool.or_eq_false_iff,decide_eq_true_eq,beq_iff_eq,beq_eq_false_iff_ne,Bool.false_eq_true] at h |-
  try omega
theorem Qib (n:Nd) (h:inR n.kind=true):Qb3 n=if (Qc0 n.kind n.pos).2=true then some (Qc0 n.kind n.pos).1 else none:=by
 unfold Qb3 Qc0;by_cases h5:n.kind=5
 ·rw [h5];simp only [show ((5:Int)=1\/(5:Int)=2\/(5:Int)=3\/(5:Int)=6\/(5:Int)=7)=False by decide,if_true,if_false];by_cases hk:0<=n.pos/\n.pos<=7
  ·rw [if_pos hk,if_neg (show ¬ (n.pos<0\/7<n.pos) by omega)];rfl
  ·rw [if_neg hk,if_pos (show n.pos<0\/7<n.pos by omega)];rfl
 rw [if_neg h5];by_cases hL:n.kind=1\/n.kind=2\/n.kind=3\/n.kind=6\/n.kind=7
 ·rw [if_pos hL,if_neg (by omega),if_neg (by omega)];have e:Qax n.kind=([],[]):=by rcases hL with h|h|h|h|h<;>rw [h]<;>rfl
  rw [e];simp only [List.length_nil,beq_iff_eq];by_cases hp:n.pos=0
  ·rw [if_pos hp,if_pos (by rw [hp]<;>rfl)]
  ·rw [if_neg hp,if_neg (by intro e;exact hp e.symm)]
 rw [if_neg hL,if_neg h5];have ht:QeS n.kind=true:=by
  unfold inR at h;simp only [Bool.or_eq_true,beq_iff_eq] at h;rcases h with h|h
  ·omega
  ·exact h
 rw [QjA ht];simp only [Qec,Option.isSome_some,Bool.true_and];by_cases h33:n.kind=33
 ·rw [h33];have e:Qax 33=([82,101,116,117,114,110],[]):=by decide +kernel
  simp only [e,show ((33:Int)=31)=False by decide,false_and,if_false,if_true,true_and,List.length_nil];by_cases h1:n.pos=1
  ·rw [if_pos (by omega),if_pos h1,h1];rfl
  ·rw [if_neg h1];by_cases h0:n.pos=0
   ·rw [if_pos (by omega),h0];rfl
   ·rw [if_neg (by omega),if_neg (by simp only [beq_iff_eq];omega)]
 rw [if_neg h33];simp only [show (n.kind=33)=False from eq_false h33,false_and,if_false];by_cases h31:n.kind=31/\n.pos=3
 ·rw [if_pos h31,if_pos h31];rfl
 ·rw [if_neg h31,if_neg h31];by_cases hl:((Qax n.kind).2.length:Int)=n.pos
  ·rw [if_pos hl,if_pos (by simp only [beq_iff_eq];exact hl)]
  ·rw [if_neg hl,if_neg (by simp only [beq_iff_eq];exact hl)]
theorem QjC:∀ t∈rowsL,t.2.2.length<=5:=by decide +kernel
set_option maxRecDepth 100000 in
theorem Qp1 (op kids:Int) (w:World):Calls Tryz.prog 59 #[.int .i64 op,.int .i64 kids] w fun e w'=>e = .returned (.tuple #[.string ⟨(Qc0 op kids).1.toArray⟩,.bool (Qc0 op kids).2])/\Below w.heap.size w w':=by
 obtain ⟨X,hX⟩:∃ X,Hid (Qc0 op kids=X):=⟨_,Za rfl⟩;rw [hX.out];have hx:=hX.out;unfold Qc0 at hx;have HB0:=Za (Below.refl w.heap.size w);by_cases hL:op=1\/op=2\/op=3\/op=6\/op=7
 ·rw [if_pos hL] at hx;have HX:=Za hx;clear hx;rcases hL with rfl|rfl|rfl|rfl|rfl
  all_goals
   go_enter Tryz.func59,Tryz.ntmps59;go_wp2_with fail;go_ret2;rw [<- HX.out];exact ⟨rfl,HB0.out⟩
 rw [if_neg hL] at hx;by_cases h5:op=5
 ·rw [if_pos h5] at hx;subst h5;by_cases hk:kids<0\/7<kids
  ·rw [if_pos hk] at hx;have HX:=Za hx;clear hx hL;rcases hk with hk|hk
   all_goals
    go_enter Tryz.func59,Tryz.ntmps59;go_wp2_with fail;go_ret2;rw [<- HX.out];exact ⟨rfl,HB0.out⟩
  ·rw [if_neg hk] at hx;obtain ⟨n,rfl⟩:∃ n:Nat,kids=n:=⟨kids.toNat,by omega⟩;have hn:n<=7:=by omega
   have hn':¬ (n:Int)<0:=by omega
   have hn2:¬ (7:Int)<(n:Int):=by omega
   have HE:Hid (List.take n [101,101,101,101,101,101,101]=List.replicate n (101:UInt8)):=Za (by
    match n,hn with
    | 0,_=>rfl
    | 1,_=>rfl
    | 2,_=>rfl
    | 3,_=>rfl
    | 4,_=>rfl
    | 5,_=>rfl
    | 6,_=>rfl
    | 7,_=>rfl)
   have HX:=Za hx;clear hx hL hk;go_enter Tryz.func59,Tryz.ntmps59;go_wp2_with fail;go_ret2;rw [<- HX.out];refine ⟨?_,HB0.out⟩;rw [HE.out];rfl
 rw [if_neg h5] at hx;have e1:(op==1)=false:=by rw [beq_eq_false_iff_ne];omega
 have e2:(op==2)=false:=by rw [beq_eq_false_iff_ne];omega
 have e3:(op==3)=false:=by rw [beq_eq_false_iff_ne];omega
 have e6:(op==6)=false:=by rw [beq_eq_false_iff_ne];omega
 have e7:(op==7)=false:=by rw [beq_eq_false_iff_ne];omega
 have e5:(op==5)=false:=by rw [beq_eq_false_iff_ne];omega
 by_cases h31:op=31/\kids=3
 ·rw [if_pos h31] at hx;obtain ⟨rfl,rfl⟩:=h31;have HX:=Za hx;clear hx hL h5;go_enter Tryz.func59,Tryz.ntmps59;go_wp2_with fail;go_ret2;rw [<- HX.out];exact ⟨rfl,HB0.out⟩
 rw [if_neg h31] at hx;by_cases h33:op=33/\kids=1
 ·rw [if_pos h33] at hx;obtain ⟨rfl,rfl⟩:=h33;have HX:=Za hx;clear hx hL h5 h31;go_enter Tryz.func59,Tryz.ntmps59;go_wp2_with fail;go_ret2;rw [<- HX.out];exact ⟨rfl,HB0.out⟩
 rw [if_neg h33] at hx;have HRO:=Za (QhD op w);obtain ⟨R,hR⟩:∃ R,QhA op=R:=⟨_,rfl⟩;rw [hR] at HRO hx;obtain ⟨s,hs⟩:∃ s,(Qec R).2.2=s:=⟨_,rfl⟩;have hsl:s.length<=1000:=by
  rw [<- hs,<- hR];unfold QhA;cases hf:rowsL.find? (fun t=>t.1==op) with
  | none=>simp [Qec]
  | some t=>exact Nat.le_trans (QjC t (List.mem_of_find?_eq_some hf)) (by omega)
 obtain ⟨a,b,hab⟩:∃ a b,Qec R=(a,b,s):=⟨(Qec R).1,(Qec R).2.1,by rw [<- hs]⟩;obtain ⟨ok,hok⟩:∃ ok,R.isSome=ok:=⟨_,rfl⟩;rw [hs,hok] at hx;rw [hab,hok] at HRO;have HX:=Za hx;clear hx hR hs hab hok;have hcase:(op=31/\kids≠3)\/(op=33/\kids≠1)\/(op≠31/\op≠33):=by omega
 clear hL h5 h31 h33;have hfin:((op==31)=true/\(kids==3)=false)\/((op==33)=true/\(op==31)=false/\(kids==1)=false)\/((op==31)=false/\(op==33)=false):=by
  rcases hcase with ⟨h1,h2⟩|⟨h1,h2⟩|⟨h1,h2⟩
  ·exact .inl ⟨by rw [h1];rfl,Zd h2⟩
  ·exact .inr (.inl ⟨by rw [h1];rfl,by rw [h1];rfl,Zd h2⟩)
  ·exact .inr (.inr ⟨Zd h1,Zd h2⟩)
 clear hcase;rcases hfin with ⟨t1,t2⟩|⟨t1,t2,t3⟩|⟨t1,t2⟩
 all_goals
  go_enter Tryz.func59,Tryz.ntmps59;go_wp2_with fail;((with_reducible refine HRO.out.mono ?_));rintro e w1 ⟨rfl,hb1⟩;have HB1:Hid (Below w.heap.size w (w1.alloc (QbG a b s))):=Za (hb1.alloc hb1.size _);have hcell:=heap_alloc_new w1 (QbG a b s);clear hb1 HRO;go_upto_region 19 with fail;obtain ⟨d0,d1,d2⟩:=QaT hcell;generalize w1.alloc (QbG a b s)=W at *;clear hcell;cases ok
  all_goals
   go_quiet (fail);go_wp2_with fail;go_ret2;rw [<- HX.out];exact ⟨rfl,below_drewN HB1.out _⟩
theorem Qmr (op kids:Int) (ks:List UInt8) (ok:Bool) (H:Hid (Qc0 op kids=(ks,ok))) (w:World):Calls Tryz.prog 59 #[.int .i64 op,.int .i64 kids] w fun e w'=>e = .returned (.tuple #[.string ⟨ks.toArray⟩,.bool ok])/\Below w.heap.size w w':=by
 have:=Qp1 op kids w;rw [H.out] at this;exact this
end
end Go.Proofs.YtoohondkpddmcaaGreatDoor
