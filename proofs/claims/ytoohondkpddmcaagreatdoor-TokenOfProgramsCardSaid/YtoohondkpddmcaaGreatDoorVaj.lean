/- Tkl Tkm -/
import Derived.Test.YtoohondkpddmcaaGreatDoorVai
set_option linter.unusedVariables false
set_option linter.unusedSimpArgs false
namespace Go.Proofs.YtoohondkpddmcaaGreatDoor
section
open Go.RowKit
attribute [local go_sem] ByteArray.mk_append_mk bs_get bs_cut bs_end
theorem dropLine : ∀ l : List UInt8,(Lib.indexByte l 10 = -1 ∧ l.dropWhile (· != 10) = []) ∨ ∃ n : Nat,Lib.indexByte l 10 = n ∧ n < l.length ∧ l.dropWhile (· != 10) = l.drop n
 | [] => .inl ⟨rfl,rfl⟩
 | b :: l => by
   unfold Lib.indexByte
   by_cases h : b = 10
   ·subst h
    exact .inr ⟨0,rfl,by simp,rfl⟩
   ·have h1 : (b == 10) = false:=by rw [beq_eq_false_iff_ne]; exact h
    have h2 : (b :: l).dropWhile (· != 10) = l.dropWhile (· != 10):=by
     rw [List.dropWhile_cons,if_pos (by rw [bne,h1] <;> rfl)]
    rw [h1,h2]
    rcases dropLine l with ⟨e1,e2⟩ | ⟨n,e1,e2,e3⟩
    ·left; rw [e1]; exact ⟨rfl,e2⟩
    ·right
     refine ⟨n + 1,?_,by simp; omega,by rw [e3]; rfl⟩
     rw [e1]
     have : ((n : Int) == -1) = false:=by rw [beq_eq_false_iff_ne]; omega
     rw [this]; rfl
theorem line_pos {r : List UInt8} {n : Nat} (h : (47 :: r : List UInt8).dropWhile (· != 10) = (47 :: r : List UInt8).drop n) : 1 ≤ n:=by
 cases n with
 | zero =>
   exfalso
   rw [List.dropWhile_cons,if_pos (by decide),List.drop_zero] at h
   have:=(List.dropWhile_sublist (l:=r) (· != (10 : UInt8))).length_le
   rw [h,List.length_cons] at this
   omega
 | succ n => omega
theorem closeAt : ∀ l : List UInt8,(Lib.index l [42,47] = -1 ∧ closeL l = none) ∨ ∃ n : Nat,Lib.index l [42,47] = n ∧ n + 2 ≤ l.length ∧ closeL l = some (l.drop (n + 2))
 | [] => .inl ⟨rfl,rfl⟩
 | b :: l => by
   unfold Lib.index
   by_cases h : ([42,47] : List UInt8).isPrefixOf (b :: l) = true
   ·obtain ⟨r,rfl,rfl⟩ : ∃ r,b = 42 ∧ l = 47 :: r:=by
     cases l with
     | nil => simp [List.isPrefixOf] at h
     | cons c r =>
       simp [List.isPrefixOf] at h
       exact ⟨r,h.1.symm,by rw [← h.2]⟩
    exact .inr ⟨0,rfl,by simp,rfl⟩
   ·have hc : closeL (b :: l) = closeL l:=by
     rw [closeL]
     intro r h1 h2
     subst h1 h2
     exact h rfl
    rw [if_neg h,hc]
    rcases closeAt l with ⟨e1,e2⟩ | ⟨n,e1,e2,e3⟩
    ·left; rw [e1]; exact ⟨rfl,e2⟩
    ·right
     refine ⟨n + 1,?_,by simp; omega,by rw [e3]; rfl⟩
     rw [e1]
     have : ((n : Int) == -1) = false:=by rw [beq_eq_false_iff_ne]; omega
     rw [this]; rfl
theorem blank_yes {c : UInt8} (h : blankB c = true) : ((c.toNat : Int) == 32) = true ∨ (((c.toNat : Int) == 32) = false ∧ ((c.toNat : Int) == 9) = true) ∨ (((c.toNat : Int) == 32) = false ∧ ((c.toNat : Int) == 9) = false ∧ ((c.toNat : Int) == 13) = true) ∨ (((c.toNat : Int) == 32) = false ∧ ((c.toNat : Int) == 9) = false ∧ ((c.toNat : Int) == 13) = false ∧ ((c.toNat : Int) == 10) = true):=by
 unfold blankB at h
 simp only [Bool.or_eq_true,beq_iff_eq] at h
 rcases h with ((rfl | rfl) | rfl) | rfl
 ·left; rfl
 ·right; left; exact ⟨rfl,rfl⟩
 ·right; right; left; exact ⟨rfl,rfl,rfl⟩
 ·right; right; right; exact ⟨rfl,rfl,rfl,rfl⟩
theorem blank_no {c : UInt8} (h : blankB c = false) : ((c.toNat : Int) == 32) = false ∧ ((c.toNat : Int) == 9) = false ∧ ((c.toNat : Int) == 13) = false ∧ ((c.toNat : Int) == 10) = false:=by
 unfold blankB at h
 simp only [Bool.or_eq_false_iff,beq_eq_false_iff_ne] at h
 obtain ⟨⟨⟨h1,h2⟩,h3⟩,h4⟩:=h
 refine ⟨?_,?_,?_,?_⟩
 ·exact ((byte_cases c 32 32 rfl).resolve_left fun h => h1 h.1).2
 ·exact ((byte_cases c 9 9 rfl).resolve_left fun h => h2 h.1).2
 ·exact ((byte_cases c 13 13 rfl).resolve_left fun h => h3 h.1).2
 ·exact ((byte_cases c 10 10 rfl).resolve_left fun h => h4 h.1).2
theorem pre2 {c a b : UInt8} {t : List UInt8} (h : Lib.hasPrefix (c :: t) [a,b] = true) : c = a ∧ ∃ r,t = b :: r:=by
 cases t with
 | nil => simp [Lib.hasPrefix,List.isPrefixOf] at h
 | cons d r =>
   simp [Lib.hasPrefix,List.isPrefixOf] at h
   exact ⟨h.1.symm,r,by rw [← h.2]⟩
theorem pre2_no {c a b : UInt8} {t r : List UInt8} (h : Lib.hasPrefix (c :: t) [a,b] = false) (h1 : c = a) : t ≠ b :: r:=by
 rintro rfl
 subst h1
 simp [Lib.hasPrefix,List.isPrefixOf] at h
def skipTup (n : Nat) (x : List UInt8 × Bool) : Value:=.tuple #[.int .i64 ((n - x.1.length : Nat) : Int),.bool x.2]
set_option maxRecDepth 100000 in
set_option maxHeartbeats 8000000 in
theorem tSkip_any (s : List UInt8) (p0 : Nat) (m : Int) (w : World) (hs : s.length ≤ 65536) (h0 : p0 ≤ s.length) (hm : w.cell? ⟨0,0,none⟩ = some (.int .i64 m)) :
  Calls Tryz.prog 31 #[.string ⟨s.toArray⟩,.int .i64 p0] w fun e w' => e = .returned (skipTup s.length (skipL (s.drop p0))) ∧ w = w':=by
 obtain ⟨X,hX⟩ : ∃ X,Hid (skipL (s.drop p0) = X):=⟨_,Lib.hid rfl⟩
 rw [hX.out]
 have hs' : s.length ≤ 9223372036854775000:=by omega
 have HM:=Lib.hid hm
 have HS:=Lib.hid hs
 clear hm hs
 go_enter Tryz.func31,Tryz.ntmps31
 go_wp2_with fail
 go_loop [1] (fun i => ∃ p : Nat,i = .int .i64 p ∧ p ≤ s.length ∧ Hid (X = skipL (s.drop p))) (fun i => s.length - (intOf i).toNat)
 case atStart => exact ⟨p0,rfl,h0,Lib.hid hX.out.symm⟩
 case round =>
  obtain ⟨p,rfl,hp,HX⟩:=hrel
  by_cases hlt : p < s.length
  ·obtain ⟨c,t,hr⟩ : ∃ c t,List.drop p s = c :: t:=⟨_,_,List.drop_eq_getElem_cons hlt⟩
   have hlen : t.length + 1 + p = s.length:=by have:=congrArg List.length hr; rw [List.length_drop,List.length_cons] at this; omega
   have HR:=Lib.hid hr
   have ht : List.take (s.length - p) (c :: t) = c :: t:=by rw [← hr]; exact bs_end s p
   have HL:=Lib.hid hlen
   clear hlen
   rw [hr] at HX
   cases hb : blankB c
   ·obtain ⟨b1,b2,b3,b4⟩:=blank_no hb
    have HB:=Lib.hid hb
    clear hb
    have HP:=Lib.hid (Tryz.strings_HasPrefix ⟨(c :: t).toArray⟩ ⟨#[47,47]⟩ w)
    rw [show Lib.hasPrefix (ByteArray.mk (c :: t).toArray).data.toList (ByteArray.mk #[47,47]).data.toList = Lib.hasPrefix (c :: t) [47,47] from rfl] at HP
    cases h1 : Lib.hasPrefix (c :: t) [47,47]
    ·rw [h1] at HP
     have HN1:=Lib.hid (fun r => pre2_no (r:=r) h1)
     clear h1
     have HQ:=Lib.hid (Tryz.strings_HasPrefix ⟨(c :: t).toArray⟩ ⟨#[47,42]⟩ w)
     rw [show Lib.hasPrefix (ByteArray.mk (c :: t).toArray).data.toList (ByteArray.mk #[47,42]).data.toList = Lib.hasPrefix (c :: t) [47,42] from rfl] at HQ
     cases h2 : Lib.hasPrefix (c :: t) [47,42]
     ·rw [h2] at HQ
      have HN2:=Lib.hid (fun r => pre2_no (r:=r) h2)
      clear h2
      have HX2 : Hid (X = (c :: t,true)):=Lib.hid (by rw [HX.out]; exact skipL_stop HB.out fun e r => ⟨HN1.out r e,HN2.out r e⟩)
      clear HX HN1 HN2
      go_wp2_with fail
      ((with_reducible refine HP.out.mono ?_))
      rintro e w2 ⟨rfl,rfl⟩
      go_wp2_with fail
      ((with_reducible refine HQ.out.mono ?_))
      rintro e w2 ⟨rfl,rfl⟩
      go_wp2_with fail
      refine bodyPost_ret (results_tmp2 rfl _ _ _) rfl ?_
      exact ⟨by rw [HX2.out]; unfold skipTup; simp only [List.length_cons]; rw [show s.length - (t.length + 1) = p by have:=HL.out; omega]; rfl,rfl⟩
     ·rw [h2] at HQ
      obtain ⟨rfl,r,rfl⟩:=pre2 h2
      clear h2 HN1 b1 b2 b3 b4 HB
      have HI:=Lib.hid (Tryz.strings_Index ⟨r.toArray⟩ ⟨#[42,47]⟩ m w (by rw [ByteArray.size_mk',List.size_toArray]; have:=HL.out; have:=HS.out; simp only [List.length_cons] at *; omega) HM.out)
      rw [show Lib.index (ByteArray.mk r.toArray).data.toList (ByteArray.mk #[42,47]).data.toList = Lib.index r [42,47] from rfl] at HI
      rcases closeAt r with ⟨e1,e2⟩ | ⟨n,e1,e2,e3⟩
      ·rw [e1] at HI
       have HX2 : Hid (X = (47 :: 42 :: r,false)):=Lib.hid (by rw [HX.out]; exact skipL_open e2)
       clear e1 e2 HX
       go_wp2_with fail
       ((with_reducible refine HP.out.mono ?_))
       rintro e w2 ⟨rfl,rfl⟩
       go_wp2_with fail
       ((with_reducible refine HQ.out.mono ?_))
       rintro e w2 ⟨rfl,rfl⟩
       go_wp2_with fail
       ((with_reducible refine HI.out.mono ?_))
       rintro e w2 ⟨rfl,rfl⟩
       go_wp2_with fail
       refine bodyPost_ret (results_tmp2 rfl _ _ _) rfl ?_
       exact ⟨by rw [HX2.out]; unfold skipTup; simp only [List.length_cons]; rw [show s.length - (r.length + 1 + 1) = p by have:=HL.out; simp only [List.length_cons] at this; omega]; rfl,rfl⟩
      ·rw [e1] at HI
       have HX2 : Hid (X = skipL (s.drop (p + n + 4))):=Lib.hid (by
        rw [HX.out,skipL_block e3]
        congr 1
        have e : List.drop (n + 2 + 2) (List.drop p s) = List.drop (p + (n + 2 + 2)) s:=List.drop_drop
        rw [show p + n + 4 = p + (n + 2 + 2) by omega,← e,HR.out]
        rfl)
       have hpn : p + n + 4 ≤ s.length:=by have:=HL.out; simp only [List.length_cons] at this; omega
       clear e1 e2 e3 HX
       go_wp2_with fail
       ((with_reducible refine HP.out.mono ?_))
       rintro e w2 ⟨rfl,rfl⟩
       go_wp2_with fail
       ((with_reducible refine HQ.out.mono ?_))
       rintro e w2 ⟨rfl,rfl⟩
       go_wp2_with fail
       ((with_reducible refine HI.out.mono ?_))
       rintro e w2 ⟨rfl,rfl⟩
       go_wp2_with fail
       go_round
       case rel => exact ⟨p + n + 4,by go_num,by omega,HX2⟩
       case measure => simp [intOf]; omega
    ·rw [h1] at HP
     obtain ⟨rfl,r,rfl⟩:=pre2 h1
     clear h1 b1 b2 b3 b4 HB
     have HI:=Lib.hid (Tryz.strings_IndexByte ⟨(47 :: 47 :: r).toArray⟩ 10 w)
     rw [show Lib.indexByte (ByteArray.mk (47 :: 47 :: r).toArray).data.toList (Int.toNat 10).toUInt8 = Lib.indexByte (47 :: 47 :: r) 10 from rfl] at HI
     rcases dropLine (47 :: 47 :: r) with ⟨e1,e2⟩ | ⟨n,e1,e2,e3⟩
     ·rw [e1] at HI
      have HX2 : Hid (X = ([],true)):=Lib.hid (by rw [HX.out,skipL_line,e2] <;> rfl)
      clear e1 e2 HX
      go_wp2_with fail
      ((with_reducible refine HP.out.mono ?_))
      rintro e w2 ⟨rfl,rfl⟩
      go_wp2_with fail
      ((with_reducible refine HI.out.mono ?_))
      rintro e w2 ⟨rfl,rfl⟩
      go_wp2_with fail
      refine bodyPost_ret (results_tmp2 rfl _ _ _) rfl ?_
      exact ⟨by rw [HX2.out]; rfl,rfl⟩
     ·rw [e1] at HI
      have hn1:=line_pos e3
      have HX2 : Hid (X = skipL (s.drop (p + n))):=Lib.hid (by rw [HX.out,skipL_line,e3,← List.drop_drop,HR.out])
      have hpn : p + n ≤ s.length:=by have:=HL.out; simp only [List.length_cons] at this e2; omega
      clear e1 e2 e3 HX
      go_wp2_with fail
      ((with_reducible refine HP.out.mono ?_))
      rintro e w2 ⟨rfl,rfl⟩
      go_wp2_with fail
      ((with_reducible refine HI.out.mono ?_))
      rintro e w2 ⟨rfl,rfl⟩
      go_wp2_with fail
      go_round
      case rel => exact ⟨p + n,by go_num,by omega,HX2⟩
      case measure => simp [intOf]; omega
   ·have HX2 : Hid (X = skipL (s.drop (p + 1))):=Lib.hid (by
     rw [HX.out,skipL_blank hb]
     congr 1
     rw [← List.drop_drop,HR.out] <;> rfl)
    have HB:=Lib.hid (blank_yes hb)
    clear hb HX
    go_upto_region 4 with fail
    go_cut [17] (fun z wx => z = .bool true ∧ w = wx)
    case first =>
     rcases HB.out with b1 | ⟨b1,b2⟩ | ⟨b1,b2,b3⟩ | ⟨b1,b2,b3,b4⟩
     ·go_wp2_with fail
      go_meet
      exact ⟨rfl,rfl⟩
     ·go_wp2_with fail
      go_meet
      exact ⟨rfl,rfl⟩
     ·go_wp2_with fail
      go_meet
      exact ⟨rfl,rfl⟩
     ·go_wp2_with fail
      go_meet
      exact ⟨rfl,rfl⟩
    case rest =>
     obtain ⟨rfl,rfl⟩:=hcut
     go_wp2_with fail
     go_round
     case rel => exact ⟨p + 1,by go_num,by omega,HX2⟩
     case measure => simp [intOf]; omega
  ·have HX3 : Hid (X = ([],true)):=Lib.hid (by rw [HX.out,List.drop_eq_nil_of_le (by omega)] <;> rfl)
   have hpl : p = s.length:=by omega
   subst hpl
   clear HX
   go_wp2_with fail
   refine bodyPost_ret (results_tmp2 rfl _ _ _) rfl ?_
   exact ⟨by rw [HX3.out]; rfl,rfl⟩
end
section
open Go.RowKit
attribute [local go_sem] ByteArray.mk_append_mk bs_get bs_cut bs_end
end
end Go.Proofs.YtoohondkpddmcaaGreatDoor
