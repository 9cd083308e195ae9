/- Tkc Tkd -/
import Derived.Test.YtoohondkpddmcaaGreatDoorVab
import Derived.Test.YtoohondkpddmcaaGreatDoorVac
set_option linter.unusedVariables false
set_option linter.unusedSimpArgs false
namespace Go.Proofs.YtoohondkpddmcaaGreatDoor
section
open Go.RowKit
attribute [local go_sem] ByteArray.mk_append_mk bs_get bs_cut bs_end
theorem tIsStart_is (c : UInt8) (b : Bool) (H : letterB c = b) (w : World) : Calls Tryz.prog 34 #[.int .u8 c.toNat] w fun e w' => e = .returned (.bool b) ∧ w = w':=by
 rw [← H]; exact tIsStart_any c w
theorem wordN_end (s : List UInt8) : wordN s = idEnd s 0:=by unfold wordN idEnd; simp
theorem wordN_le (s : List UInt8) : wordN s ≤ s.length:=(List.takeWhile_sublist (l:=s) idB).length_le
set_option maxHeartbeats 1000000 in
theorem tWord_any (s : List UInt8) (w : World) (hs : s.length ≤ 9223372036854775000) :
  Calls Tryz.prog 35 #[.string ⟨s.toArray⟩] w fun e w' => e = .returned (.int .i64 (wordN s : Nat)) ∧ w = w':=by
 rw [wordN_end]
 go_enter Tryz.func35,Tryz.ntmps35
 go_wp2_with fail
 go_loop [3] (fun v => ∃ k : Nat,v = .int .i64 k ∧ k ≤ s.length ∧ Hid (idEnd s 0 = idEnd s k)) (fun v => s.length - (intOf v).toNat)
 case atStart => exact ⟨0,rfl,by omega,Lib.hid rfl⟩
 case round =>
  obtain ⟨k,rfl,hk,HE⟩:=hrel
  by_cases hl : k < s.length
  ·have hat:=Lib.hid (idEnd_at s k hl)
   cases h1 : letterB s[k]
   ·cases h2 : digitB s[k]
    ·have hid : Hid (idEnd s 0 = k):=Lib.hid (by rw [HE.out,hat.out,if_neg (by unfold idB; rw [h1,h2]; decide)])
     go_wp2_with (first | (go_at_call 34; refine (tIsStart_is _ _ h1 _).mono ?_; rintro e w' ⟨rfl,rfl⟩) | (go_at_call 69; refine (tIsDigit_is _ _ h2 _).mono ?_; rintro e w' ⟨rfl,rfl⟩))
     go_ret
     exact ⟨by rw [hid.out]; rfl,rfl⟩
    ·have hid : Hid (idB s[k] = true):=Lib.hid (by unfold idB; rw [h2]; simp)
     go_wp2_with (first | (go_at_call 34; refine (tIsStart_is _ _ h1 _).mono ?_; rintro e w' ⟨rfl,rfl⟩) | (go_at_call 69; refine (tIsDigit_is _ _ h2 _).mono ?_; rintro e w' ⟨rfl,rfl⟩))
     go_round
     case rel => exact ⟨k + 1,by go_num,by omega,Lib.hid (by rw [HE.out,hat.out,if_pos hid.out])⟩
     case measure => simp [intOf]; omega
   ·have hid : Hid (idB s[k] = true):=Lib.hid (by unfold idB; rw [h1] <;> rfl)
    go_wp2_with (go_at_call 34; refine (tIsStart_is _ _ h1 _).mono ?_; rintro e w' ⟨rfl,rfl⟩)
    go_round
    case rel => exact ⟨k + 1,by go_num,by omega,Lib.hid (by rw [HE.out,hat.out,if_pos hid.out])⟩
    case measure => simp [intOf]; omega
  ·have hid : Hid (idEnd s 0 = k):=Lib.hid (by rw [HE.out,idEnd_out s k (by omega)])
   go_wp2_with fail
   go_ret
   exact ⟨by rw [hid.out]; rfl,rfl⟩
theorem any_drop {s : List UInt8} {k : Nat} (h : k < s.length) : lowerB (s.drop k) = (smallB s[k] || lowerB (s.drop (k + 1))):=by
 unfold lowerB
 rw [List.drop_eq_getElem_cons h,List.any_cons]
set_option maxHeartbeats 1000000 in
theorem tLower_any (s : List UInt8) (w : World) (hs : s.length ≤ 9223372036854775000) :
  Calls Tryz.prog 36 #[.string ⟨s.toArray⟩] w fun e w' => e = .returned (.bool (lowerB s)) ∧ w = w':=by
 go_enter Tryz.func36,Tryz.ntmps36
 go_wp2_with fail
 go_loop [6] (fun v => ∃ k : Nat,v = .int .i64 k ∧ k ≤ s.length ∧ Hid (lowerB s = lowerB (s.drop k))) (fun v => s.length - (intOf v).toNat)
 case atStart => exact ⟨0,rfl,by omega,Lib.hid rfl⟩
 case round =>
  obtain ⟨k,rfl,hk,HE⟩:=hrel
  by_cases hl : k < s.length
  ·have hat:=Lib.hid (any_drop hl)
   cases h1 : smallB s[k]
   ·have HE2 : Hid (lowerB s = lowerB (s.drop (k + 1))):=Lib.hid (by rw [HE.out,hat.out,h1] <;> rfl)
    go_wp2_with (go_at_call 75; refine (tIsLower_is _ _ h1 _).mono ?_; rintro e w' ⟨rfl,rfl⟩)
    go_round
    case rel => exact ⟨k + 1,by go_num,by omega,HE2⟩
    case measure => simp [intOf]; omega
   ·have HE2 : Hid (lowerB s = true):=Lib.hid (by rw [HE.out,hat.out,h1] <;> rfl)
    go_wp2_with (go_at_call 75; refine (tIsLower_is _ _ h1 _).mono ?_; rintro e w' ⟨rfl,rfl⟩)
    go_ret
    exact ⟨by rw [HE2.out]; rfl,rfl⟩
  ·have HE2 : Hid (lowerB s = false):=Lib.hid (by rw [HE.out,List.drop_eq_nil_of_le (by omega)] <;> rfl)
   go_wp2_with fail
   go_ret
   exact ⟨by rw [HE2.out]; rfl,rfl⟩
theorem byte_eq (c : UInt8) (d : UInt8) : ((c.toNat : Int) == (d.toNat : Int)) = (d == c):=by
 rw [Bool.eq_iff_iff,beq_iff_eq,beq_iff_eq]
 constructor
 ·intro h; exact (UInt8.toNat_inj.1 (by omega)).symm
 ·rintro rfl; rfl
theorem hasPre_cons (c d : UInt8) (t : List UInt8) : Lib.hasPrefix (c :: t) [d] = (d == c):=by simp [Lib.hasPrefix,List.isPrefixOf]
def caretE (s : List UInt8) (k : Nat) : Nat:=k + caretN (s.drop k)
theorem caretE_at {s : List UInt8} {k : Nat} (h : k < s.length) : caretE s k = if (94 == s[k]) = true then caretE s (k + 1) else k:=by
 unfold caretE caretN
 rw [List.drop_eq_getElem_cons h,List.takeWhile_cons]
 have e : (s[k] == 94) = (94 == s[k]):=by rw [Bool.eq_iff_iff,beq_iff_eq,beq_iff_eq]; exact eq_comm
 rw [e]
 split
 ·rw [List.length_cons]; omega
 ·rfl
theorem caretN_le (s : List UInt8) : caretN s ≤ s.length:=(List.takeWhile_sublist (l:=s) (· == (94 : UInt8))).length_le
theorem preN_le (s : List UInt8) : preN s ≤ s.length:=by
 unfold preN
 split
 ·simp
 ·exact caretN_le _
theorem preN_root {s : List UInt8} (h : Lib.hasPrefix s [92] = true) : preN s = 1:=by
 cases s with
 | nil => cases h
 | cons c t =>
   rw [hasPre_cons,beq_iff_eq] at h
   subst h
   rfl
theorem preN_not {s : List UInt8} (h : Lib.hasPrefix s [92] = false) : preN s = caretE s 0:=by
 unfold preN
 split
 ·rw [hasPre_cons] at h; cases h
 ·unfold caretE; simp
set_option maxHeartbeats 1000000 in
theorem tPre_any (s : List UInt8) (w : World) (hs : s.length ≤ 9223372036854775000) :
  Calls Tryz.prog 74 #[.string ⟨s.toArray⟩] w fun e w' => e = .returned (.int .i64 (preN s : Nat)) ∧ w = w':=by
 have HP:=Lib.hid (Tryz.strings_HasPrefix ⟨s.toArray⟩ ⟨#[92]⟩ w)
 rw [show Lib.hasPrefix (ByteArray.mk s.toArray).data.toList (ByteArray.mk #[92]).data.toList = Lib.hasPrefix s [92] from rfl] at HP
 cases hb : Lib.hasPrefix s [92]
 ·rw [hb] at HP
  rw [preN_not hb]
  go_enter Tryz.func74,Tryz.ntmps74
  go_wp2_with fail
  ((with_reducible refine HP.out.mono ?_))
  rintro e w2 ⟨rfl,rfl⟩
  clear HP
  go_wp2_with fail
  go_loop [3] (fun v => ∃ k : Nat,v = .int .i64 k ∧ k ≤ s.length ∧ Hid (caretE s 0 = caretE s k)) (fun v => s.length - (intOf v).toNat)
  case atStart => exact ⟨0,rfl,by omega,Lib.hid rfl⟩
  case round =>
   obtain ⟨k,rfl,hk,HE⟩:=hrel
   by_cases hl : k < s.length
   ·have hat:=Lib.hid (caretE_at hl)
    have hcc : ((s[k].toNat : Int) == 94) = (94 == s[k]):=byte_eq s[k] 94
    cases h1 : ((94 : UInt8) == s[k])
    ·rw [h1] at hcc
     have HE2 : Hid (caretE s 0 = k):=Lib.hid (by rw [HE.out,hat.out,h1] <;> rfl)
     clear h1
     go_wp2_with fail
     go_ret
     exact ⟨by rw [HE2.out]; rfl,rfl⟩
    ·rw [h1] at hcc
     have HE2 : Hid (caretE s 0 = caretE s (k + 1)):=Lib.hid (by rw [HE.out,hat.out,h1] <;> rfl)
     clear h1
     go_wp2_with fail
     go_round
     case rel => exact ⟨k + 1,by go_num,by omega,HE2⟩
     case measure => simp [intOf]; omega
   ·have HE2 : Hid (caretE s 0 = k):=Lib.hid (by rw [HE.out]; unfold caretE caretN; rw [List.drop_eq_nil_of_le (by omega)] <;> rfl)
    go_wp2_with fail
    go_ret
    exact ⟨by rw [HE2.out]; rfl,rfl⟩
 ·rw [hb] at HP
  rw [preN_root hb]
  go_enter Tryz.func74,Tryz.ntmps74
  go_wp2_with fail
  ((with_reducible refine HP.out.mono ?_))
  rintro e w2 ⟨rfl,rfl⟩
  go_wp2_with fail
  go_ret
  exact ⟨rfl,rfl⟩
end
section
open Go.RowKit
attribute [local go_sem] ByteArray.mk_append_mk bs_get bs_cut bs_end
theorem wordN_take (r : List UInt8) : r.take (wordN r) = r.takeWhile idB:=by
 unfold wordN
 exact (List.prefix_iff_eq_take.1 (List.takeWhile_prefix idB)).symm
theorem wordN_pos {c : UInt8} {r : List UInt8} (h : idB c = true) : 1 ≤ wordN (c :: r):=by
 unfold wordN
 rw [List.takeWhile_cons,if_pos h]
 simp
theorem segB_word {c : UInt8} {r : List UInt8} (h : letterB c = true) : segB ((c :: r).take (wordN (c :: r))) = (decide (wordN (c :: r) ≤ 4) && !lowerB ((c :: r).take (wordN (c :: r)))):=by
 have hid : idB c = true:=by unfold idB; rw [h]; rfl
 have e : (c :: r).takeWhile idB = c :: r.takeWhile idB:=by rw [List.takeWhile_cons,if_pos hid]
 have en : wordN (c :: r) = (r.takeWhile idB).length + 1:=by unfold wordN; rw [e]; rfl
 rw [wordN_take,e,segB,h,en]
 have ha : (c :: r.takeWhile idB).all idB = true:=by
  rw [← e]
  exact List.all_takeWhile
 rw [ha]
 have hd : decide ((r.takeWhile idB).length ≤ 3) = decide ((r.takeWhile idB).length + 1 ≤ 4):=by rw [decide_eq_decide]; omega
 rw [hd]
 simp
theorem segsN_fuel : ∀ (f g : Nat) (r : List UInt8),r.length ≤ f → r.length ≤ g → segsN f r = segsN g r
 | 0,0,_,_,_ => rfl
 | 0,g + 1,r,h,_ => by
   have : r = []:=List.eq_nil_of_length_eq_zero (by omega)
   subst this; rfl
 | f + 1,0,r,_,h => by
   have : r = []:=List.eq_nil_of_length_eq_zero (by omega)
   subst this; rfl
 | f + 1,g + 1,r,h1,h2 => by
   cases r with
   | nil => rfl
   | cons c r =>
     unfold segsN
     split
     ·rfl
     ·split
      ·rfl
      ·split
       ·next t ht =>
        have:=congrArg List.length ht
        simp only [List.length_drop,List.length_cons] at this h1 h2
        rw [segsN_fuel f g t (by omega) (by omega)]
       ·rfl
def segsL (r : List UInt8) : Option Nat:=segsN r.length r
theorem segsL_bad {c : UInt8} {r : List UInt8} (h : letterB c = false) : segsL (c :: r) = none:=by
 unfold segsL
 rw [List.length_cons,segsN,if_pos h]
theorem segsL_seg {c : UInt8} {r : List UInt8} (h : segB ((c :: r).take (wordN (c :: r))) = false) : segsL (c :: r) = none:=by
 unfold segsL
 rw [List.length_cons,segsN]
 split
 ·rfl
 ·first | rfl | rw [if_pos h]
theorem segsL_end {c : UInt8} {r : List UInt8} (h : letterB c = true) (h2 : segB ((c :: r).take (wordN (c :: r))) = true) (h3 : ∀ t,(c :: r).drop (wordN (c :: r)) ≠ 46 :: t) : segsL (c :: r) = some (wordN (c :: r)):=by
 unfold segsL
 rw [List.length_cons,segsN,if_neg (by rw [h]; decide),if_neg (by rw [h2]; decide)]
 split
 ·next t ht => exact absurd ht (h3 t)
 ·rfl
theorem segsL_dot {c : UInt8} {r t : List UInt8} (h : letterB c = true) (h2 : segB ((c :: r).take (wordN (c :: r))) = true) (h3 : (c :: r).drop (wordN (c :: r)) = 46 :: t) : segsL (c :: r) = (segsL t).map (wordN (c :: r) + 1 + ·):=by
 unfold segsL
 have:=congrArg List.length h3
 simp only [List.length_drop,List.length_cons] at this
 rw [List.length_cons,segsN,if_neg (by rw [h]; decide),if_neg (by rw [h2]; decide)]
 split
 ·next t' ht =>
  rw [h3] at ht
  injection ht with _ ht
  subst ht
  rw [segsN_fuel r.length t.length t (by omega) (Nat.le_refl _)]
 ·next hn => exact absurd h3 (hn t)
def namePair (o : Option Nat) : Value:=.tuple #[.int .i64 (o.getD 0 : Nat),.bool o.isSome]
theorem nameN_end {s : List UInt8} (h : preN s = s.length) : nameN s = if 0 < preN s then some (preN s) else none:=by
 unfold nameN
 rw [List.drop_eq_nil_of_le (by omega)]
theorem nameN_stop {s : List UInt8} (h : preN s < s.length) (hl : letterB s[preN s] = false) : nameN s = if 0 < preN s then some (preN s) else none:=by
 unfold nameN
 rw [List.drop_eq_getElem_cons h]
 simp only [hl]
 rfl
theorem nameN_segs {s : List UInt8} (h : preN s < s.length) (hl : letterB s[preN s] = true) : nameN s = (segsL (s.drop (preN s))).map (preN s + ·):=by
 unfold nameN segsL
 rw [List.drop_eq_getElem_cons h]
 simp only [hl]
 rfl
set_option maxRecDepth 100000 in
set_option maxHeartbeats 2000000 in
theorem tName_any (s : List UInt8) (w : World) (hs : s.length ≤ 9223372036854775000) :
  Calls Tryz.prog 33 #[.string ⟨s.toArray⟩] w fun e w' => e = .returned (namePair (nameN s)) ∧ w = w':=by
 have HP:=Lib.hid (tPre_any s w hs)
 obtain ⟨p0,hp0⟩ : ∃ p,preN s = p:=⟨_,rfl⟩
 have hp1 : p0 ≤ s.length:=hp0 ▸ preN_le s
 rw [hp0] at HP
 obtain ⟨X,hX⟩ : ∃ X,Hid (nameN s = X):=⟨_,Lib.hid rfl⟩
 rw [hX.out]
 go_enter Tryz.func33,Tryz.ntmps33
 go_wp2_with fail
 ((with_reducible refine HP.out.mono ?_))
 rintro e w2 ⟨rfl,rfl⟩
 clear HP
 have hstop : Hid ((p0 = s.length ∨ ∃ h : p0 < s.length,letterB s[p0] = false) → X = if 0 < p0 then some p0 else none):=Lib.hid (by
  intro h
  rw [← hX.out]
  rcases h with h | ⟨h,h2⟩
  ·rw [nameN_end (by omega),hp0]
  ·subst hp0
   exact nameN_stop h h2)
 by_cases hl : p0 = s.length
 ·have HX2:=Lib.hid (hstop.out (.inl hl))
  have hlb : ((p0 : Int) == (s.length : Int)) = true:=by rw [beq_iff_eq]; omega
  by_cases h0 : 0 < p0
  ·have h0' : (0 : Int) < (p0 : Int):=by omega
   clear hl hp0 hX hstop
   go_wp2_with fail
   refine bodyPost_ret (results_tmp2 rfl _ _ _) rfl ?_
   exact ⟨by rw [HX2.out,if_pos h0]; rfl,rfl⟩
  ·have hs0 : s = []:=List.eq_nil_of_length_eq_zero (by omega)
   have h00 : p0 = 0:=by omega
   clear hp0 hX hstop hl hlb
   subst hs0 h00
   go_wp2_with fail
   refine bodyPost_ret (results_tmp2 rfl _ _ _) rfl ?_
   exact ⟨by rw [HX2.out]; rfl,rfl⟩
 ·have hlt : p0 < s.length:=by omega
  have hlb : ((p0 : Int) == (s.length : Int)) = false:=by rw [beq_eq_false_iff_ne]; omega
  cases hlet : letterB s[p0]
  ·have HX2:=Lib.hid (hstop.out (.inr ⟨hlt,hlet⟩))
   by_cases h0 : 0 < p0
   ·have h0' : (0 : Int) < (p0 : Int):=by omega
    go_wp2_with (go_at_call 34; refine (tIsStart_is _ _ hlet _).mono ?_; rintro e w' ⟨rfl,rfl⟩)
    refine bodyPost_ret (results_tmp2 rfl _ _ _) rfl ?_
    exact ⟨by rw [HX2.out,if_pos h0]; rfl,rfl⟩
   ·have h00 : p0 = 0:=by omega
    subst h00
    go_wp2_with (go_at_call 34; refine (tIsStart_is _ _ hlet _).mono ?_; rintro e w' ⟨rfl,rfl⟩)
    refine bodyPost_ret (results_tmp2 rfl _ _ _) rfl ?_
    exact ⟨by rw [HX2.out]; rfl,rfl⟩
  ·have HX2 : Hid (X = (segsL (s.drop p0)).map (p0 + ·)):=Lib.hid (by rw [← hX.out]; subst hp0; exact nameN_segs hlt hlet)
   clear hstop
   go_wp2_with (go_at_call 34; refine (tIsStart_is _ _ hlet _).mono ?_; rintro e w' ⟨rfl,rfl⟩)
   clear hlet hlb hl
   go_loop [4] (fun v => ∃ p : Nat,v = .int .i64 p ∧ p ≤ s.length ∧ Hid (X = (segsL (s.drop p)).map (p + ·))) (fun v => s.length - (intOf v).toNat)
   case atStart => exact ⟨p0,rfl,hp1,HX2⟩
   case round =>
    clear HX2
    obtain ⟨p,rfl,hp,HX⟩:=hrel
    by_cases hl : p = s.length
    ·have hlb : ((p : Int) == (s.length : Int)) = true:=by rw [beq_iff_eq]; omega
     have HX3 : Hid (X = none):=Lib.hid (by rw [HX.out,List.drop_eq_nil_of_le (by omega)] <;> rfl)
     clear hl
     go_wp2_with fail
     refine bodyPost_ret (results_tmp2 rfl _ _ _) rfl ?_
     exact ⟨by rw [HX3.out]; rfl,rfl⟩
    ·have hlt2 : p < s.length:=by omega
     have hlb : ((p : Int) == (s.length : Int)) = false:=by rw [beq_eq_false_iff_ne]; omega
     cases hlet : letterB s[p]
     ·have HX3 : Hid (X = none):=Lib.hid (by rw [HX.out,List.drop_eq_getElem_cons hlt2,segsL_bad hlet] <;> rfl)
      go_wp2_with (go_at_call 34; refine (tIsStart_is _ _ hlet _).mono ?_; rintro e w' ⟨rfl,rfl⟩)
      refine bodyPost_ret (results_tmp2 rfl _ _ _) rfl ?_
      exact ⟨by rw [HX3.out]; rfl,rfl⟩
     ·have HW:=Lib.hid (tWord_any (s.drop p) w (by rw [List.length_drop]; omega))
      obtain ⟨n,hn⟩ : ∃ n,wordN (s.drop p) = n:=⟨_,rfl⟩
      have hnl : n ≤ s.length - p:=by rw [← hn,← List.length_drop]; exact wordN_le _
      have hn1 : 1 ≤ n:=by rw [← hn,List.drop_eq_getElem_cons hlt2]; exact wordN_pos (by unfold idB; rw [hlet] <;> rfl)
      have HSB : Hid (segB ((s.drop p).take n) = (decide (n ≤ 4) && !lowerB ((s.drop p).take n))):=Lib.hid (by
       rw [← hn,List.drop_eq_getElem_cons hlt2]; exact segB_word hlet)
      have HL:=Lib.hid (tLower_any ((s.drop p).take n) w (by rw [List.length_take,List.length_drop]; omega))
      obtain ⟨lw,hlw⟩ : ∃ lw,lowerB ((s.drop p).take n) = lw:=⟨_,rfl⟩
      have HSEGF : Hid (segB ((s.drop p).take n) = false → X = none):=Lib.hid (by
       intro h
       rw [HX.out]
       rw [← hn] at h
       rw [List.drop_eq_getElem_cons hlt2] at h ⊢
       rw [segsL_seg h] <;> rfl)
      have HEND : Hid (segB ((s.drop p).take n) = true → (∀ t,s.drop (p + n) ≠ 46 :: t) → X = some (p + n)):=Lib.hid (by
       intro h h2
       rw [HX.out]
       rw [← List.drop_drop] at h2
       rw [← hn] at h h2
       have e : wordN (s.drop p) = n:=hn
       rw [List.drop_eq_getElem_cons hlt2] at h h2 e ⊢
       rw [segsL_end hlet h h2,e] <;> rfl)
      have HDOT : Hid (segB ((s.drop p).take n) = true → ∀ t,s.drop (p + n) = 46 :: t → X = (segsL t).map (p + n + 1 + ·)):=Lib.hid (by
       intro h t h2
       rw [HX.out]
       rw [← List.drop_drop] at h2
       rw [← hn] at h h2
       have e : wordN (s.drop p) = n:=hn
       rw [List.drop_eq_getElem_cons hlt2] at h h2 e ⊢
       rw [segsL_dot hlet h h2,e,Option.map_map]
       congr 1
       funext x
       simp only [Function.comp]
       omega)
      rw [hlw] at HL HSB
      rw [hn] at HW
      clear hlw hn
      go_wp2_with (go_at_call 34; refine (tIsStart_is _ _ hlet _).mono ?_; rintro e w' ⟨rfl,rfl⟩)
      ((with_reducible refine HW.out.mono ?_))
      rintro e w3 ⟨rfl,rfl⟩
      clear hlet HW
      by_cases h4 : (4 : Int) < (n : Int)
      ·have HX3:=Lib.hid (HSEGF.out (by rw [HSB.out,decide_eq_false (by omega)] <;> rfl))
       go_wp2_with fail
       refine bodyPost_ret (results_tmp2 rfl _ _ _) rfl ?_
       exact ⟨by rw [HX3.out]; rfl,rfl⟩
      ·go_wp2_with fail
       ((with_reducible refine HL.out.mono ?_))
       rintro e w3 ⟨rfl,rfl⟩
       cases lw
       ·have hsg : Hid (segB ((s.drop p).take n) = true):=Lib.hid (by rw [HSB.out,decide_eq_true (by omega)] <;> rfl)
        obtain ⟨q,hq⟩ : ∃ q,p + n = q:=⟨_,rfl⟩
        rw [hq] at HEND HDOT
        by_cases hql : q = s.length
        ·have hqb : ((q : Int) == (s.length : Int)) = true:=by rw [beq_iff_eq]; omega
         have HX3:=Lib.hid (HEND.out hsg.out (by intro t; rw [List.drop_eq_nil_of_le (by omega)]; simp))
         have hpn : (p : Int) + (n : Int) = (q : Int):=by omega
         clear hql
         go_wp2_with fail
         refine bodyPost_ret (results_tmp2 rfl _ _ _) rfl ?_
         exact ⟨by rw [HX3.out]; rfl,rfl⟩
        ·have hqb : ((q : Int) == (s.length : Int)) = false:=by rw [beq_eq_false_iff_ne]; omega
         have hqlt : q < s.length:=by omega
         have hpn : (p : Int) + (n : Int) = (q : Int):=by omega
         by_cases hdot : s[q] = 46
         ·have hcc : ((s[q].toNat : Int) != 46) = false:=by rw [hdot]; rfl
          have HX3:=Lib.hid (HDOT.out hsg.out (s.drop (q + 1)) (by rw [List.drop_eq_getElem_cons hqlt,hdot]))
          clear hdot
          go_wp2_with fail
          go_round
          case rel => exact ⟨q + 1,by go_num,by omega,HX3⟩
          case measure => simp [intOf]; omega
         ·have hcc : ((s[q].toNat : Int) != 46) = true:=by
           rw [bne,show (46 : Int) = ((46 : UInt8).toNat : Int) from rfl,byte_eq]
           simpa using fun e => hdot e.symm
          have HX3:=Lib.hid (HEND.out hsg.out (by intro t; rw [List.drop_eq_getElem_cons hqlt]; intro e; injection e with e _; exact hdot e))
          clear hdot
          go_wp2_with fail
          refine bodyPost_ret (results_tmp2 rfl _ _ _) rfl ?_
          exact ⟨by rw [HX3.out]; rfl,rfl⟩
       ·have HX3:=Lib.hid (HSEGF.out (by rw [HSB.out]; simp))
        go_wp2_with fail
        refine bodyPost_ret (results_tmp2 rfl _ _ _) rfl ?_
        exact ⟨by rw [HX3.out]; rfl,rfl⟩
end
end Go.Proofs.YtoohondkpddmcaaGreatDoor
