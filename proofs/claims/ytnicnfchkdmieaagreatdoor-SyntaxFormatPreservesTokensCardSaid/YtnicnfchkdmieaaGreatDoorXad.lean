/- Tkf Tkg Tkh Byt -/
import Derived.Test.YtnicnfchkdmieaaGreatDoorXac
import Derived.Laws.BitsAllLaws
import Derived.Laws.BitsLemmas
import Derived.IntWalk
import Derived.Test.YtnicnfchkdmieaaGreatDoorXaa
set_option linter.unusedVariables false
set_option linter.unusedSimpArgs false
namespace Go.Proofs.YtnicnfchkdmieaaGreatDoor
section
open Go.RowKit
attribute [local go_sem] ByteArray.mk_append_mk bs_get bs_cut bs_end
theorem hexV_lt {c : UInt8} {d : Nat} (h : hexV c = some d) : d < 16:=by
 have hc:=c.toNat_lt
 unfold hexV digitB at h
 split at h
 ·next h1 => injection h with h; simp at h1; omega
 ·split at h
  ·injection h with h; omega
  ·split at h
   ·injection h with h; omega
   ·cases h
def intPair (o : Option Nat) : Value:=.tuple #[.int .u64 (o.getD 0 : Nat),.bool o.isSome]
theorem hexF_yes {s : List UInt8} {k v d : Nat} (h : k < s.length) (hd : hexV s[k] = some d) : hexF (s.drop k) v = hexF (s.drop (k + 1)) (v * 16 + d):=by
 rw [List.drop_eq_getElem_cons h,hexF,hd]
theorem hexF_no {s : List UInt8} {k v : Nat} (h : k < s.length) (hd : hexV s[k] = none) : hexF (s.drop k) v = none:=by
 rw [List.drop_eq_getElem_cons h,hexF,hd]
theorem hexF_end {s : List UInt8} {k v : Nat} (h : s.length ≤ k) : hexF (s.drop k) v = some v:=by
 rw [List.drop_eq_nil_of_le h]; rfl
theorem or16 (v d : Nat) (hv : v < 1152921504606846976) (hd : d < 16) : bits .or .u64 ((v : Int) * 16) (d : Int) = ((v * 16 + d : Nat) : Int):=by
 have hc : ((v : Int) * 16) = ((v * 16 : Nat) : Int):=by rw [Int.natCast_mul]; rfl
 rw [hc,u64_or_nat _ _ (by omega) (by omega),nat_join 4 _ _ (by omega) (by omega)]
theorem pow16_le {k : Nat} (h : k < 16) : 16 ^ k ≤ 1152921504606846976:=by
 have : 16 ^ k ≤ 16 ^ 15:=Nat.pow_le_pow_right (by omega) (by omega)
 omega
set_option maxRecDepth 100000 in
set_option maxHeartbeats 2000000 in
theorem tInt_hex (d : List UInt8) (w : World) (hd : d.length ≤ 16) (h1 : 1 ≤ d.length) :
  Calls Tryz.prog 94 #[.string ⟨(48 :: 120 :: d).toArray⟩] w fun e w' => e = .returned (intPair (hexF d 0)) ∧ w = w':=by
 have HP:=Lib.hid (Tryz.strings_HasPrefix ⟨(48 :: 120 :: d).toArray⟩ ⟨#[48,120]⟩ w)
 rw [show Lib.hasPrefix (ByteArray.mk (48 :: 120 :: d).toArray).data.toList (ByteArray.mk #[48,120]).data.toList = true by simp [Lib.hasPrefix,List.isPrefixOf]] at HP
 obtain ⟨X,hX⟩ : ∃ X,Hid (hexF d 0 = X):=⟨_,Lib.hid rfl⟩
 rw [hX.out]
 have hz : ((d.length : Int) == 0) = false:=by rw [beq_eq_false_iff_ne]; omega
 go_enter Tryz.func94,Tryz.ntmps94
 go_wp2_with fail
 ((with_reducible refine HP.out.mono ?_))
 rintro e w2 ⟨rfl,rfl⟩
 clear HP
 go_wp2_with fail
 go_loop [26,5] (fun i v => ∃ k n : Nat,i = .int .i64 k ∧ v = .int .u64 n ∧ k ≤ d.length ∧ Hid (n < 16 ^ k) ∧ Hid (X = hexF (d.drop k) n)) (fun i v => d.length - (intOf i).toNat)
 case atStart => exact ⟨0,0,rfl,rfl,by omega,Lib.hid (by decide),Lib.hid hX.out.symm⟩
 case round =>
  obtain ⟨k,n,rfl,rfl,hk,HN,HX⟩:=hrel
  by_cases hl : k < d.length
  ·have HH:=Lib.hid (tHex_any d[k] w2)
   cases hv : hexV d[k] with
   | none =>
     have HX2 : Hid (X = none):=Lib.hid (by rw [HX.out]; exact hexF_no hl hv)
     rw [hv] at HH
     clear hv
     go_wp2_with fail
     ((with_reducible refine HH.out.mono ?_))
     rintro e w3 ⟨rfl,rfl⟩
     go_wp2_with fail
     refine bodyPost_ret (results_tmp2 rfl _ _ _) rfl ?_
     exact ⟨by rw [HX2.out]; rfl,rfl⟩
   | some x =>
     have hx:=hexV_lt hv
     have HX2 : Hid (X = hexF (d.drop (k + 1)) (n * 16 + x)):=Lib.hid (by rw [HX.out]; exact hexF_yes hl hv)
     rw [hv] at HH
     clear hv
     have hn : n < 1152921504606846976:=Nat.lt_of_lt_of_le HN.out (pow16_le (by omega))
     have hor:=or16 n x hn hx
     have HN2 : Hid (n * 16 + x < 16 ^ (k + 1)):=Lib.hid (by have:=HN.out; rw [Nat.pow_succ]; omega)
     go_wp2_with fail
     ((with_reducible refine HH.out.mono ?_))
     rintro e w3 ⟨rfl,rfl⟩
     simp only [Option.getD_some,Option.isSome_some]
     go_wp2_with fail
     go_round
     case rel => exact ⟨k + 1,n * 16 + x,by go_num,by go_num,by omega,HN2,HX2⟩
     case measure => simp [intOf]; omega
  ·have HX2 : Hid (X = some n):=Lib.hid (by rw [HX.out]; exact hexF_end (by omega))
   go_wp2_with fail
   refine bodyPost_ret (results_tmp2 rfl _ _ _) rfl ?_
   exact ⟨by rw [HX2.out]; rfl,rfl⟩
theorem decF_bad {s : List UInt8} {k v : Nat} (h : k < s.length) (hd : digitB s[k] = false) : decF (s.drop k) v = none:=by
 rw [List.drop_eq_getElem_cons h,decF,if_neg (by rw [hd]; decide)]
theorem decF_big {s : List UInt8} {k v : Nat} (h : k < s.length) (hd : digitB s[k] = true) (hb : (18446744073709551615 - (s[k].toNat - 48)) / 10 < v) : decF (s.drop k) v = none:=by
 rw [List.drop_eq_getElem_cons h,decF,if_pos hd,if_pos hb]
theorem decF_yes {s : List UInt8} {k v : Nat} (h : k < s.length) (hd : digitB s[k] = true) (hb : ¬ (18446744073709551615 - (s[k].toNat - 48)) / 10 < v) : decF (s.drop k) v = decF (s.drop (k + 1)) (v * 10 + (s[k].toNat - 48)):=by
 rw [List.drop_eq_getElem_cons h,decF,if_pos hd,if_neg hb]
theorem decF_end {s : List UInt8} {k v : Nat} (h : s.length ≤ k) : decF (s.drop k) v = some v:=by
 rw [List.drop_eq_nil_of_le h]; rfl
theorem digitB_range {c : UInt8} (h : digitB c = true) : 48 ≤ c.toNat ∧ c.toNat ≤ 57:=by unfold digitB at h; simpa using h
set_option maxRecDepth 100000 in
set_option maxHeartbeats 2000000 in
theorem tInt_dec (s : List UInt8) (w : World) (hs : s.length ≤ 9223372036854775000) (hp : Lib.hasPrefix s [48,120] = false) (h0 : s.length ≤ 1 ∨ s.head? ≠ some 48) :
  Calls Tryz.prog 94 #[.string ⟨s.toArray⟩] w fun e w' => e = .returned (intPair (decF s 0)) ∧ w = w':=by
 have HP:=Lib.hid (Tryz.strings_HasPrefix ⟨s.toArray⟩ ⟨#[48,120]⟩ w)
 rw [show Lib.hasPrefix (ByteArray.mk s.toArray).data.toList (ByteArray.mk #[48,120]).data.toList = false from hp] at HP
 obtain ⟨X,hX⟩ : ∃ X,Hid (decF s 0 = X):=⟨_,Lib.hid rfl⟩
 rw [hX.out]
 go_enter Tryz.func94,Tryz.ntmps94
 go_wp2_with fail
 ((with_reducible refine HP.out.mono ?_))
 rintro e w2 ⟨rfl,rfl⟩
 clear HP hp
 go_upto_region 15 with fail
 go_cut [52] (fun z wx => z = .bool false ∧ w2 = wx)
 case first =>
  by_cases h1 : s.length ≤ 1
  ·go_wp2_with fail
   go_meet
   exact ⟨rfl,rfl⟩
  ·have hh : (((s[0]'(by omega)).toNat : Int) == 48) = false:=by
    rw [show (48 : Int) = ((48 : UInt8).toNat : Int) from rfl,byte_eq,beq_eq_false_iff_ne]
    rcases h0 with h | h
    ·omega
    ·intro e
     apply h
     rw [List.head?_eq_getElem?,List.getElem?_eq_getElem (by omega),← e]
   go_wp2_with fail
   go_meet
   exact ⟨rfl,rfl⟩
 case rest =>
  obtain ⟨rfl,rfl⟩:=hcut
  clear h0
  go_wp2_with fail
  go_loop [55,9] (fun i v => ∃ (k : Nat) (V : Int),i = .int .i64 k ∧ v = .int .u64 V ∧ k ≤ s.length ∧ Hid (∃ n : Nat,V = n ∧ n ≤ 18446744073709551615 ∧ X = decF (s.drop k) n)) (fun i v => s.length - (intOf i).toNat)
  case atStart => exact ⟨0,0,rfl,rfl,by omega,Lib.hid ⟨0,rfl,by omega,hX.out.symm⟩⟩
  case round =>
   obtain ⟨k,V,rfl,rfl,hk,HX⟩:=hrel
   by_cases hl : k < s.length
   ·cases h1 : digitB s[k]
    ·have HX2 : Hid (X = none):=Lib.hid (by obtain ⟨n,_,_,h⟩:=HX.out; rw [h]; exact decF_bad hl h1)
     go_wp2_with (go_at_call 92; refine (tIsDigit_is _ _ h1 _).mono ?_; rintro e w' ⟨rfl,rfl⟩)
     refine bodyPost_ret (results_tmp2 rfl _ _ _) rfl ?_
     exact ⟨by rw [HX2.out]; rfl,rfl⟩
    ·obtain ⟨hd1,hd2⟩:=digitB_range h1
     obtain ⟨d,hd⟩ : ∃ d : Int,Hid ((s[k].toNat : Int) - 48 = d):=⟨_,Lib.hid rfl⟩
     have hdd : ((s[k].toNat : Int) - 48) = d:=hd.out
     have hd3 : 0 ≤ d:=by omega
     have hd4 : d ≤ 9:=by omega
     go_upto_region 24 with (go_at_call 92; refine (tIsDigit_is _ _ h1 _).mono ?_; rintro e w' ⟨rfl,rfl⟩)
     go_wp2_with fail
     ·next hov =>
      have HX2 : Hid (X = none):=Lib.hid (by obtain ⟨n,h1',h2,h3⟩:=HX.out; rw [h3]; exact decF_big hl h1 (by omega))
      refine bodyPost_ret (results_tmp2 rfl _ _ _) rfl ?_
      exact ⟨by rw [HX2.out]; rfl,rfl⟩
     ·next hov =>
      have HX2 : Hid (∃ n : Nat,V * 10 + d = n ∧ n ≤ 18446744073709551615 ∧ X = decF (s.drop (k + 1)) n):=Lib.hid (by
       obtain ⟨n,h1',h2,h3⟩:=HX.out
       have e:=decF_yes (v:=n) hl h1 (by omega)
       refine ⟨n * 10 + (s[k].toNat - 48),by omega,by omega,by rw [h3,e]⟩)
      have hV : 0 ≤ V:=by obtain ⟨n,h1',_⟩:=HX.out; omega
      have e1 : IntKind.u64.wrap (V * 10) = V * 10:=IntWalk.u64_in _ ⟨by omega,by omega⟩
      have e2 : IntKind.u64.wrap (V * 10 + d) = V * 10 + d:=IntWalk.u64_in _ ⟨by omega,by omega⟩
      rw [e1,e2]
      go_round
      case rel => exact ⟨k + 1,V * 10 + d,by go_num,rfl,by omega,HX2⟩
      case measure => simp [intOf]; omega
   ·have HX2 : Hid (∃ n : Nat,V = n ∧ X = some n):=Lib.hid (by obtain ⟨n,h1,h2,h3⟩:=HX.out; exact ⟨n,h1,by rw [h3]; exact decF_end (by omega)⟩)
    go_wp2_with fail
    refine bodyPost_ret (results_tmp2 rfl _ _ _) rfl ?_
    obtain ⟨n,h1,h2⟩:=HX2.out
    exact ⟨by rw [h2,h1]; rfl,rfl⟩
end
section
open Go.RowKit
attribute [local go_sem] ByteArray.mk_append_mk bs_get bs_cut bs_end
theorem decF_grows : ∀ (s : List UInt8) (v r : Nat),v ≤ 18446744073709551615 → decF s v = some r → v * 10 ^ s.length ≤ r ∧ r ≤ 18446744073709551615
 | [],v,r,hv,h => by
   rw [decF] at h; injection h with h; subst h
   simp; exact hv
 | c :: t,v,r,hv,h => by
   rw [decF] at h
   split at h
   ·next hc =>
    have hc2:=digitB_range hc
    split at h
    ·cases h
    ·next hb =>
     have:=decF_grows t _ r (by omega) h
     refine ⟨Nat.le_trans ?_ this.1,this.2⟩
     rw [List.length_cons,Nat.pow_succ,Nat.mul_comm (10 ^ t.length),← Nat.mul_assoc]
     exact Nat.mul_le_mul_right _ (by omega)
   ·cases h
theorem decF_long {s : List UInt8} (h : 20 < s.length) (h0 : s.head? ≠ some 48) : decF s 0 = none:=by
 cases s with
 | nil => simp at h
 | cons c t =>
   rw [decF]
   split
   ·next hc =>
    split
    ·rfl
    ·next hb =>
     have hc2:=digitB_range hc
     have hne : c.toNat ≠ 48:=fun e => h0 (by
      have : c = 48:=UInt8.toNat_inj.1 (by rw [e] <;> rfl)
      subst this; rfl)
     cases hr : decF t (0 * 10 + (c.toNat - 48)) with
     | none => rfl
     | some r =>
       exfalso
       have:=decF_grows t _ r (by omega) hr
       have h10 : 10 ^ 20 ≤ 10 ^ t.length:=Nat.pow_le_pow_right (by omega) (by simp at h; omega)
       have h11 : 1 * 10 ^ t.length ≤ (0 * 10 + (c.toNat - 48)) * 10 ^ t.length:=Nat.mul_le_mul_right _ (by omega)
       omega
   ·rfl
def hexLit : List UInt8 → Bool
 | 48 :: 120 :: _ :: _ => true
 | _ => false
theorem intV_hex {s : List UInt8} (h : hexLit s = true) : intV s = if 18 < s.length then none else hexF (s.drop 2) 0:=by
 unfold hexLit at h
 split at h
 ·next c r =>
  unfold intV
  simp only [List.length_cons,List.drop_succ_cons,List.drop_zero]
  by_cases hl : 18 < r.length + 1 + 1 + 1
  ·rw [if_pos (.inr (by omega)),if_pos hl]
  ·rw [if_neg (by simp; omega),if_neg hl]
 ·cases h
theorem intV_dec {s : List UInt8} (h : hexLit s = false) (h0 : s ≠ []) : intV s = if 20 < s.length ∨ (1 < s.length ∧ s.head? = some 48) then none else decF s 0:=by
 unfold intV
 split
 ·next d =>
  have hd : d = []:=by cases d with
   | nil => rfl
   | cons c t => cases h
  subst hd
  rfl
 ·rfl
 ·next t hn1 hn2 =>
  rw [if_pos (.inr ⟨by cases t with
   | nil => exact absurd rfl hn2
   | cons c r => simp,rfl⟩)]
 ·next hn1 hn2 hn3 =>
  have hh : s.head? ≠ some 48:=fun e => by
   cases s with
   | nil => cases e
   | cons c t =>
     simp at e
     subst e
     exact hn3 t rfl
  by_cases h20 : 20 < s.length
  ·rw [if_pos (.inl h20),decF_long h20 hh]
  ·rw [if_neg (by rintro (h | ⟨_,h⟩); exact h20 h; exact hh h)]
theorem intV_noPre {s : List UInt8} (hp : Lib.hasPrefix s [48,120] = false) (h0 : s.length ≤ 1 ∨ s.head? ≠ some 48) : intV s = decF s 0:=by
 unfold intV
 split
 ·cases hp
 ·rfl
 ·next t hn1 hn2 =>
  rcases h0 with h0 | h0
  ·have : t = []:=List.eq_nil_of_length_eq_zero (by simp only [List.length_cons] at h0; omega)
   subst this
   exact absurd rfl hn2
  ·exact absurd rfl h0
 ·rfl
theorem intV_zero {s : List UInt8} (hp : Lib.hasPrefix s [48,120] = false) (h1 : 1 < s.length) (h0 : s.head? = some 48) : intV s = none:=by
 unfold intV
 split
 ·cases hp
 ·simp at h1
 ·rfl
 ·next hn1 hn2 hn3 =>
  exfalso
  cases s with
  | nil => cases h0
  | cons c t =>
    simp at h0
    subst h0
    exact hn3 t rfl
set_option maxRecDepth 100000 in
set_option maxHeartbeats 2000000 in
theorem tInt_any (s : List UInt8) (w : World) (hs : s.length ≤ 9223372036854775000) :
  Calls Tryz.prog 94 #[.string ⟨s.toArray⟩] w fun e w' => e = .returned (intPair (intV s)) ∧ w = w':=by
 cases hp : Lib.hasPrefix s [48,120]
 ·by_cases h0 : s.length ≤ 1 ∨ s.head? ≠ some 48
  ·rw [intV_noPre hp h0]
   exact tInt_dec s w hs hp h0
  ·have h1 : 1 < s.length:=by omega
   have h2 : s.head? = some 48:=Classical.byContradiction fun h => h0 (.inr h)
   rw [intV_zero hp h1 h2]
   have hh : (((s[0]'(by omega)).toNat : Int) == 48) = true:=by
    rw [show (48 : Int) = ((48 : UInt8).toNat : Int) from rfl,byte_eq,beq_iff_eq]
    rw [List.head?_eq_getElem?,List.getElem?_eq_getElem (by omega)] at h2
    injection h2 with h2
    exact h2.symm
   have HP:=Lib.hid (Tryz.strings_HasPrefix ⟨s.toArray⟩ ⟨#[48,120]⟩ w)
   rw [show Lib.hasPrefix (ByteArray.mk s.toArray).data.toList (ByteArray.mk #[48,120]).data.toList = false from hp] at HP
   go_enter Tryz.func94,Tryz.ntmps94
   go_wp2_with fail
   ((with_reducible refine HP.out.mono ?_))
   rintro e w2 ⟨rfl,rfl⟩
   clear HP hp h2
   go_wp2_with fail
   refine bodyPost_ret (results_tmp2 rfl _ _ _) rfl ?_
   exact ⟨rfl,rfl⟩
 ·obtain ⟨d,rfl⟩ : ∃ d,s = 48 :: 120 :: d:=by
   cases s with
   | nil => cases hp
   | cons a t => cases t with
     | nil => simp [Lib.hasPrefix,List.isPrefixOf] at hp
     | cons b d =>
       simp [Lib.hasPrefix,List.isPrefixOf] at hp
       exact ⟨d,by rw [← hp.1,← hp.2]⟩
  by_cases hd : 1 ≤ d.length ∧ d.length ≤ 16
  ·have e : intV (48 :: 120 :: d) = hexF d 0:=by
    rw [intV,if_neg]
    rintro (h | h)
    ·subst h; simp at hd
    ·omega
   rw [e]
   exact tInt_hex d w hd.2 hd.1
  ·have e : intV (48 :: 120 :: d) = none:=by
    rw [intV,if_pos]
    rcases Nat.lt_or_ge d.length 1 with h | h
    ·exact .inl (List.eq_nil_of_length_eq_zero (by omega))
    ·exact .inr (by omega)
   rw [e]
   have HP:=Lib.hid (Tryz.strings_HasPrefix ⟨(48 :: 120 :: d).toArray⟩ ⟨#[48,120]⟩ w)
   rw [show Lib.hasPrefix (ByteArray.mk (48 :: 120 :: d).toArray).data.toList (ByteArray.mk #[48,120]).data.toList = true from hp] at HP
   by_cases h0 : d.length = 0
   ·have hd0 : d = []:=List.eq_nil_of_length_eq_zero h0
    subst hd0
    go_enter Tryz.func94,Tryz.ntmps94
    go_wp2_with fail
    ((with_reducible refine HP.out.mono ?_))
    rintro e w2 ⟨rfl,rfl⟩
    clear HP hp
    go_wp2_with fail
    refine bodyPost_ret (results_tmp2 rfl _ _ _) rfl ?_
    exact ⟨rfl,rfl⟩
   ·have h16 : 16 < d.length:=by omega
    have hz : ((d.length : Int) == 0) = false:=by rw [beq_eq_false_iff_ne]; omega
    clear h0 hd
    go_enter Tryz.func94,Tryz.ntmps94
    go_wp2_with fail
    ((with_reducible refine HP.out.mono ?_))
    rintro e w2 ⟨rfl,rfl⟩
    clear HP hp
    go_wp2_with fail
    refine bodyPost_ret (results_tmp2 rfl _ _ _) rfl ?_
    exact ⟨rfl,rfl⟩
end
section
open Go.RowKit
attribute [local go_sem] ByteArray.mk_append_mk bs_get bs_cut bs_end
theorem byte_is {s : List UInt8} {k : Nat} (h : k < s.length) (d : UInt8) (b : Bool) (hb : decide (s[k] = d) = b) : ((s[k].toNat : Int) == (d.toNat : Int)) = b:=by
 rw [byte_eq,← hb,Bool.eq_iff_iff,beq_iff_eq,decide_eq_true_eq]; exact eq_comm
theorem hexLit_short {s : List UInt8} (h : s.length < 3) : hexLit s = false:=by
 unfold hexLit
 split
 ·next c r => simp only [List.length_cons] at h; omega
 ·rfl
theorem hexLit_long {s : List UInt8} (h : 3 ≤ s.length) : hexLit s = (decide (s[0] = 48) && decide (s[1] = 120)):=by
 match s,h with
 | a :: b :: c :: r,_ =>
   simp only [List.getElem_cons_zero,List.getElem_cons_succ]
   unfold hexLit
   split
   ·next heq => injection heq with h1 h2; injection h2 with h2 h3; subst h1 h2; rfl
   ·next hn =>
    by_cases h1 : a = 48
    ·by_cases h2 : b = 120
     ·subst h1 h2
      exact absurd rfl (hn c r)
     ·simp [h2]
    ·simp [h1]
theorem hexI_some {c : UInt8} {x : Nat} (h : hexV c = some x) : hexI c = x:=by unfold hexI; rw [h]
theorem hexI_none {c : UInt8} (h : hexV c = none) : hexI c = -1:=by unfold hexI; rw [h]
set_option maxRecDepth 100000 in
set_option maxHeartbeats 4000000 in
theorem rInt_any (s : List UInt8) (w : World) (hs : s.length ≤ 9223372036854775000) (hne : s ≠ []) :
  Calls Tryz.prog 56 #[.string ⟨s.toArray⟩] w fun e w' => e = .returned (intPair (intV s)) ∧ w = w':=by
 obtain ⟨X,hX⟩ : ∃ X,Hid (intV s = X):=⟨_,Lib.hid rfl⟩
 rw [hX.out]
 have hpos : 0 < s.length:=by cases s with
  | nil => exact absurd rfl hne
  | cons c t => simp
 have HNE : Hid (s ≠ []):=Lib.hid hne
 clear hne
 obtain ⟨b,hb⟩ : ∃ b,Hid (hexLit s = b):=⟨_,Lib.hid rfl⟩
 go_enter Tryz.func56,Tryz.ntmps56
 go_upto_region 1 with fail
 go_cut [21] (fun z wx => z = .bool b ∧ w = wx)
 case first =>
  by_cases h3 : (3 : Int) ≤ (s.length : Int)
  ·have HB : Hid (b = (decide (s[0] = 48) && decide ((s[1]'(by omega)) = 120))):=Lib.hid (by rw [← hb.out,hexLit_long (by omega)])
   cases h0 : decide (s[0] = 48)
   ·have hx0 : ((s[0].toNat : Int) == 48) = false:=byte_is hpos 48 false h0
    rw [h0] at HB
    clear h0
    go_wp2_with fail
    go_meet
    exact ⟨by rw [HB.out]; rfl,rfl⟩
   ·have hx0 : ((s[0].toNat : Int) == 48) = true:=byte_is hpos 48 true h0
    rw [h0] at HB
    clear h0
    have h1' : 1 < s.length:=by omega
    have hx1 : ((s[1].toNat : Int) == 120) = decide (s[1] = 120):=byte_is h1' 120 _ rfl
    go_wp2_with fail
    go_meet
    exact ⟨by rw [HB.out]; rfl,rfl⟩
  ·have HB : Hid (b = false):=Lib.hid (by rw [← hb.out]; exact hexLit_short (by omega))
   go_wp2_with fail
   go_meet
   exact ⟨by rw [HB.out],rfl⟩
 case rest =>
  obtain ⟨rfl,rfl⟩:=hcut
  cases b
  ·have HX : Hid (X = if 20 < s.length ∨ (1 < s.length ∧ s.head? = some 48) then none else decF s 0):=Lib.hid (by rw [← hX.out]; exact intV_dec hb.out HNE.out)
   clear hb
   have hse : s.isEmpty = false:=by cases s with
    | nil => simp at hpos
    | cons c t => rfl
   obtain ⟨B,hB⟩ : ∃ B : Bool,Hid (decide (20 < s.length ∨ (1 < s.length ∧ s.head? = some 48)) = B):=⟨_,Lib.hid rfl⟩
   have HX2 : Hid (X = if B = true then none else decF s 0):=Lib.hid (by rw [HX.out,← hB.out]; simp only [decide_eq_true_eq])
   clear HX
   have hh0 : s.head? = some s[0]:=by rw [List.head?_eq_getElem?,List.getElem?_eq_getElem hpos]
   have HB1 : Hid (20 < s.length → B = true):=Lib.hid (fun h => by rw [← hB.out,decide_eq_true_eq]; exact .inl h)
   have HB2 : Hid (¬ 20 < s.length → 1 < s.length → B = decide (s[0] = 48)):=Lib.hid (fun h h1 => by
    rw [← hB.out,decide_eq_decide,hh0]
    constructor
    ·rintro (h' | ⟨_,h'⟩)
     ·exact absurd h' h
     ·injection h'
    ·intro h'; exact .inr ⟨h1,by rw [h']⟩)
   have HB3 : Hid (¬ 1 < s.length → B = false):=Lib.hid (fun h => by
    rw [← hB.out,decide_eq_false_iff_not]
    rintro (h' | ⟨h',_⟩) <;> omega)
   clear hh0
   go_upto_region 12 with fail
   go_cut [61] (fun z wx => z = .bool B ∧ w = wx)
   case first =>
    by_cases h20 : (20 : Int) < (s.length : Int)
    ·have HB:=Lib.hid (HB1.out (by omega))
     go_wp2_with fail
     go_meet
     exact ⟨by rw [HB.out],rfl⟩
    ·by_cases h1 : (1 : Int) < (s.length : Int)
     ·have HB:=Lib.hid (HB2.out (by omega) (by omega))
      have hx0 : ((s[0].toNat : Int) == 48) = decide (s[0] = 48):=byte_is hpos 48 _ rfl
      go_wp2_with fail
      go_meet
      exact ⟨by rw [HB.out],rfl⟩
     ·have HB:=Lib.hid (HB3.out (by omega))
      go_wp2_with fail
      go_meet
      exact ⟨by rw [HB.out],rfl⟩
   case rest =>
    obtain ⟨rfl,rfl⟩:=hcut
    clear HB1 HB2 HB3 hB hse
    cases B
    ·have HX : Hid (X = decF s 0):=Lib.hid (by rw [HX2.out] <;> rfl)
     clear HX2
     go_wp2_with fail
     go_loop [7,6] (fun i v => ∃ (k : Nat) (V : Int),i = .int .i64 k ∧ v = .int .u64 V ∧ k ≤ s.length ∧ Hid (∃ n : Nat,V = n ∧ n ≤ 18446744073709551615 ∧ X = decF (s.drop k) n)) (fun i v => s.length - (intOf i).toNat)
     case atStart => exact ⟨0,0,rfl,rfl,by omega,Lib.hid ⟨0,rfl,by omega,HX.out⟩⟩
     case round =>
      clear HX
      obtain ⟨k,V,rfl,rfl,hk,HX⟩:=hrel
      by_cases hl : k < s.length
      ·cases h1 : digitB s[k]
       ·have HX2 : Hid (X = none):=Lib.hid (by obtain ⟨n,_,_,h⟩:=HX.out; rw [h]; exact decF_bad hl h1)
        go_wp2_with (go_at_call 55; refine (digit_is _ _ h1 _).mono ?_; rintro e w' ⟨rfl,rfl⟩)
        refine bodyPost_ret (results_tmp2 rfl _ _ _) rfl ?_
        exact ⟨by rw [HX2.out]; rfl,rfl⟩
       ·obtain ⟨hd1,hd2⟩:=digitB_range h1
        obtain ⟨d,hd⟩ : ∃ d : Int,Hid ((s[k].toNat : Int) - 48 = d):=⟨_,Lib.hid rfl⟩
        have hdd : ((s[k].toNat : Int) - 48) = d:=hd.out
        have hd3 : 0 ≤ d:=by omega
        have hd4 : d ≤ 9:=by omega
        go_wp2_with (go_at_call 55; refine (digit_is _ _ h1 _).mono ?_; rintro e w' ⟨rfl,rfl⟩)
        ·next hov =>
         have HX2 : Hid (X = none):=Lib.hid (by obtain ⟨n,h1',h2,h3⟩:=HX.out; rw [h3]; exact decF_big hl h1 (by omega))
         refine bodyPost_ret (results_tmp2 rfl _ _ _) rfl ?_
         exact ⟨by rw [HX2.out]; rfl,rfl⟩
        ·next hov =>
         have HX2 : Hid (∃ n : Nat,V * 10 + d = n ∧ n ≤ 18446744073709551615 ∧ X = decF (s.drop (k + 1)) n):=Lib.hid (by
          obtain ⟨n,h1',h2,h3⟩:=HX.out
          have e:=decF_yes (v:=n) hl h1 (by omega)
          refine ⟨n * 10 + (s[k].toNat - 48),by omega,by omega,by rw [h3,e]⟩)
         have hV : 0 ≤ V:=by obtain ⟨n,h1',_⟩:=HX.out; omega
         have e1 : IntKind.u64.wrap (10 * V) = V * 10:=by rw [Int.mul_comm]; exact IntWalk.u64_in _ ⟨by omega,by omega⟩
         have e2 : IntKind.u64.wrap (V * 10 + d) = V * 10 + d:=IntWalk.u64_in _ ⟨by omega,by omega⟩
         rw [e1,e2]
         go_round
         case rel => exact ⟨k + 1,V * 10 + d,by go_num,rfl,by omega,HX2⟩
         case measure => simp [intOf]; omega
      ·have HX2 : Hid (∃ n : Nat,V = n ∧ X = some n):=Lib.hid (by obtain ⟨n,h1,h2,h3⟩:=HX.out; exact ⟨n,h1,by rw [h3]; exact decF_end (by omega)⟩)
       go_wp2_with fail
       refine bodyPost_ret (results_tmp2 rfl _ _ _) rfl ?_
       obtain ⟨n,h1,h2⟩:=HX2.out
       exact ⟨by rw [h2,h1]; rfl,rfl⟩
    ·have HX : Hid (X = none):=Lib.hid (by rw [HX2.out] <;> rfl)
     clear HX2
     go_wp2_with fail
     refine bodyPost_ret (results_tmp2 rfl _ _ _) rfl ?_
     exact ⟨by rw [HX.out]; rfl,rfl⟩
  ·have HX : Hid (X = if 18 < s.length then none else hexF (s.drop 2) 0):=Lib.hid (by rw [← hX.out]; exact intV_hex hb.out)
   have h3 : 3 ≤ s.length:=Classical.byContradiction fun h => by
    have:=hexLit_short (s:=s) (by omega)
    rw [hb.out] at this; cases this
   clear hb
   by_cases h18 : (18 : Int) < (s.length : Int)
   ·go_wp2_with fail
    refine bodyPost_ret (results_tmp2 rfl _ _ _) rfl ?_
    exact ⟨by rw [HX.out,if_pos (by omega)]; rfl,rfl⟩
   ·have HX1 : Hid (X = hexF (s.drop 2) 0):=Lib.hid (by rw [HX.out,if_neg (by omega)])
    clear HX
    go_wp2_with fail
    go_loop [5,4] (fun i v => ∃ k n : Nat,i = .int .i64 k ∧ v = .int .u64 n ∧ 2 ≤ k ∧ k ≤ s.length ∧ Hid (n < 16 ^ (k - 2)) ∧ Hid (X = hexF (s.drop k) n)) (fun i v => s.length - (intOf i).toNat)
    case atStart => exact ⟨2,0,rfl,rfl,by omega,by omega,Lib.hid (by decide),HX1⟩
    case round =>
     clear HX1
     obtain ⟨k,n,rfl,rfl,hk2,hk,HN,HX⟩:=hrel
     by_cases hl : k < s.length
     ·have HH:=Lib.hid (rHex_any s[k] w)
      cases hv : hexV s[k] with
      | none =>
        have HX2 : Hid (X = none):=Lib.hid (by rw [HX.out]; exact hexF_no hl hv)
        rw [hexI_none hv] at HH
        clear hv
        go_wp2_with fail
        ((with_reducible refine HH.out.mono ?_))
        rintro e w3 ⟨rfl,rfl⟩
        go_wp2_with fail
        refine bodyPost_ret (results_tmp2 rfl _ _ _) rfl ?_
        exact ⟨by rw [HX2.out]; rfl,rfl⟩
      | some x =>
        have hx:=hexV_lt hv
        have HX2 : Hid (X = hexF (s.drop (k + 1)) (n * 16 + x)):=Lib.hid (by rw [HX.out]; exact hexF_yes hl hv)
        rw [hexI_some hv] at HH
        clear hv
        have hn : n < 1152921504606846976:=Nat.lt_of_lt_of_le HN.out (pow16_le (by omega))
        have hor:=or16 n x hn hx
        have HN2 : Hid (n * 16 + x < 16 ^ (k + 1 - 2)):=Lib.hid (by
         have:=HN.out
         rw [show k + 1 - 2 = (k - 2) + 1 by omega,Nat.pow_succ]; omega)
        go_wp2_with fail
        ((with_reducible refine HH.out.mono ?_))
        rintro e w3 ⟨rfl,rfl⟩
        go_wp2_with fail
        ((with_reducible refine HH.out.mono ?_))
        rintro e w3 ⟨rfl,rfl⟩
        go_wp2_with fail
        go_round
        case rel => exact ⟨k + 1,n * 16 + x,by go_num,by go_num,by omega,by omega,HN2,HX2⟩
        case measure => simp [intOf]; omega
     ·have HX2 : Hid (X = some n):=Lib.hid (by rw [HX.out]; exact hexF_end (by omega))
      go_wp2_with fail
      refine bodyPost_ret (results_tmp2 rfl _ _ _) rfl ?_
      exact ⟨by rw [HX2.out]; rfl,rfl⟩
end
section
open Go.RowKit
attribute [local go_sem] ByteArray.mk_append_mk bs_get bs_cut bs_end
theorem by_conv1 (w : World) (x : Int) : Sem.run Tryz.prog (convert 22 9 (.slice (some ⟨w.heap.size,0,none⟩) 1 1)) (w.alloc (.cells #[.int .u8 x] 5)) = .ok (.string ⟨[UInt8.ofNat x.toNat].toArray⟩) (w.alloc (.cells #[.int .u8 x] 5)):=by
 rw [run_convert_bytes_string _ 22 9 5 _ _ _ Tryz.underlying22 Tryz.underlying5 Tryz.underlying9]
 rw [run_bytesToString _ _ 1 1 [x] (by simp [loadCells,go_sem])]
 rfl
theorem by_info : (Tryz.prog.info? 5).map (fun i => (i.zero,i.size,i.bytes)) = some (some (.int .u8 0),1,1):=by kernel_rfl
def byV (l : List UInt8) : List Value:=l.map fun b => .int .u8 b.toNat
theorem byV_len (l : List UInt8) : (byV l).length = l.length:=by unfold byV; exact List.length_map _
theorem by_conv (w : World) (a : Addr) (n c : Nat) (l : List UInt8) (hn : l.length = n) (h : ∀ j v,(byV l)[j]? = some v → w.cell? (a.add j) = some v) :
  Sem.run Tryz.prog (convert 22 9 (.slice (some a) n c)) w = .ok (.string ⟨l.toArray⟩) w:=by
 rw [run_convert_bytes_string _ 22 9 5 _ _ _ Tryz.underlying22 Tryz.underlying5 Tryz.underlying9]
 have hl:=run_loadCells_list (P:=Tryz.prog) w a ((l.map (fun b => (b.toNat : Int))).map (Value.int .u8)) (by
  intro j v hj; apply h; simpa [byV,List.map_map] using hj)
 rw [List.length_map,List.length_map,hn] at hl
 rw [run_bytesToString _ _ n c _ hl]
 have key : ∀ (l : List UInt8) (r : ByteArray),(l.map (fun b => (b.toNat : Int))).foldl (fun r n => r.push (UInt8.ofNat n.toNat)) r = r ++ ⟨l.toArray⟩:=by
  intro l
  induction l with
  | nil => intro r; simp; apply ByteArray.ext; simp [ByteArray.data_append]
  | cons x l ih =>
    intro r
    simp only [List.map_cons,List.foldl_cons,ih]
    apply ByteArray.ext
    simp [ByteArray.data_append,ByteArray.data_push]
 rw [key]
 congr 2
theorem by_convNil (w : World) : Sem.run Tryz.prog (convert 22 9 (.slice none 0 0)) w = .ok (.string ⟨([] : List UInt8).toArray⟩) w:=by kernel_rfl
def Bytes (w : World) (B : Nat) (v : Value) (l : List UInt8) : Prop:=w.ownsRow B 5 1 v l.length (byV l)
theorem Bytes.nil (w : World) (B : Nat) : Bytes w B (.slice none 0 0) []:=⟨rfl,.inl ⟨rfl,rfl⟩⟩
theorem Bytes.form {w : World} {B : Nat} {v : Value} {l : List UInt8} (h : Bytes w B v l) : ∃ a c,v = .slice a l.length c:=by
 rcases h.2 with ⟨rfl,h0⟩ | ⟨g,cap,cur,rfl,_⟩
 ·exact ⟨none,0,by rw [h0]⟩
 ·exact ⟨_,cap,rfl⟩
theorem Bytes.conv {w : World} {B : Nat} {v : Value} {l : List UInt8} (h : Bytes w B v l) : Sem.run Tryz.prog (convert 22 9 v) w = .ok (.string ⟨l.toArray⟩) w:=by
 have ho : w.ownsRow B 5 1 v l.length (byV l):=h
 rcases h.2 with ⟨rfl,h0⟩ | ⟨g,cap,cur,rfl,_⟩
 ·have : l = []:=List.eq_nil_of_length_eq_zero h0
  subst this
  exact by_convNil w
 ·refine by_conv w _ _ _ l rfl fun j u hj => ?_
  have hlt : j < l.length:=by
   have:=(List.getElem?_eq_some_iff.1 hj).1
   rwa [byV_len] at this
  have h1:=ho.cellAt j (by omega)
  rw [hj] at h1
  by_cases h0 : j = 0
  ·subst h0; simpa [Addr.add] using h1
  ·simpa [Addr.add,h0] using h1
theorem Bytes.below {w w' : World} {B : Nat} {v : Value} {l : List UInt8} (h : Bytes w B v l) (hb : Below w.heap.size w w') : Bytes w' B v l:=own_below h hb
theorem wpList_append_byte {w : World} {ops : Array Oper} {rest : List Oper} {o : Oper} {a : Act} {Q : Exit → Act → World → Prop} (hgd : o.guard = none) (s x : Operand)
  (ho : o.op = .call { callee:=.builtin .append,args:=#[s,x],argTypes:=#[22,22] })
  (B : Nat) (v : Value) (l : List UInt8) (hs : a.eval s = v) (hown : Bytes w B v l) (c : UInt8) (g : Nat)
  (hx : a.eval x = .slice (some ⟨g,0,none⟩) 1 1) (hb : w.heap[g]? = some (.cells #[.int .u8 c.toNat] 5 (0,0))) (hlen : l.length ≤ 1000000) (hB : B ≤ w.heap.size)
  (h : ∀ v' w',Bytes w' B v' (l ++ [c]) → w.grownBy w' v.ownBlock → wpList Tryz.prog ops Q rest (a.put o.dst v') w') : wpList Tryz.prog ops Q (o :: rest) a w:=by
 obtain ⟨i0,hi,hz0,hz1,hz2⟩:=info_parts by_info
 refine wpList_append_own _ hgd s x _ ho B 5 i0 (.int .u8 0) 1 1 Tryz.underlying22 hi hz0 hz1 hz2 rfl (by decide) v l.length _ hs hown ⟨g,0,none⟩ 1 1 [.int .u8 c.toNat] hx rfl ?_ ?_ (by unfold maxLen; omega) (by omega) hB ?_
 ·intro j z hj
  match j,hj with
  | 0,hj => cases hj; exact (cell_of_row w _ 0 _ _ _ hb).trans rfl
 ·intro z hz
  simp only [List.mem_cons,List.not_mem_nil,or_false] at hz
  subst hz; rfl
 ·intro v' w' h1 h2 _
  refine h v' w' ?_ h2
  unfold Bytes
  rw [List.length_append]
  rw [show byV (l ++ [c]) = byV l ++ [.int .u8 c.toNat] from List.map_append]
  exact h1
theorem Bytes.kept {w w1 w2 : World} {B B0 : Nat} {v : Value} {l : List UInt8} (ho : Bytes w1 B v l) (h : Below B0 w w1) (hg : w1.grownBy w2 v.ownBlock) (hB : B0 ≤ w1.heap.size) (hB2 : B0 ≤ B) : Below B0 w w2 :=
 h.grown hg hB (fun k hk => Nat.le_trans hB2 (own_row ho hk))
def BArg (w : World) (v : Value) (l : List UInt8) : Prop :=
 ∃ (a : Option Addr) (cap : Nat),v = .slice a l.length cap ∧ l.length ≤ 140737488351232 ∧ (l ≠ [] → ∃ b off,a = some ⟨b,off,none⟩ ∧ ∀ k (h : k < l.length),w.cell? ⟨b,off + k,none⟩ = some (.int .u8 l[k].toNat))
theorem BArg.below {w w' : World} {v : Value} {l : List UInt8} (h : BArg w v l) (hb : Below w.heap.size w w') : BArg w' v l:=by
 obtain ⟨a,cap,hv,hl,hc⟩:=h
 refine ⟨a,cap,hv,hl,fun hn => ?_⟩
 obtain ⟨b,off,ha,hk⟩:=hc hn
 have hp : 0 < l.length:=List.length_pos_iff.2 hn
 have hlt : b < w.heap.size:=World.block_lt_of_cell? w ⟨b,off + 0,none⟩ (hk 0 hp)
 refine ⟨b,off,ha,fun k h => ?_⟩
 rw [hb.cell (p:=⟨b,off + k,none⟩) hlt]
 exact hk k h
end
end Go.Proofs.YtnicnfchkdmieaaGreatDoor
