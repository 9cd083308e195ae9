/- Tke Tkf Tkg -/
import Derived.Test.YtoohondkpddmcaaGreatDoorVad
import Derived.Laws.BitsAllLaws
import Derived.Laws.BitsLemmas
import Derived.IntWalk
set_option linter.unusedVariables false
set_option linter.unusedSimpArgs false
namespace Go.Proofs.YtoohondkpddmcaaGreatDoor
section
open Go.RowKit
attribute [local go_sem] ByteArray.mk_append_mk bs_get bs_cut bs_end
end
section
open Go.RowKit
attribute [local go_sem] ByteArray.mk_append_mk bs_get bs_cut bs_end
theorem hexV_lt {c : UInt8} {d : Nat} (h : hexV c = some d) : d < 16:=by
 have hc:=c.toNat_lt
 unfold hexV digitB at h
 split at h
 ·next h1 => injection h with h; simp at h1; omega
 ·split at h
  ·injection h with h; omega
  ·split at h
   ·injection h with h; omega
   ·cases h
def intPair (o : Option Nat) : Value:=.tuple #[.int .u64 (o.getD 0 : Nat),.bool o.isSome]
theorem hexF_yes {s : List UInt8} {k v d : Nat} (h : k < s.length) (hd : hexV s[k] = some d) : hexF (s.drop k) v = hexF (s.drop (k + 1)) (v * 16 + d):=by
 rw [List.drop_eq_getElem_cons h,hexF,hd]
theorem hexF_no {s : List UInt8} {k v : Nat} (h : k < s.length) (hd : hexV s[k] = none) : hexF (s.drop k) v = none:=by
 rw [List.drop_eq_getElem_cons h,hexF,hd]
theorem hexF_end {s : List UInt8} {k v : Nat} (h : s.length ≤ k) : hexF (s.drop k) v = some v:=by
 rw [List.drop_eq_nil_of_le h]; rfl
theorem or16 (v d : Nat) (hv : v < 1152921504606846976) (hd : d < 16) : bits .or .u64 ((v : Int) * 16) (d : Int) = ((v * 16 + d : Nat) : Int):=by
 have hc : ((v : Int) * 16) = ((v * 16 : Nat) : Int):=by rw [Int.natCast_mul]; rfl
 rw [hc,u64_or_nat _ _ (by omega) (by omega),nat_join 4 _ _ (by omega) (by omega)]
theorem pow16_le {k : Nat} (h : k < 16) : 16 ^ k ≤ 1152921504606846976:=by
 have : 16 ^ k ≤ 16 ^ 15:=Nat.pow_le_pow_right (by omega) (by omega)
 omega
set_option maxRecDepth 100000 in
set_option maxHeartbeats 2000000 in
theorem tInt_hex (d : List UInt8) (w : World) (hd : d.length ≤ 16) (h1 : 1 ≤ d.length) :
  Calls Tryz.prog 70 #[.string ⟨(48 :: 120 :: d).toArray⟩] w fun e w' => e = .returned (intPair (hexF d 0)) ∧ w = w':=by
 have HP:=Lib.hid (Tryz.strings_HasPrefix ⟨(48 :: 120 :: d).toArray⟩ ⟨#[48,120]⟩ w)
 rw [show Lib.hasPrefix (ByteArray.mk (48 :: 120 :: d).toArray).data.toList (ByteArray.mk #[48,120]).data.toList = true by simp [Lib.hasPrefix,List.isPrefixOf]] at HP
 obtain ⟨X,hX⟩ : ∃ X,Hid (hexF d 0 = X):=⟨_,Lib.hid rfl⟩
 rw [hX.out]
 have hz : ((d.length : Int) == 0) = false:=by rw [beq_eq_false_iff_ne]; omega
 go_enter Tryz.func70,Tryz.ntmps70
 go_wp2_with fail
 ((with_reducible refine HP.out.mono ?_))
 rintro e w2 ⟨rfl,rfl⟩
 clear HP
 go_wp2_with fail
 go_loop [26,5] (fun i v => ∃ k n : Nat,i = .int .i64 k ∧ v = .int .u64 n ∧ k ≤ d.length ∧ Hid (n < 16 ^ k) ∧ Hid (X = hexF (d.drop k) n)) (fun i v => d.length - (intOf i).toNat)
 case atStart => exact ⟨0,0,rfl,rfl,by omega,Lib.hid (by decide),Lib.hid hX.out.symm⟩
 case round =>
  obtain ⟨k,n,rfl,rfl,hk,HN,HX⟩:=hrel
  by_cases hl : k < d.length
  ·have HH:=Lib.hid (tHex_any d[k] w2)
   cases hv : hexV d[k] with
   | none =>
     have HX2 : Hid (X = none):=Lib.hid (by rw [HX.out]; exact hexF_no hl hv)
     rw [hv] at HH
     clear hv
     go_wp2_with fail
     ((with_reducible refine HH.out.mono ?_))
     rintro e w3 ⟨rfl,rfl⟩
     go_wp2_with fail
     refine bodyPost_ret (results_tmp2 rfl _ _ _) rfl ?_
     exact ⟨by rw [HX2.out]; rfl,rfl⟩
   | some x =>
     have hx:=hexV_lt hv
     have HX2 : Hid (X = hexF (d.drop (k + 1)) (n * 16 + x)):=Lib.hid (by rw [HX.out]; exact hexF_yes hl hv)
     rw [hv] at HH
     clear hv
     have hn : n < 1152921504606846976:=Nat.lt_of_lt_of_le HN.out (pow16_le (by omega))
     have hor:=or16 n x hn hx
     have HN2 : Hid (n * 16 + x < 16 ^ (k + 1)):=Lib.hid (by have:=HN.out; rw [Nat.pow_succ]; omega)
     go_wp2_with fail
     ((with_reducible refine HH.out.mono ?_))
     rintro e w3 ⟨rfl,rfl⟩
     simp only [Option.getD_some,Option.isSome_some]
     go_wp2_with fail
     go_round
     case rel => exact ⟨k + 1,n * 16 + x,by go_num,by go_num,by omega,HN2,HX2⟩
     case measure => simp [intOf]; omega
  ·have HX2 : Hid (X = some n):=Lib.hid (by rw [HX.out]; exact hexF_end (by omega))
   go_wp2_with fail
   refine bodyPost_ret (results_tmp2 rfl _ _ _) rfl ?_
   exact ⟨by rw [HX2.out]; rfl,rfl⟩
theorem decF_bad {s : List UInt8} {k v : Nat} (h : k < s.length) (hd : digitB s[k] = false) : decF (s.drop k) v = none:=by
 rw [List.drop_eq_getElem_cons h,decF,if_neg (by rw [hd]; decide)]
theorem decF_big {s : List UInt8} {k v : Nat} (h : k < s.length) (hd : digitB s[k] = true) (hb : (18446744073709551615 - (s[k].toNat - 48)) / 10 < v) : decF (s.drop k) v = none:=by
 rw [List.drop_eq_getElem_cons h,decF,if_pos hd,if_pos hb]
theorem decF_yes {s : List UInt8} {k v : Nat} (h : k < s.length) (hd : digitB s[k] = true) (hb : ¬ (18446744073709551615 - (s[k].toNat - 48)) / 10 < v) : decF (s.drop k) v = decF (s.drop (k + 1)) (v * 10 + (s[k].toNat - 48)):=by
 rw [List.drop_eq_getElem_cons h,decF,if_pos hd,if_neg hb]
theorem decF_end {s : List UInt8} {k v : Nat} (h : s.length ≤ k) : decF (s.drop k) v = some v:=by
 rw [List.drop_eq_nil_of_le h]; rfl
theorem digitB_range {c : UInt8} (h : digitB c = true) : 48 ≤ c.toNat ∧ c.toNat ≤ 57:=by unfold digitB at h; simpa using h
set_option maxRecDepth 100000 in
set_option maxHeartbeats 2000000 in
theorem tInt_dec (s : List UInt8) (w : World) (hs : s.length ≤ 9223372036854775000) (hp : Lib.hasPrefix s [48,120] = false) (h0 : s.length ≤ 1 ∨ s.head? ≠ some 48) :
  Calls Tryz.prog 70 #[.string ⟨s.toArray⟩] w fun e w' => e = .returned (intPair (decF s 0)) ∧ w = w':=by
 have HP:=Lib.hid (Tryz.strings_HasPrefix ⟨s.toArray⟩ ⟨#[48,120]⟩ w)
 rw [show Lib.hasPrefix (ByteArray.mk s.toArray).data.toList (ByteArray.mk #[48,120]).data.toList = false from hp] at HP
 obtain ⟨X,hX⟩ : ∃ X,Hid (decF s 0 = X):=⟨_,Lib.hid rfl⟩
 rw [hX.out]
 go_enter Tryz.func70,Tryz.ntmps70
 go_wp2_with fail
 ((with_reducible refine HP.out.mono ?_))
 rintro e w2 ⟨rfl,rfl⟩
 clear HP hp
 go_upto_region 15 with fail
 go_cut [52] (fun z wx => z = .bool false ∧ w2 = wx)
 case first =>
  by_cases h1 : s.length ≤ 1
  ·go_wp2_with fail
   go_meet
   exact ⟨rfl,rfl⟩
  ·have hh : (((s[0]'(by omega)).toNat : Int) == 48) = false:=by
    rw [show (48 : Int) = ((48 : UInt8).toNat : Int) from rfl,byte_eq,beq_eq_false_iff_ne]
    rcases h0 with h | h
    ·omega
    ·intro e
     apply h
     rw [List.head?_eq_getElem?,List.getElem?_eq_getElem (by omega),← e]
   go_wp2_with fail
   go_meet
   exact ⟨rfl,rfl⟩
 case rest =>
  obtain ⟨rfl,rfl⟩:=hcut
  clear h0
  go_wp2_with fail
  go_loop [55,9] (fun i v => ∃ (k : Nat) (V : Int),i = .int .i64 k ∧ v = .int .u64 V ∧ k ≤ s.length ∧ Hid (∃ n : Nat,V = n ∧ n ≤ 18446744073709551615 ∧ X = decF (s.drop k) n)) (fun i v => s.length - (intOf i).toNat)
  case atStart => exact ⟨0,0,rfl,rfl,by omega,Lib.hid ⟨0,rfl,by omega,hX.out.symm⟩⟩
  case round =>
   obtain ⟨k,V,rfl,rfl,hk,HX⟩:=hrel
   by_cases hl : k < s.length
   ·cases h1 : digitB s[k]
    ·have HX2 : Hid (X = none):=Lib.hid (by obtain ⟨n,_,_,h⟩:=HX.out; rw [h]; exact decF_bad hl h1)
     go_wp2_with (go_at_call 69; refine (tIsDigit_is _ _ h1 _).mono ?_; rintro e w' ⟨rfl,rfl⟩)
     refine bodyPost_ret (results_tmp2 rfl _ _ _) rfl ?_
     exact ⟨by rw [HX2.out]; rfl,rfl⟩
    ·obtain ⟨hd1,hd2⟩:=digitB_range h1
     obtain ⟨d,hd⟩ : ∃ d : Int,Hid ((s[k].toNat : Int) - 48 = d):=⟨_,Lib.hid rfl⟩
     have hdd : ((s[k].toNat : Int) - 48) = d:=hd.out
     have hd3 : 0 ≤ d:=by omega
     have hd4 : d ≤ 9:=by omega
     go_upto_region 24 with (go_at_call 69; refine (tIsDigit_is _ _ h1 _).mono ?_; rintro e w' ⟨rfl,rfl⟩)
     go_wp2_with fail
     ·next hov =>
      have HX2 : Hid (X = none):=Lib.hid (by obtain ⟨n,h1',h2,h3⟩:=HX.out; rw [h3]; exact decF_big hl h1 (by omega))
      refine bodyPost_ret (results_tmp2 rfl _ _ _) rfl ?_
      exact ⟨by rw [HX2.out]; rfl,rfl⟩
     ·next hov =>
      have HX2 : Hid (∃ n : Nat,V * 10 + d = n ∧ n ≤ 18446744073709551615 ∧ X = decF (s.drop (k + 1)) n):=Lib.hid (by
       obtain ⟨n,h1',h2,h3⟩:=HX.out
       have e:=decF_yes (v:=n) hl h1 (by omega)
       refine ⟨n * 10 + (s[k].toNat - 48),by omega,by omega,by rw [h3,e]⟩)
      have hV : 0 ≤ V:=by obtain ⟨n,h1',_⟩:=HX.out; omega
      have e1 : IntKind.u64.wrap (V * 10) = V * 10:=IntWalk.u64_in _ ⟨by omega,by omega⟩
      have e2 : IntKind.u64.wrap (V * 10 + d) = V * 10 + d:=IntWalk.u64_in _ ⟨by omega,by omega⟩
      rw [e1,e2]
      go_round
      case rel => exact ⟨k + 1,V * 10 + d,by go_num,rfl,by omega,HX2⟩
      case measure => simp [intOf]; omega
   ·have HX2 : Hid (∃ n : Nat,V = n ∧ X = some n):=Lib.hid (by obtain ⟨n,h1,h2,h3⟩:=HX.out; exact ⟨n,h1,by rw [h3]; exact decF_end (by omega)⟩)
    go_wp2_with fail
    refine bodyPost_ret (results_tmp2 rfl _ _ _) rfl ?_
    obtain ⟨n,h1,h2⟩:=HX2.out
    exact ⟨by rw [h2,h1]; rfl,rfl⟩
end
section
open Go.RowKit
attribute [local go_sem] ByteArray.mk_append_mk bs_get bs_cut bs_end
theorem intV_noPre {s : List UInt8} (hp : Lib.hasPrefix s [48,120] = false) (h0 : s.length ≤ 1 ∨ s.head? ≠ some 48) : intV s = decF s 0:=by
 unfold intV
 split
 ·cases hp
 ·rfl
 ·next t hn1 hn2 =>
  rcases h0 with h0 | h0
  ·have : t = []:=List.eq_nil_of_length_eq_zero (by simp only [List.length_cons] at h0; omega)
   subst this
   exact absurd rfl hn2
  ·exact absurd rfl h0
 ·rfl
theorem intV_zero {s : List UInt8} (hp : Lib.hasPrefix s [48,120] = false) (h1 : 1 < s.length) (h0 : s.head? = some 48) : intV s = none:=by
 unfold intV
 split
 ·cases hp
 ·simp at h1
 ·rfl
 ·next hn1 hn2 hn3 =>
  exfalso
  cases s with
  | nil => cases h0
  | cons c t =>
    simp at h0
    subst h0
    exact hn3 t rfl
set_option maxRecDepth 100000 in
set_option maxHeartbeats 2000000 in
theorem tInt_any (s : List UInt8) (w : World) (hs : s.length ≤ 9223372036854775000) :
  Calls Tryz.prog 70 #[.string ⟨s.toArray⟩] w fun e w' => e = .returned (intPair (intV s)) ∧ w = w':=by
 cases hp : Lib.hasPrefix s [48,120]
 ·by_cases h0 : s.length ≤ 1 ∨ s.head? ≠ some 48
  ·rw [intV_noPre hp h0]
   exact tInt_dec s w hs hp h0
  ·have h1 : 1 < s.length:=by omega
   have h2 : s.head? = some 48:=Classical.byContradiction fun h => h0 (.inr h)
   rw [intV_zero hp h1 h2]
   have hh : (((s[0]'(by omega)).toNat : Int) == 48) = true:=by
    rw [show (48 : Int) = ((48 : UInt8).toNat : Int) from rfl,byte_eq,beq_iff_eq]
    rw [List.head?_eq_getElem?,List.getElem?_eq_getElem (by omega)] at h2
    injection h2 with h2
    exact h2.symm
   have HP:=Lib.hid (Tryz.strings_HasPrefix ⟨s.toArray⟩ ⟨#[48,120]⟩ w)
   rw [show Lib.hasPrefix (ByteArray.mk s.toArray).data.toList (ByteArray.mk #[48,120]).data.toList = false from hp] at HP
   go_enter Tryz.func70,Tryz.ntmps70
   go_wp2_with fail
   ((with_reducible refine HP.out.mono ?_))
   rintro e w2 ⟨rfl,rfl⟩
   clear HP hp h2
   go_wp2_with fail
   refine bodyPost_ret (results_tmp2 rfl _ _ _) rfl ?_
   exact ⟨rfl,rfl⟩
 ·obtain ⟨d,rfl⟩ : ∃ d,s = 48 :: 120 :: d:=by
   cases s with
   | nil => cases hp
   | cons a t => cases t with
     | nil => simp [Lib.hasPrefix,List.isPrefixOf] at hp
     | cons b d =>
       simp [Lib.hasPrefix,List.isPrefixOf] at hp
       exact ⟨d,by rw [← hp.1,← hp.2]⟩
  by_cases hd : 1 ≤ d.length ∧ d.length ≤ 16
  ·have e : intV (48 :: 120 :: d) = hexF d 0:=by
    rw [intV,if_neg]
    rintro (h | h)
    ·subst h; simp at hd
    ·omega
   rw [e]
   exact tInt_hex d w hd.2 hd.1
  ·have e : intV (48 :: 120 :: d) = none:=by
    rw [intV,if_pos]
    rcases Nat.lt_or_ge d.length 1 with h | h
    ·exact .inl (List.eq_nil_of_length_eq_zero (by omega))
    ·exact .inr (by omega)
   rw [e]
   have HP:=Lib.hid (Tryz.strings_HasPrefix ⟨(48 :: 120 :: d).toArray⟩ ⟨#[48,120]⟩ w)
   rw [show Lib.hasPrefix (ByteArray.mk (48 :: 120 :: d).toArray).data.toList (ByteArray.mk #[48,120]).data.toList = true from hp] at HP
   by_cases h0 : d.length = 0
   ·have hd0 : d = []:=List.eq_nil_of_length_eq_zero h0
    subst hd0
    go_enter Tryz.func70,Tryz.ntmps70
    go_wp2_with fail
    ((with_reducible refine HP.out.mono ?_))
    rintro e w2 ⟨rfl,rfl⟩
    clear HP hp
    go_wp2_with fail
    refine bodyPost_ret (results_tmp2 rfl _ _ _) rfl ?_
    exact ⟨rfl,rfl⟩
   ·have h16 : 16 < d.length:=by omega
    have hz : ((d.length : Int) == 0) = false:=by rw [beq_eq_false_iff_ne]; omega
    clear h0 hd
    go_enter Tryz.func70,Tryz.ntmps70
    go_wp2_with fail
    ((with_reducible refine HP.out.mono ?_))
    rintro e w2 ⟨rfl,rfl⟩
    clear HP hp
    go_wp2_with fail
    refine bodyPost_ret (results_tmp2 rfl _ _ _) rfl ?_
    exact ⟨rfl,rfl⟩
end
end Go.Proofs.YtoohondkpddmcaaGreatDoor
