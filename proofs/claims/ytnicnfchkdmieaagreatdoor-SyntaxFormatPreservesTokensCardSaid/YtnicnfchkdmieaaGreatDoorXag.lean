/- Tkk Tkl -/
import Derived.Test.YtnicnfchkdmieaaGreatDoorXae
import Derived.Test.YtnicnfchkdmieaaGreatDoorXaf
set_option linter.unusedVariables false
set_option linter.unusedSimpArgs false
namespace Go.Proofs.YtnicnfchkdmieaaGreatDoor
section
open Go.RowKit
attribute [local go_sem] ByteArray.mk_append_mk bs_get bs_cut bs_end by_conv1
def textPair (o : Option (List UInt8 × List UInt8)) (n : Nat) : Value:=match o with
 | some (v,r) => .tuple #[.string ⟨v.toArray⟩,.int .i64 ((n - r.length : Nat) : Int)]
 | none => .tuple #[.string ⟨#[]⟩,.int .i64 (-1)]
theorem or16i (a b : Nat) (ha : a < 16) (hb : b < 16) : bits .or .i64 ((a : Int) * 16) (b : Int) = ((a * 16 + b : Nat) : Int):=by
 have : ∀ a : Fin 16,∀ b : Fin 16,bits .or .i64 (((a : Nat) : Int) * 16) ((b : Nat) : Int) = (((a : Nat) * 16 + (b : Nat) : Nat) : Int):=by decide +kernel
 exact this ⟨a,ha⟩ ⟨b,hb⟩
theorem by_conv1d (w : World) (x : Int) : Sem.run Tryz.prog (convert 22 9 (.slice (some ⟨w.heap.size,0,none⟩) 1 1)) (w.alloc (.cells #[.int .u8 x] 5)).drew = .ok (.string ⟨[UInt8.ofNat x.toNat].toArray⟩) (w.alloc (.cells #[.int .u8 x] 5)).drew:=by
 rw [run_convert_bytes_string _ 22 9 5 _ _ _ Tryz.underlying22 Tryz.underlying5 Tryz.underlying9]
 rw [run_bytesToString _ _ 1 1 [x] (by simp [loadCells,go_sem])]
 rfl
attribute [local go_sem] by_conv1d
theorem idx_is (s : List UInt8) (k : Nat) (h : k < s.length) (i : Int) (hi : i = k) (w : World) : (Instr.index 9 (.string ⟨s.toArray⟩) (.int .i64 i)).run Tryz.prog w = .ok (.int .u8 s[k].toNat) w:=by
 subst hi
 rw [run_index_string _ _ _ _ _ Tryz.underlying9,dif_pos ⟨by omega,by rw [ByteArray.size_mk',List.size_toArray]; omega⟩]
 rfl
theorem text_pair {s l : List UInt8} {p : Nat} (h : p < s.length) (hc : s[p] = 92) (h1 : p + 1 < s.length) (h2 : s[p + 1] = 34 ∨ s[p + 1] = 92) : textF (s.drop p) l = textF (s.drop (p + 2)) (l ++ [s[p + 1]]):=by
 rw [textF_at h,hc,List.drop_eq_getElem_cons h1,textF_escGo]
 rcases h2 with h2 | h2 <;> rw [h2] <;> rfl
theorem text_hex {s l : List UInt8} {p : Nat} (h : p < s.length) (hc : s[p] = 92) (h3 : p + 3 < s.length) (h2 : s[p + 1] = 120) {a b : Nat} (ha : hexV s[p + 2] = some a) (hb : hexV s[p + 3] = some b) : textF (s.drop p) l = textF (s.drop (p + 4)) (l ++ [UInt8.ofNat (a * 16 + b)]):=by
 rw [textF_at h,hc,List.drop_eq_getElem_cons (i:=p + 1) (by omega),List.drop_eq_getElem_cons (i:=p + 1 + 1) (by omega),List.drop_eq_getElem_cons (i:=p + 1 + 1 + 1) (by omega),textF_escGo,h2,escL_hex]
 rw [show s[p + 1 + 1] = s[p + 2] from rfl,show s[p + 1 + 1 + 1] = s[p + 3] from rfl,ha,hb]
 rfl
theorem text_none {s l : List UInt8} {p : Nat} (h : p < s.length) (hc : s[p] = 92) (h1 : ∀ h1 : p + 1 < s.length,s[p + 1] ≠ 34 ∧ s[p + 1] ≠ 92)
  (h2 : ∀ h3 : p + 3 < s.length,s[p + 1] = 120 → hexV s[p + 2] = none ∨ hexV s[p + 3] = none) : textF (s.drop p) l = none:=by
 rw [textF_at h,hc,textF_escGo]
 by_cases k1 : p + 1 < s.length
 ·obtain ⟨n1,n2⟩:=h1 k1
  rw [List.drop_eq_getElem_cons k1]
  by_cases k2 : s[p + 1] = 120
  ·rw [k2]
   by_cases k3 : p + 3 < s.length
   ·rw [List.drop_eq_getElem_cons (i:=p + 1 + 1) (by omega),List.drop_eq_getElem_cons (i:=p + 1 + 1 + 1) (by omega),escL_hex]
    rw [show s[p + 1 + 1] = s[p + 2] from rfl,show s[p + 1 + 1 + 1] = s[p + 3] from rfl]
    rcases h2 k3 k2 with e | e
    ·rw [e]; rfl
    ·rw [e]; cases hexV s[p + 2] <;> rfl
   ·rw [escL_short (by rw [List.length_drop]; omega)]; rfl
  ·rw [escL_other n1 n2 k2]; rfl
 ·rw [List.drop_eq_nil_of_le (by omega)]; rfl
set_option maxRecDepth 100000 in
set_option maxHeartbeats 8000000 in
theorem rText_any (s : List UInt8) (p0 : Nat) (w : World) (hs : s.length ≤ 4611686018427380000) (h1 : p0 < s.length) :
  Calls Tryz.prog 57 #[.string ⟨s.toArray⟩,.int .i64 p0] w fun e w' => e = .returned (textPair (textF (s.drop (p0 + 1)) []) s.length) ∧ Below w.heap.size w w':=by
 obtain ⟨X,hX⟩ : ∃ X,Hid (textF (s.drop (p0 + 1)) [] = X):=⟨_,Lib.hid rfl⟩
 rw [hX.out]
 go_enter Tryz.func57,Tryz.ntmps57
 go_wp2_with fail
 go_loopw [1,6] (fun i v wr => ∃ (p : Nat) (l : List UInt8),i = .int .i64 p ∧ v = .string ⟨l.toArray⟩ ∧ p ≤ s.length ∧ l.length ≤ p ∧ Hid (X = textF (s.drop p) l) ∧ Hid (Below w.heap.size w wr)) (fun i _ _ => s.length - (intOf i).toNat)
 case atStart => exact ⟨p0 + 1,[],by go_num,rfl,by omega,by simp,Lib.hid hX.out.symm,Lib.hid (Below.refl _ _)⟩
 case round =>
  obtain ⟨p,l,rfl,rfl,hp,hl,HX,HB⟩:=hrel
  obtain ⟨w1,rfl⟩ : ∃ x : World,x = wr:=⟨_,rfl⟩
  by_cases hlt : p < s.length
  ·have HT:=Lib.hid (textF_at hlt l)
   have H34:=Lib.hid (byte_cases s[p] 34 34 rfl)
   have H92:=Lib.hid (byte_cases s[p] 92 92 rfl)
   have HC:=Lib.hid (fun (h1 : s[p] ≠ 34) (h2 : s[p] ≠ 92) => (textF_plain (r:=s.drop (p + 1)) (v:=l) h1 h2))
   rcases H34.out with ⟨e1,h34⟩ | ⟨e1,h34⟩
   ·have HX2 : Hid (X = if 255 < l.length then none else some (l,s.drop (p + 1))):=Lib.hid (by rw [HX.out,HT.out,e1,textF_quote])
    clear e1 H34 H92 HC HT
    by_cases h255 : (255 : Int) < (l.length : Int)
    ·go_wp2_with fail
     refine bodyPost_ret (results_tmp2 rfl _ _ _) rfl ?_
     exact ⟨by rw [HX2.out,if_pos (by omega)]; rfl,HB.out⟩
    ·go_wp2_with fail
     refine bodyPost_ret (results_tmp2 rfl _ _ _) rfl ?_
     refine ⟨?_,HB.out⟩
     rw [HX2.out,if_neg (by omega)]
     unfold textPair
     simp only [List.length_drop]
     rw [show s.length - (s.length - (p + 1)) = p + 1 by omega]
     rfl
   rcases H92.out with ⟨e2,h92⟩ | ⟨e2,h92⟩
   ·have hge : (32 : Int) ≤ (s[p].toNat : Int):=by rw [e2]; decide
    have hle : (s[p].toNat : Int) ≤ 126:=by rw [e2]; decide
    have hne : ((s[p].toNat : Int) != 92) = false:=by rw [bne,h92]; rfl
    obtain ⟨b1,hb1⟩ : ∃ b1 : Bool,Hid (b1 = decide (∃ h : p + 1 < s.length,s[p + 1] = 34 ∨ s[p + 1] = 92)):=⟨_,Lib.hid rfl⟩
    have HP : Hid (b1 = true → ∀ h : p + 1 < s.length,X = textF (s.drop (p + 2)) (l ++ [s[p + 1]])):=Lib.hid (fun h h' => by
     rw [hb1.out,decide_eq_true_eq] at h
     obtain ⟨_,h⟩:=h
     rw [HX.out]; exact text_pair hlt e2 h' h)
    have HH : Hid (∀ h3 : p + 3 < s.length,s[p + 1] = 120 → ∀ a b,hexV s[p + 2] = some a → hexV s[p + 3] = some b → X = textF (s.drop (p + 4)) (l ++ [UInt8.ofNat (a * 16 + b)])):=Lib.hid (fun h3 h4 a b ha hb => by
     rw [HX.out]; exact text_hex hlt e2 h3 h4 ha hb)
    have HN : Hid (b1 = false → (∀ h3 : p + 3 < s.length,s[p + 1] = 120 → hexV s[p + 2] = none ∨ hexV s[p + 3] = none) → X = none):=Lib.hid (fun h h3 => by
     rw [hb1.out,decide_eq_false_iff_not] at h
     rw [HX.out]
     exact text_none hlt e2 (fun h' => ⟨fun e => h ⟨h',.inl e⟩,fun e => h ⟨h',.inr e⟩⟩) h3)
    have hb2 : Hid (b1 = true → p + 1 < s.length):=Lib.hid (fun h => by
     rw [hb1.out,decide_eq_true_eq] at h
     exact h.1)
    clear e1 e2 H34 H92 HC HT HX
    go_upto_region 15 with fail
    go_cut [43] (fun z wx => z = .bool b1 ∧ w1 = wx)
    case first =>
     by_cases k1 : (p : Int) + 1 < (s.length : Int)
     ·have k1' : p + 1 < s.length:=by omega
      have J34:=Lib.hid (byte_cases s[p + 1] 34 34 rfl)
      have J92:=Lib.hid (byte_cases s[p + 1] 92 92 rfl)
      rcases J34.out with ⟨g1,g34⟩ | ⟨g1,g34⟩
      ·have hb : Hid (b1 = true):=Lib.hid (by rw [hb1.out,decide_eq_true_eq]; exact ⟨k1',.inl g1⟩)
       clear g1
       go_wp2_with fail
       go_meet
       exact ⟨by rw [hb.out],rfl⟩
      ·rcases J92.out with ⟨g2,g92⟩ | ⟨g2,g92⟩
       ·have hb : Hid (b1 = true):=Lib.hid (by rw [hb1.out,decide_eq_true_eq]; exact ⟨k1',.inr g2⟩)
        clear g1 g2
        go_wp2_with fail
        go_meet
        exact ⟨by rw [hb.out],rfl⟩
       ·have hb : Hid (b1 = false):=Lib.hid (by rw [hb1.out,decide_eq_false_iff_not]; rintro ⟨_,h | h⟩; exact g1 h; exact g2 h)
        clear g1 g2
        go_wp2_with fail
        go_meet
        exact ⟨by rw [hb.out],rfl⟩
     ·have hb : Hid (b1 = false):=Lib.hid (by rw [hb1.out,decide_eq_false_iff_not]; rintro ⟨h,_⟩; omega)
      go_wp2_with fail
      go_meet
      exact ⟨by rw [hb.out],rfl⟩
    case rest =>
     obtain ⟨rfl,rfl⟩:=hcut
     clear hb1
     cases b1
     ·have HN2:=Lib.hid (HN.out rfl)
      clear HN HP hb2
      obtain ⟨o2,ho2⟩ : ∃ o : Nat → Option Nat,Hid (∀ h : p + 2 < s.length,hexV s[p + 2] = o 0):=⟨fun _ => if h : p + 2 < s.length then hexV s[p + 2] else none,Lib.hid fun h => by rw [dif_pos h]⟩
      obtain ⟨o3,ho3⟩ : ∃ o : Nat → Option Nat,Hid (∀ h : p + 3 < s.length,hexV s[p + 3] = o 0):=⟨fun _ => if h : p + 3 < s.length then hexV s[p + 3] else none,Lib.hid fun h => by rw [dif_pos h]⟩
      obtain ⟨q2,hq2⟩ : ∃ q,o2 0 = q:=⟨_,rfl⟩
      obtain ⟨q3,hq3⟩ : ∃ q,o3 0 = q:=⟨_,rfl⟩
      rw [hq2] at ho2
      rw [hq3] at ho3
      clear hq2 hq3 o2 o3
      obtain ⟨b2,hb2⟩ : ∃ b2 : Bool,Hid (b2 = decide (∃ h : p + 3 < s.length,s[p + 1] = 120 ∧ q2.isSome = true ∧ q3.isSome = true)):=⟨_,Lib.hid rfl⟩
      go_upto_region 18 with fail
      go_cut [72] (fun z wx => z = .bool b2 ∧ w1 = wx)
      case first =>
       by_cases k3 : (p : Int) + 3 < (s.length : Int)
       ·have k3' : p + 3 < s.length:=by omega
        have k2' : p + 2 < s.length:=by omega
        have k1' : p + 1 < s.length:=by omega
        have J120:=Lib.hid (byte_cases s[p + 1] 120 120 rfl)
        have K2:=Lib.hid (rHex_any s[p + 2] w1)
        have K3:=Lib.hid (rHex_any s[p + 3] w1)
        rcases J120.out with ⟨g1,g120⟩ | ⟨g1,g120⟩
        ·have hb : Hid (b2 = (q2.isSome && q3.isSome)):=Lib.hid (by
          rw [hb2.out,Bool.eq_iff_iff,decide_eq_true_eq,Bool.and_eq_true]
          exact ⟨fun ⟨_,_,h⟩ => h,fun h => ⟨k3',g1,h⟩⟩)
         clear g1
         cases q2 with
         | none =>
           rw [hexI_none (ho2.out k2')] at K2
           go_wp2_with fail
           ((with_reducible refine K2.out.mono ?_))
           rintro e w2 ⟨rfl,rfl⟩
           go_wp2_with fail
           go_meet
           exact ⟨by rw [hb.out]; rfl,rfl⟩
         | some x =>
           rw [hexI_some (ho2.out k2')] at K2
           cases q3 with
           | none =>
             rw [hexI_none (ho3.out k3')] at K3
             go_wp2_with fail
             ((with_reducible refine K2.out.mono ?_))
             rintro e w2 ⟨rfl,rfl⟩
             go_wp2_with fail
             ((with_reducible refine K3.out.mono ?_))
             rintro e w2 ⟨rfl,rfl⟩
             go_wp2_with fail
             go_meet
             exact ⟨by rw [hb.out]; rfl,rfl⟩
           | some y =>
             rw [hexI_some (ho3.out k3')] at K3
             go_wp2_with fail
             ((with_reducible refine K2.out.mono ?_))
             rintro e w2 ⟨rfl,rfl⟩
             go_wp2_with fail
             ((with_reducible refine K3.out.mono ?_))
             rintro e w2 ⟨rfl,rfl⟩
             go_wp2_with fail
             go_meet
             exact ⟨by rw [hb.out]; rfl,rfl⟩
        ·have hb : Hid (b2 = false):=Lib.hid (by rw [hb2.out,decide_eq_false_iff_not]; rintro ⟨_,h,_⟩; exact g1 h)
         clear g1
         go_wp2_with fail
         go_meet
         exact ⟨by rw [hb.out],rfl⟩
       ·have hb : Hid (b2 = false):=Lib.hid (by rw [hb2.out,decide_eq_false_iff_not]; rintro ⟨h,_⟩; omega)
        go_wp2_with fail
        go_meet
        exact ⟨by rw [hb.out],rfl⟩
      case rest =>
       obtain ⟨rfl,rfl⟩:=hcut
       cases b2
       ·have HX2 : Hid (X = none):=Lib.hid (HN2.out fun h3 h4 => by
         have:=hb2.out
         rw [eq_comm,decide_eq_false_iff_not] at this
         rw [ho2.out (by omega),ho3.out h3]
         cases q2 with
         | none => exact .inl rfl
         | some x => cases q3 with
           | none => exact .inr rfl
           | some y => exact absurd ⟨h3,h4,rfl,rfl⟩ this)
        clear HN2 HH hb2 ho2 ho3
        go_wp2_with fail
        refine bodyPost_ret (results_tmp2 rfl _ _ _) rfl ?_
        exact ⟨by rw [HX2.out]; rfl,HB.out⟩
       ·obtain ⟨k3',g1,g2,g3⟩ : ∃ h : p + 3 < s.length,s[p + 1] = 120 ∧ q2.isSome = true ∧ q3.isSome = true:=by
         have:=hb2.out
         rw [eq_comm,decide_eq_true_eq] at this
         exact this
        cases q2 with
        | none => cases g2
        | some x =>
          cases q3 with
          | none => cases g3
          | some y =>
            have k2' : p + 2 < s.length:=by omega
            have HX2:=Lib.hid (HH.out k3' g1 x y (ho2.out k2') (ho3.out k3'))
            have hx:=hexV_lt (ho2.out k2')
            have hy:=hexV_lt (ho3.out k3')
            have K2:=Lib.hid (rHex_any s[p + 2])
            rw [hexI_some (ho2.out k2')] at K2
            have K3:=Lib.hid (rHex_any s[p + 3])
            rw [hexI_some (ho3.out k3')] at K3
            have hor:=or16i x y hx hy
            have hlim : x * 16 + y < 256:=by omega
            have i2:=idx_is s (p + 2) k2' ((p : Int) + 2) (by omega)
            have i3:=idx_is s (p + 3) k3' ((p : Int) + 3) (by omega)
            clear HN2 HH hb2 ho2 ho3 g1 g2 g3
            go_upto_region 19 with fail
            refine wp_region_plan (Grows _) 17 [.reads [0,1,2,3,4,7,8,9,10],.act 5,.reads [6],.act 11,.reads [12,13],.act 14,.act 15,.act 16,.act 17] (by kernel_rfl) (by kernel_rfl) (by kernel_rfl) (by kernel_rfl) (by kernel_rfl) (fun _ _ d _ _ h => by cases d <;> exact h) (Grows.self _) ?_
            refine wpPlan_reads ?_
            simp only [pickOps,List.drop_succ_cons,List.drop_zero,List.take_succ_cons,List.take_zero,List.cons_append,List.nil_append]
            repeat (go_big_quiet_step (fail))
            refine wpQuiet_nil ?_
            refine wpPlan_act rfl ?_
            simp only [pickOps,List.drop_succ_cons,List.drop_zero,List.take_succ_cons,List.take_zero,List.cons_append,List.nil_append]
            go_wp2_with fail
            ((with_reducible refine (K2.out _).mono ?_))
            rintro e w2 ⟨rfl,rfl⟩
            go_wp2_with fail
            refine ⟨fun _ => (Grows.self _),?_⟩
            refine wpPlan_reads ?_
            simp only [pickOps,List.drop_succ_cons,List.drop_zero,List.take_succ_cons,List.take_zero,List.cons_append,List.nil_append]
            repeat (go_big_quiet_step (fail))
            refine wpQuiet_nil ?_
            refine wpPlan_act rfl ?_
            simp only [pickOps,List.drop_succ_cons,List.drop_zero,List.take_succ_cons,List.take_zero,List.cons_append,List.nil_append]
            go_wp2_with fail
            ((with_reducible refine (K3.out _).mono ?_))
            rintro e w2 ⟨rfl,rfl⟩
            go_wp2_with fail
            refine ⟨fun _ => (Grows.self _),?_⟩
            refine wpPlan_reads ?_
            simp only [pickOps,List.drop_succ_cons,List.drop_zero,List.take_succ_cons,List.take_zero,List.cons_append,List.nil_append]
            repeat (go_big_quiet_step (fail))
            refine wpQuiet_nil ?_
            have HG:=Lib.hid ((Grows.self w1).trans ((Below.refl _ _).alloc (Nat.le_refl _) (.cells #[.int .u8 ((x : Int) * 16 + y)] 5)))
            refine wpPlan_act rfl ?_
            simp only [pickOps,List.drop_succ_cons,List.drop_zero,List.take_succ_cons,List.take_zero,List.cons_append,List.nil_append]
            go_wp2_with fail
            refine ⟨fun _ => HG.out,?_⟩
            refine wpPlan_act rfl ?_
            simp only [pickOps,List.drop_succ_cons,List.drop_zero,List.take_succ_cons,List.take_zero,List.cons_append,List.nil_append]
            go_wp2_with fail
            refine ⟨fun _ => HG.out,?_⟩
            refine wpPlan_act rfl ?_
            simp only [pickOps,List.drop_succ_cons,List.drop_zero,List.take_succ_cons,List.take_zero,List.cons_append,List.nil_append]
            go_wp2_with fail
            refine ⟨fun _ => HG.out,?_⟩
            refine wpPlan_act rfl ?_
            simp only [pickOps,List.drop_succ_cons,List.drop_zero,List.take_succ_cons,List.take_zero,List.cons_append,List.nil_append]
            go_wp2_with fail
            refine ⟨fun h => absurd h (by decide),?_⟩
            refine wpPlan_nil ?_
            go_wp2_with fail
            go_roundw
            case rel => exact ⟨p + 4,l ++ [UInt8.ofNat (x * 16 + y)],by go_num,by simp,by omega,by rw [List.length_append]; simp; omega,HX2,Lib.hid (HB.out.trans (HG.out.mono HB.out.size))⟩
            case measure => simp [intOf]; omega
     ·have k1':=hb2.out rfl
      have HX2:=Lib.hid (HP.out rfl k1')
      clear HN HP HH hb2
      go_wp2_with fail
      go_roundw
      case rel => exact ⟨p + 2,l ++ [s[p + 1]],by go_num,by simp,by omega,by rw [List.length_append]; simp; omega,HX2,Lib.hid (HB.out.alloc HB.out.size _)⟩
      case measure => simp [intOf]; omega
   ·have HX2:=Lib.hid (HC.out e1 e2)
    have hne : ((s[p].toNat : Int) != 92) = true:=by rw [bne,h92]; rfl
    clear e1 e2 H34 H92 HC
    have hc:=s[p].toNat_lt
    by_cases h3 : (32 : Int) ≤ (s[p].toNat : Int)
    ·by_cases h4 : (s[p].toNat : Int) ≤ 126
     ·have HX3 : Hid (X = textF (s.drop (p + 1)) (l ++ [s[p]])):=Lib.hid (by rw [HX.out,HT.out,HX2.out,if_pos (by omega)])
      clear HT HX HX2
      go_wp2_with fail
      go_roundw
      case rel => exact ⟨p + 1,l ++ [s[p]],by go_num,by simp,by omega,by rw [List.length_append]; simp; omega,HX3,Lib.hid (HB.out.alloc HB.out.size _)⟩
      case measure => simp [intOf]; omega
     ·have HX3 : Hid (X = none):=Lib.hid (by rw [HX.out,HT.out,HX2.out,if_neg (by omega)])
      clear HT HX HX2
      go_wp2_with fail
      refine bodyPost_ret (results_tmp2 rfl _ _ _) rfl ?_
      exact ⟨by rw [HX3.out]; rfl,HB.out⟩
    ·have HX3 : Hid (X = none):=Lib.hid (by rw [HX.out,HT.out,HX2.out,if_neg (by omega)])
     clear HT HX HX2
     go_wp2_with fail
     refine bodyPost_ret (results_tmp2 rfl _ _ _) rfl ?_
     exact ⟨by rw [HX3.out]; rfl,HB.out⟩
  ·have HX3 : Hid (X = none):=Lib.hid (by rw [HX.out]; exact textF_end (by omega))
   clear HX
   go_wp2_with fail
   refine bodyPost_ret (results_tmp2 rfl _ _ _) rfl ?_
   exact ⟨by rw [HX3.out]; rfl,HB.out⟩
end
section
open Go.RowKit
attribute [local go_sem] ByteArray.mk_append_mk bs_get bs_cut bs_end
theorem dropLine : ∀ l : List UInt8,(Lib.indexByte l 10 = -1 ∧ l.dropWhile (· != 10) = []) ∨ ∃ n : Nat,Lib.indexByte l 10 = n ∧ n < l.length ∧ l.dropWhile (· != 10) = l.drop n
 | [] => .inl ⟨rfl,rfl⟩
 | b :: l => by
   unfold Lib.indexByte
   by_cases h : b = 10
   ·subst h
    exact .inr ⟨0,rfl,by simp,rfl⟩
   ·have h1 : (b == 10) = false:=by rw [beq_eq_false_iff_ne]; exact h
    have h2 : (b :: l).dropWhile (· != 10) = l.dropWhile (· != 10):=by
     rw [List.dropWhile_cons,if_pos (by rw [bne,h1] <;> rfl)]
    rw [h1,h2]
    rcases dropLine l with ⟨e1,e2⟩ | ⟨n,e1,e2,e3⟩
    ·left; rw [e1]; exact ⟨rfl,e2⟩
    ·right
     refine ⟨n + 1,?_,by simp; omega,by rw [e3]; rfl⟩
     rw [e1]
     have : ((n : Int) == -1) = false:=by rw [beq_eq_false_iff_ne]; omega
     rw [this]; rfl
theorem line_pos {r : List UInt8} {n : Nat} (h : (47 :: r : List UInt8).dropWhile (· != 10) = (47 :: r : List UInt8).drop n) : 1 ≤ n:=by
 cases n with
 | zero =>
   exfalso
   rw [List.dropWhile_cons,if_pos (by decide),List.drop_zero] at h
   have:=(List.dropWhile_sublist (l:=r) (· != (10 : UInt8))).length_le
   rw [h,List.length_cons] at this
   omega
 | succ n => omega
theorem closeAt : ∀ l : List UInt8,(Lib.index l [42,47] = -1 ∧ closeL l = none) ∨ ∃ n : Nat,Lib.index l [42,47] = n ∧ n + 2 ≤ l.length ∧ closeL l = some (l.drop (n + 2))
 | [] => .inl ⟨rfl,rfl⟩
 | b :: l => by
   unfold Lib.index
   by_cases h : ([42,47] : List UInt8).isPrefixOf (b :: l) = true
   ·obtain ⟨r,rfl,rfl⟩ : ∃ r,b = 42 ∧ l = 47 :: r:=by
     cases l with
     | nil => simp [List.isPrefixOf] at h
     | cons c r =>
       simp [List.isPrefixOf] at h
       exact ⟨r,h.1.symm,by rw [← h.2]⟩
    exact .inr ⟨0,rfl,by simp,rfl⟩
   ·have hc : closeL (b :: l) = closeL l:=by
     rw [closeL]
     intro r h1 h2
     subst h1 h2
     exact h rfl
    rw [if_neg h,hc]
    rcases closeAt l with ⟨e1,e2⟩ | ⟨n,e1,e2,e3⟩
    ·left; rw [e1]; exact ⟨rfl,e2⟩
    ·right
     refine ⟨n + 1,?_,by simp; omega,by rw [e3]; rfl⟩
     rw [e1]
     have : ((n : Int) == -1) = false:=by rw [beq_eq_false_iff_ne]; omega
     rw [this]; rfl
theorem blank_yes {c : UInt8} (h : blankB c = true) : ((c.toNat : Int) == 32) = true ∨ (((c.toNat : Int) == 32) = false ∧ ((c.toNat : Int) == 9) = true) ∨ (((c.toNat : Int) == 32) = false ∧ ((c.toNat : Int) == 9) = false ∧ ((c.toNat : Int) == 13) = true) ∨ (((c.toNat : Int) == 32) = false ∧ ((c.toNat : Int) == 9) = false ∧ ((c.toNat : Int) == 13) = false ∧ ((c.toNat : Int) == 10) = true):=by
 unfold blankB at h
 simp only [Bool.or_eq_true,beq_iff_eq] at h
 rcases h with ((rfl | rfl) | rfl) | rfl
 ·left; rfl
 ·right; left; exact ⟨rfl,rfl⟩
 ·right; right; left; exact ⟨rfl,rfl,rfl⟩
 ·right; right; right; exact ⟨rfl,rfl,rfl,rfl⟩
theorem blank_no {c : UInt8} (h : blankB c = false) : ((c.toNat : Int) == 32) = false ∧ ((c.toNat : Int) == 9) = false ∧ ((c.toNat : Int) == 13) = false ∧ ((c.toNat : Int) == 10) = false:=by
 unfold blankB at h
 simp only [Bool.or_eq_false_iff,beq_eq_false_iff_ne] at h
 obtain ⟨⟨⟨h1,h2⟩,h3⟩,h4⟩:=h
 refine ⟨?_,?_,?_,?_⟩
 ·exact ((byte_cases c 32 32 rfl).resolve_left fun h => h1 h.1).2
 ·exact ((byte_cases c 9 9 rfl).resolve_left fun h => h2 h.1).2
 ·exact ((byte_cases c 13 13 rfl).resolve_left fun h => h3 h.1).2
 ·exact ((byte_cases c 10 10 rfl).resolve_left fun h => h4 h.1).2
theorem pre2 {c a b : UInt8} {t : List UInt8} (h : Lib.hasPrefix (c :: t) [a,b] = true) : c = a ∧ ∃ r,t = b :: r:=by
 cases t with
 | nil => simp [Lib.hasPrefix,List.isPrefixOf] at h
 | cons d r =>
   simp [Lib.hasPrefix,List.isPrefixOf] at h
   exact ⟨h.1.symm,r,by rw [← h.2]⟩
theorem pre2_no {c a b : UInt8} {t r : List UInt8} (h : Lib.hasPrefix (c :: t) [a,b] = false) (h1 : c = a) : t ≠ b :: r:=by
 rintro rfl
 subst h1
 simp [Lib.hasPrefix,List.isPrefixOf] at h
def skipTup (n : Nat) (x : List UInt8 × Bool) : Value:=.tuple #[.int .i64 ((n - x.1.length : Nat) : Int),.bool x.2]
set_option maxRecDepth 100000 in
set_option maxHeartbeats 8000000 in
theorem tSkip_any (s : List UInt8) (p0 : Nat) (m : Int) (w : World) (hs : s.length ≤ 65536) (h0 : p0 ≤ s.length) (hm : w.cell? ⟨3,0,none⟩ = some (.int .i64 m)) :
  Calls Tryz.prog 48 #[.string ⟨s.toArray⟩,.int .i64 p0] w fun e w' => e = .returned (skipTup s.length (skipL (s.drop p0))) ∧ w = w':=by
 obtain ⟨X,hX⟩ : ∃ X,Hid (skipL (s.drop p0) = X):=⟨_,Lib.hid rfl⟩
 rw [hX.out]
 have hs' : s.length ≤ 9223372036854775000:=by omega
 have HM:=Lib.hid hm
 have HS:=Lib.hid hs
 clear hm hs
 go_enter Tryz.func48,Tryz.ntmps48
 go_wp2_with fail
 go_loop [1] (fun i => ∃ p : Nat,i = .int .i64 p ∧ p ≤ s.length ∧ Hid (X = skipL (s.drop p))) (fun i => s.length - (intOf i).toNat)
 case atStart => exact ⟨p0,rfl,h0,Lib.hid hX.out.symm⟩
 case round =>
  obtain ⟨p,rfl,hp,HX⟩:=hrel
  by_cases hlt : p < s.length
  ·obtain ⟨c,t,hr⟩ : ∃ c t,List.drop p s = c :: t:=⟨_,_,List.drop_eq_getElem_cons hlt⟩
   have hlen : t.length + 1 + p = s.length:=by have:=congrArg List.length hr; rw [List.length_drop,List.length_cons] at this; omega
   have HR:=Lib.hid hr
   have ht : List.take (s.length - p) (c :: t) = c :: t:=by rw [← hr]; exact bs_end s p
   have HL:=Lib.hid hlen
   clear hlen
   rw [hr] at HX
   cases hb : blankB c
   ·obtain ⟨b1,b2,b3,b4⟩:=blank_no hb
    have HB:=Lib.hid hb
    clear hb
    have HP:=Lib.hid (Tryz.strings_HasPrefix ⟨(c :: t).toArray⟩ ⟨#[47,47]⟩ w)
    rw [show Lib.hasPrefix (ByteArray.mk (c :: t).toArray).data.toList (ByteArray.mk #[47,47]).data.toList = Lib.hasPrefix (c :: t) [47,47] from rfl] at HP
    cases h1 : Lib.hasPrefix (c :: t) [47,47]
    ·rw [h1] at HP
     have HN1:=Lib.hid (fun r => pre2_no (r:=r) h1)
     clear h1
     have HQ:=Lib.hid (Tryz.strings_HasPrefix ⟨(c :: t).toArray⟩ ⟨#[47,42]⟩ w)
     rw [show Lib.hasPrefix (ByteArray.mk (c :: t).toArray).data.toList (ByteArray.mk #[47,42]).data.toList = Lib.hasPrefix (c :: t) [47,42] from rfl] at HQ
     cases h2 : Lib.hasPrefix (c :: t) [47,42]
     ·rw [h2] at HQ
      have HN2:=Lib.hid (fun r => pre2_no (r:=r) h2)
      clear h2
      have HX2 : Hid (X = (c :: t,true)):=Lib.hid (by rw [HX.out]; exact skipL_stop HB.out fun e r => ⟨HN1.out r e,HN2.out r e⟩)
      clear HX HN1 HN2
      go_wp2_with fail
      ((with_reducible refine HP.out.mono ?_))
      rintro e w2 ⟨rfl,rfl⟩
      go_wp2_with fail
      ((with_reducible refine HQ.out.mono ?_))
      rintro e w2 ⟨rfl,rfl⟩
      go_wp2_with fail
      refine bodyPost_ret (results_tmp2 rfl _ _ _) rfl ?_
      exact ⟨by rw [HX2.out]; unfold skipTup; simp only [List.length_cons]; rw [show s.length - (t.length + 1) = p by have:=HL.out; omega]; rfl,rfl⟩
     ·rw [h2] at HQ
      obtain ⟨rfl,r,rfl⟩:=pre2 h2
      clear h2 HN1 b1 b2 b3 b4 HB
      have HI:=Lib.hid (Tryz.strings_Index ⟨r.toArray⟩ ⟨#[42,47]⟩ m w (by rw [ByteArray.size_mk',List.size_toArray]; have:=HL.out; have:=HS.out; simp only [List.length_cons] at *; omega) HM.out)
      rw [show Lib.index (ByteArray.mk r.toArray).data.toList (ByteArray.mk #[42,47]).data.toList = Lib.index r [42,47] from rfl] at HI
      rcases closeAt r with ⟨e1,e2⟩ | ⟨n,e1,e2,e3⟩
      ·rw [e1] at HI
       have HX2 : Hid (X = (47 :: 42 :: r,false)):=Lib.hid (by rw [HX.out]; exact skipL_open e2)
       clear e1 e2 HX
       go_wp2_with fail
       ((with_reducible refine HP.out.mono ?_))
       rintro e w2 ⟨rfl,rfl⟩
       go_wp2_with fail
       ((with_reducible refine HQ.out.mono ?_))
       rintro e w2 ⟨rfl,rfl⟩
       go_wp2_with fail
       ((with_reducible refine HI.out.mono ?_))
       rintro e w2 ⟨rfl,rfl⟩
       go_wp2_with fail
       refine bodyPost_ret (results_tmp2 rfl _ _ _) rfl ?_
       exact ⟨by rw [HX2.out]; unfold skipTup; simp only [List.length_cons]; rw [show s.length - (r.length + 1 + 1) = p by have:=HL.out; simp only [List.length_cons] at this; omega]; rfl,rfl⟩
      ·rw [e1] at HI
       have HX2 : Hid (X = skipL (s.drop (p + n + 4))):=Lib.hid (by
        rw [HX.out,skipL_block e3]
        congr 1
        have e : List.drop (n + 2 + 2) (List.drop p s) = List.drop (p + (n + 2 + 2)) s:=List.drop_drop
        rw [show p + n + 4 = p + (n + 2 + 2) by omega,← e,HR.out]
        rfl)
       have hpn : p + n + 4 ≤ s.length:=by have:=HL.out; simp only [List.length_cons] at this; omega
       clear e1 e2 e3 HX
       go_wp2_with fail
       ((with_reducible refine HP.out.mono ?_))
       rintro e w2 ⟨rfl,rfl⟩
       go_wp2_with fail
       ((with_reducible refine HQ.out.mono ?_))
       rintro e w2 ⟨rfl,rfl⟩
       go_wp2_with fail
       ((with_reducible refine HI.out.mono ?_))
       rintro e w2 ⟨rfl,rfl⟩
       go_wp2_with fail
       go_round
       case rel => exact ⟨p + n + 4,by go_num,by omega,HX2⟩
       case measure => simp [intOf]; omega
    ·rw [h1] at HP
     obtain ⟨rfl,r,rfl⟩:=pre2 h1
     clear h1 b1 b2 b3 b4 HB
     have HI:=Lib.hid (Tryz.strings_IndexByte ⟨(47 :: 47 :: r).toArray⟩ 10 w)
     rw [show Lib.indexByte (ByteArray.mk (47 :: 47 :: r).toArray).data.toList (Int.toNat 10).toUInt8 = Lib.indexByte (47 :: 47 :: r) 10 from rfl] at HI
     rcases dropLine (47 :: 47 :: r) with ⟨e1,e2⟩ | ⟨n,e1,e2,e3⟩
     ·rw [e1] at HI
      have HX2 : Hid (X = ([],true)):=Lib.hid (by rw [HX.out,skipL_line,e2] <;> rfl)
      clear e1 e2 HX
      go_wp2_with fail
      ((with_reducible refine HP.out.mono ?_))
      rintro e w2 ⟨rfl,rfl⟩
      go_wp2_with fail
      ((with_reducible refine HI.out.mono ?_))
      rintro e w2 ⟨rfl,rfl⟩
      go_wp2_with fail
      refine bodyPost_ret (results_tmp2 rfl _ _ _) rfl ?_
      exact ⟨by rw [HX2.out]; rfl,rfl⟩
     ·rw [e1] at HI
      have hn1:=line_pos e3
      have HX2 : Hid (X = skipL (s.drop (p + n))):=Lib.hid (by rw [HX.out,skipL_line,e3,← List.drop_drop,HR.out])
      have hpn : p + n ≤ s.length:=by have:=HL.out; simp only [List.length_cons] at this e2; omega
      clear e1 e2 e3 HX
      go_wp2_with fail
      ((with_reducible refine HP.out.mono ?_))
      rintro e w2 ⟨rfl,rfl⟩
      go_wp2_with fail
      ((with_reducible refine HI.out.mono ?_))
      rintro e w2 ⟨rfl,rfl⟩
      go_wp2_with fail
      go_round
      case rel => exact ⟨p + n,by go_num,by omega,HX2⟩
      case measure => simp [intOf]; omega
   ·have HX2 : Hid (X = skipL (s.drop (p + 1))):=Lib.hid (by
     rw [HX.out,skipL_blank hb]
     congr 1
     rw [← List.drop_drop,HR.out] <;> rfl)
    have HB:=Lib.hid (blank_yes hb)
    clear hb HX
    go_upto_region 4 with fail
    go_cut [17] (fun z wx => z = .bool true ∧ w = wx)
    case first =>
     rcases HB.out with b1 | ⟨b1,b2⟩ | ⟨b1,b2,b3⟩ | ⟨b1,b2,b3,b4⟩
     ·go_wp2_with fail
      go_meet
      exact ⟨rfl,rfl⟩
     ·go_wp2_with fail
      go_meet
      exact ⟨rfl,rfl⟩
     ·go_wp2_with fail
      go_meet
      exact ⟨rfl,rfl⟩
     ·go_wp2_with fail
      go_meet
      exact ⟨rfl,rfl⟩
    case rest =>
     obtain ⟨rfl,rfl⟩:=hcut
     go_wp2_with fail
     go_round
     case rel => exact ⟨p + 1,by go_num,by omega,HX2⟩
     case measure => simp [intOf]; omega
  ·have HX3 : Hid (X = ([],true)):=Lib.hid (by rw [HX.out,List.drop_eq_nil_of_le (by omega)] <;> rfl)
   have hpl : p = s.length:=by omega
   subst hpl
   clear HX
   go_wp2_with fail
   refine bodyPost_ret (results_tmp2 rfl _ _ _) rfl ?_
   exact ⟨by rw [HX3.out]; rfl,rfl⟩
end
end Go.Proofs.YtnicnfchkdmieaaGreatDoor
