/- Si -/
import Derived.Test.YtnicnfchkdmieaaGreatDoorXat
set_option linter.unusedVariables false
set_option linter.unusedSimpArgs false
namespace Go.Proofs.YtnicnfchkdmieaaGreatDoor
open Go.RowKit
attribute [local go_sem] ByteArray.mk_append_mk bs_get bs_cut bs_end
def KindsOk (kinds : List UInt8) (a : Nat) : Prop:=a ≤ kinds.length ∧ (∀ j (h : j < kinds.length),blkB kinds[j] = decide (a ≤ j)) ∧ (kinds = [] ∨ 0 < a) ∧ kinds.length ≤ 10
theorem kinds_drop : ∀ (kinds : List UInt8) (a : Nat),a ≤ kinds.length → (∀ j (h : j < kinds.length),blkB kinds[j] = decide (a ≤ j)) → (kinds.dropWhile fun k => !blkB k) = kinds.drop a
 | [],a,h,_ => by simp
 | k :: ks,a,h,hk => by
   have h0:=hk 0 (by simp)
   rw [List.getElem_cons_zero] at h0
   cases a with
   | zero => rw [List.dropWhile_cons,h0]; rfl
   | succ a =>
     rw [List.dropWhile_cons,h0,List.drop_succ_cons,if_pos (by simp)]
     refine kinds_drop ks a (by simpa using h) (fun j hj => ?_)
     have:=hk (j + 1) (by simpa using hj)
     rw [List.getElem_cons_succ] at this
     rw [this]
     simp
section
variable (sub : UInt8 → List TokI → PR)
def opsAt (kinds : List UInt8) (a j : Nat) (ns : List Nd) (q : List TokI) : PR :=
 if j < a then (if j = 0 then opsP sub kinds q else match argsL sub (kinds.drop j) false ns q with
  | .no x => .no x
  | .ok r1 n1 => blksL sub (kinds.drop a) n1 r1)
 else blksL sub (kinds.drop j) ns q
def opsAf (kinds : List UInt8) (a j : Nat) (ns : List Nd) (q : List TokI) : PR :=
 if j < a then opsAt sub kinds a j ns q else if atT 6 q = true then opsAt sub kinds a j ns q.tail else .no q
theorem args_end {kinds : List UInt8} {a : Nat} (hk : KindsOk kinds a) (ns : List Nd) (q : List TokI) : argsL sub (kinds.drop a) false ns q = if atT 6 q = true then .ok q.tail ns else .no q:=by
 by_cases h : a < kinds.length
 ·rw [List.drop_eq_getElem_cons h,argsL,if_pos (by rw [hk.2.1 a h]; simp)]
 ·rw [List.drop_eq_nil_of_le (by omega),argsL]
theorem args_step {kinds : List UInt8} {a j : Nat} (hk : KindsOk kinds a) (h : j < a) (hj : j < kinds.length) (first : Bool) (ns : List Nd) (q : List TokI) :
  argsL sub (kinds.drop j) first ns q = if first = false ∧ atT 9 q = false then .no q else match sub kinds[j] (if first = false then q.tail else q) with
   | .no x => .no x
   | .ok r1 n1 => argsL sub (kinds.drop (j + 1)) false (ns ++ n1) r1:=by
 rw [List.drop_eq_getElem_cons hj,argsL,if_neg (by rw [hk.2.1 j hj]; simp; omega)]
 rfl
theorem opsAf_args {kinds : List UInt8} {a j : Nat} (hk : KindsOk kinds a) (h : j < a) (ns : List Nd) (q : List TokI) :
  opsAf sub kinds a (j + 1) ns q = match argsL sub (kinds.drop (j + 1)) false ns q with
   | .no x => .no x
   | .ok r1 n1 => blksL sub (kinds.drop a) n1 r1:=by
 unfold opsAf
 by_cases h1 : j + 1 < a
 ·rw [if_pos h1]; unfold opsAt; rw [if_pos h1,if_neg (by omega)]
 ·have e : j + 1 = a:=by omega
  rw [if_neg h1,e,args_end sub hk]
  by_cases h6 : atT 6 q = true
  ·rw [if_pos h6,if_pos h6]; unfold opsAt; rw [if_neg (Nat.lt_irrefl _)]
  ·rw [if_neg h6,if_neg h6]
theorem opsAt_arg {kinds : List UInt8} {a j : Nat} (hk : KindsOk kinds a) (h : j < a) (hj : j < kinds.length) (ns : List Nd) (hns : j = 0 → ns = []) (q : List TokI) :
  opsAt sub kinds a j ns q = if atT (if j = 0 then 5 else 9) q = false then .no q else match sub kinds[j] q.tail with
   | .no x => .no x
   | .ok r1 n1 => opsAf sub kinds a (j + 1) (ns ++ n1) r1:=by
 unfold opsAt
 rw [if_pos h]
 by_cases h0 : j = 0
 ·subst h0
  rw [if_pos rfl,if_pos rfl,hns rfl]
  unfold opsP
  rw [if_neg (by intro e; rw [e] at hj; simp at hj)]
  by_cases h5 : atT 5 q = false
  ·rw [if_pos h5,if_pos h5]
  ·rw [if_neg h5,if_neg h5]
   have:=args_step sub hk h hj true [] q.tail
   rw [List.drop_zero] at this
   rw [this,if_neg (by simp),if_neg (by simp)]
   cases hx : sub kinds[0] q.tail with
   | no x => rfl
   | ok r1 n1 =>
     simp only []
     rw [opsAf_args sub hk h,kinds_drop kinds a hk.1 hk.2.1]
     first | rfl | done
 ·rw [if_neg h0,if_neg h0,args_step sub hk h hj]
  by_cases h9 : atT 9 q = false
  ·rw [if_pos ⟨rfl,h9⟩,if_pos h9]
  ·rw [if_neg (fun e => h9 e.2),if_neg h9,if_pos rfl]
   cases hx : sub kinds[j] q.tail with
   | no x => rfl
   | ok r1 n1 => simp only []; rw [opsAf_args sub hk h]
theorem opsAt_blk {kinds : List UInt8} {a j : Nat} (h : ¬ j < a) (hj : j < kinds.length) (ns : List Nd) (q : List TokI) :
  opsAt sub kinds a j ns q = match blockP sub kinds[j] q with
   | .no x => .no x
   | .ok r1 n1 => opsAt sub kinds a (j + 1) (ns ++ n1) r1:=by
 have e : ∀ i,¬ i < a → ∀ ns q,opsAt sub kinds a i ns q = blksL sub (kinds.drop i) ns q:=fun i hi ns q => by unfold opsAt; rw [if_neg hi]
 rw [e j h,List.drop_eq_getElem_cons hj,blksL]
 cases blockP sub kinds[j] q with
 | no x => rfl
 | ok r1 n1 => simp only []; rw [e (j + 1) (by omega)]
theorem opsAt_end {kinds : List UInt8} {a : Nat} (hk : KindsOk kinds a) (ns : List Nd) (q : List TokI) : opsAt sub kinds a kinds.length ns q = .ok q ns:=by
 unfold opsAt
 rw [if_neg (by have:=hk.1; omega),List.drop_eq_nil_of_le (Nat.le_refl _),blksL]
theorem opsAt_start {kinds : List UInt8} {a : Nat} (hk : KindsOk kinds a) (q : List TokI) : opsAt sub kinds a 0 [] q = opsP sub kinds q:=by
 unfold opsAt
 rcases hk.2.2.1 with h | h
 ·subst h
  have:=hk.1
  rw [if_neg (by simp at this; omega)]
  unfold opsP
  rw [if_pos rfl]; rfl
 ·rw [if_pos h,if_pos rfl]
end
def wrapP (n : Nd) : PR → PR
 | .no x => .no x
 | .ok r ns => .ok r (n :: ns)
set_option maxRecDepth 100000 in
set_option maxHeartbeats 8000000 in
theorem operands_any (m E : Int) (B b : Nat) (sub : UInt8 → List TokI → PR) (n : Nat) (hs : SubOk m E B b sub n) (hg : ∀ k r,PGood1 r (sub k r)) (kinds : List UInt8) (a : Nat) (hk : KindsOk kinds a)
  (op p : Int) (r : List TokI) (o : List Nd) (w : World) (h : PSt m E B b w r (o ++ ⟨op,0,[],p⟩ :: [])) (hn : r.length ≤ n) (hl : o.length + r.length ≤ 99999) :
  Calls Tryz.prog 133 #[.pointer (some ⟨b,0,none⟩),.int .i64 o.length,.string ⟨kinds.toArray⟩] w (SynPost m E B b w o (wrapP ⟨op,0,[],(kinds.length : Nat)⟩ (opsP sub kinds r))):=by
 have HS:=Lib.hid hs
 have HGD:=Lib.hid hg
 have HK:=Lib.hid hk
 have hk10:=hk.2.2.2
 obtain ⟨Y,hY⟩ : ∃ Y,Hid (opsP sub kinds r = Y):=⟨_,Lib.hid rfl⟩
 have HY0 : Hid (opsAt sub kinds a 0 [] r = Y):=Lib.hid (by rw [opsAt_start sub hk,hY.out])
 obtain ⟨N,hN⟩ : ∃ N,kinds.length = N:=⟨_,rfl⟩
 obtain ⟨tv,bad,g,c,k1,k2,k3,k4⟩:=h.kids
 have HU:=Lib.hid (k4 (N : Int))
 obtain ⟨c0,c1,c2,c3⟩:=cells4 k1
 obtain ⟨L,hL⟩ : ∃ L,(o ++ (⟨op,0,[],p⟩ : Nd) :: []).length = L:=⟨_,rfl⟩
 have hLo : o.length < L:=by rw [← hL]; simp
 have hLo' : (o.length : Int) < (L : Int):=by omega
 rw [hL] at c3
 rw [hN] at hk10
 have HN:=Lib.hid hN
 clear h k1 k4 hL hs hg hk
 go_enter Tryz.func133,Tryz.ntmps133
 go_upto_region 2 with fail
 simp only [hN]
 have HP1:=Lib.hid HU.out.1
 have HB1:=Lib.hid HU.out.2
 generalize w.setCell ⟨g,o.length * 4 + 3,none⟩ (.int .i64 (N : Int)) = W1 at *
 clear c0 c1 c2 c3 k2 k3 HU hLo hLo'
 go_wp2_with fail
 go_loopw [20] (fun i wr => ∃ (j : Nat) (ns : List Nd) (q : List TokI),i = .int .i64 j ∧ j ≤ N ∧ (j = 0 → ns = []) ∧ ns.length + q.length ≤ r.length ∧ Hid (opsAt sub kinds a j ns q = Y) ∧ Hid (PSt m E B b wr q (o ++ ⟨op,0,[],N⟩ :: ns)) ∧ Hid (Below B w wr)) (fun i _ => N - (intOf i).toNat)
 case atStart => exact ⟨0,[],r,rfl,by omega,fun _ => rfl,by simp,HY0,HP1,HB1⟩
 case round =>
  clear HP1 HB1 HY0
  obtain ⟨j,ns,q,rfl,hj,hns,hnq,HX,HP,HB⟩:=hrel
  obtain ⟨w3,rfl⟩ : ∃ y : World,y = wr:=⟨_,rfl⟩
  by_cases hlt : j < N
  ·have hlt' : (j : Int) < (N : Int):=by omega
   have hjk : j < kinds.length:=by rw [hN]; exact hlt
   obtain ⟨kj,hkj⟩ : ∃ x,kinds[j] = x:=⟨_,rfl⟩
   have HBK : Hid (blkB kj = decide (a ≤ j)):=Lib.hid (by rw [← hkj]; exact HK.out.2.1 j hjk)
   by_cases hja : j < a
   ·have HI:=Lib.hid (isBlk_is kj false (Lib.hid (by rw [HBK.out]; simp; omega)))
    have HX1 : Hid (Y = if atT (if j = 0 then 5 else 9) q = false then .no q else match sub kj q.tail with
     | .no x => .no x
     | .ok r1 n1 => opsAf sub kinds a (j + 1) (ns ++ n1) r1):=Lib.hid (by rw [← HX.out,opsAt_arg sub HK.out hja hjk ns hns q,hkj])
    clear HX HBK
    by_cases h0 : j = 0
    ·have HPU:=Lib.hid (punct_any m E B b 5 w3 q _ HP.out (by omega))
     have HX2 : Hid (Y = if atT 5 q = false then .no q else match sub kj q.tail with | .no x => .no x | .ok r1 n1 => opsAf sub kinds a (j + 1) (ns ++ n1) r1):=Lib.hid (by rw [HX1.out,if_pos h0])
     have hje : ((j : Int) == 0) = true:=by rw [h0]; rfl
     clear HX1 h0
     go_wp2_with fail
     ((with_reducible refine (HI.out _).mono ?_))
     rintro e w4 ⟨rfl,rfl⟩
     go_wp2_with fail
     ((with_reducible refine HPU.out.mono ?_))
     rintro e w5 ⟨hb5,hres⟩
     have HB5 : Hid (Below B w w5):=Lib.hid (HB.out.trans hb5)
     clear hb5 HPU HB
     cases h5 : atT 5 q with
     | false =>
       rw [h5,if_neg (by decide)] at hres
       rw [h5,if_pos rfl] at HX2
       obtain ⟨rfl,hbad⟩:=hres
       have HBAD:=Lib.hid hbad
       clear hbad
       go_wp2_with fail
       go_ret
       rw [hY.out,HX2.out]
       exact ⟨HB5.out,rfl,HBAD.out⟩
     | true =>
       rw [h5,if_pos rfl] at hres
       rw [h5,if_neg (by decide)] at HX2
       obtain ⟨rfl,hp5⟩:=hres
       rw [List.append_nil] at hp5
       have HP5:=Lib.hid hp5
       have hqt : q.tail.length + 1 = q.length:=by cases q with | nil => cases h5 | cons x y => rfl
       obtain ⟨qt,hqt2⟩ : ∃ z,q.tail = z:=⟨_,rfl⟩
       rw [hqt2] at HX2 HP5 hqt
       clear hp5 HP hqt2 h5
       have HSUB:=Lib.hid (HS.out kj qt _ w5 HP5.out (by omega) (by simp only [List.length_append,List.length_cons]; omega))
       have hgood:=HGD.out kj qt
       cases hx : sub kj qt with
       | no x =>
         rw [hx] at HSUB HX2
         clear hx hgood
         go_wp2_with fail
         ((with_reducible refine HSUB.out.mono ?_))
         rintro e w6 ⟨hb6,rfl,hbad⟩
         have HB6 : Hid (Below B w w6):=Lib.hid (HB5.out.trans hb6)
         have HBAD:=Lib.hid hbad
         clear hb6 hbad
         go_wp2_with fail
         go_ret
         rw [hY.out,HX2.out]
         exact ⟨HB6.out,rfl,HBAD.out⟩
       | ok q1 n1 =>
         rw [hx] at HSUB HX2 hgood
         obtain ⟨d,hd1,hd2,hd3,hd4⟩:=hgood
         have hql : q1.length + d = qt.length:=by rw [hd3,List.length_drop]; omega
         clear hx hd3
         go_wp2_with fail
         ((with_reducible refine HSUB.out.mono ?_))
         rintro e w6 ⟨hb6,rfl,hp6⟩
         rw [List.append_assoc,List.cons_append] at hp6
         have HB6 : Hid (Below B w w6):=Lib.hid (HB5.out.trans hb6)
         have HP6:=Lib.hid hp6
         clear hb6 hp6 HSUB HB5 HP5
         by_cases hja2 : j + 1 < a
         ·have hj2k : j + 1 < kinds.length:=by have:=HK.out.1; omega
          obtain ⟨kj2,hkj2⟩ : ∃ x,kinds[j + 1] = x:=⟨_,rfl⟩
          have HI2:=Lib.hid (isBlk_is kj2 false (Lib.hid (by rw [← hkj2,HK.out.2.1 (j + 1) hj2k]; simp; omega)))
          have hne : ((j : Int) + 1 == (N : Int)) = false:=by rw [beq_eq_false_iff_ne]; rw [hN] at hj2k; omega
          have hjt : ((j : Int) + 1).toNat = j + 1:=by omega
          have HX5 : Hid (opsAt sub kinds a (j + 1) (ns ++ n1) q1 = Y):=Lib.hid (by rw [HX2.out]; unfold opsAf; rw [if_pos hja2])
          clear HX2 hja2
          go_wp2_with fail
          ((with_reducible refine (HI2.out _).mono ?_))
          rintro e w8 ⟨rfl,rfl⟩
          go_wp2_with fail
          go_roundw
          case rel => exact ⟨j + 1,ns ++ n1,q1,by go_num,by omega,fun h => by omega,by simp only [List.length_append]; omega,HX5,HP6,HB6⟩
          case measure => simp [intOf]; omega
         ·have hae : a = j + 1:=by omega
          have HPC:=Lib.hid (punct_any m E B b 6 w6 q1 _ HP6.out (by omega))
          have HX5 : Hid (Y = if atT 6 q1 = true then opsAt sub kinds a (j + 1) (ns ++ n1) q1.tail else .no q1):=Lib.hid (by rw [HX2.out]; unfold opsAf; rw [if_neg hja2])
          clear HX2 hja2
          by_cases hjN : j + 1 = N
          ·have hne : ((j : Int) + 1 == (N : Int)) = true:=by rw [beq_iff_eq]; omega
           clear hjN
           go_wp2_with fail
           ((with_reducible refine HPC.out.mono ?_))
           rintro e w9 ⟨hb9,hres⟩
           have HB9 : Hid (Below B w w9):=Lib.hid (HB6.out.trans hb9)
           clear hb9
           cases h6 : atT 6 q1 with
           | true =>
             rw [h6,if_pos rfl] at hres HX5
             obtain ⟨rfl,hp9⟩:=hres
             rw [List.append_nil] at hp9
             have HP9:=Lib.hid hp9
             have hqt : q1.tail.length + 1 = q1.length:=by cases q1 with | nil => cases h6 | cons x y => rfl
             have HX6 : Hid (opsAt sub kinds a (j + 1) (ns ++ n1) q1.tail = Y):=Lib.hid HX5.out.symm
             clear hp9
             go_wp2_with fail
             go_roundw
             case rel => exact ⟨j + 1,ns ++ n1,q1.tail,by go_num,by omega,fun h => by omega,by simp only [List.length_append]; omega,HX6,HP9,HB9⟩
             case measure => simp [intOf]; omega
           | false =>
             rw [h6,if_neg (by decide)] at hres HX5
             obtain ⟨rfl,hp9⟩:=hres
             have HP9:=Lib.hid hp9
             clear hp9
             go_wp2_with fail
             go_ret
             rw [hY.out,HX5.out]
             exact ⟨HB9.out,rfl,HP9.out⟩
          ·have hj2k : j + 1 < kinds.length:=by rw [hN]; omega
           obtain ⟨kj2,hkj2⟩ : ∃ x,kinds[j + 1] = x:=⟨_,rfl⟩
           have HI2:=Lib.hid (isBlk_is kj2 true (Lib.hid (by rw [← hkj2,HK.out.2.1 (j + 1) hj2k]; simp; omega)))
           have hne : ((j : Int) + 1 == (N : Int)) = false:=by rw [beq_eq_false_iff_ne]; omega
           have hjt : ((j : Int) + 1).toNat = j + 1:=by omega
           clear hjN
           go_wp2_with fail
           ((with_reducible refine (HI2.out _).mono ?_))
           rintro e w8 ⟨rfl,rfl⟩
           go_wp2_with fail
           ((with_reducible refine HPC.out.mono ?_))
           rintro e w9 ⟨hb9,hres⟩
           have HB9 : Hid (Below B w w9):=Lib.hid (HB6.out.trans hb9)
           clear hb9
           cases h6 : atT 6 q1 with
           | true =>
             rw [h6,if_pos rfl] at hres HX5
             obtain ⟨rfl,hp9⟩:=hres
             rw [List.append_nil] at hp9
             have HP9:=Lib.hid hp9
             have hqt : q1.tail.length + 1 = q1.length:=by cases q1 with | nil => cases h6 | cons x y => rfl
             have HX6 : Hid (opsAt sub kinds a (j + 1) (ns ++ n1) q1.tail = Y):=Lib.hid HX5.out.symm
             clear hp9
             go_wp2_with fail
             go_roundw
             case rel => exact ⟨j + 1,ns ++ n1,q1.tail,by go_num,by omega,fun h => by omega,by simp only [List.length_append]; omega,HX6,HP9,HB9⟩
             case measure => simp [intOf]; omega
           | false =>
             rw [h6,if_neg (by decide)] at hres HX5
             obtain ⟨rfl,hp9⟩:=hres
             have HP9:=Lib.hid hp9
             clear hp9
             go_wp2_with fail
             go_ret
             rw [hY.out,HX5.out]
             exact ⟨HB9.out,rfl,HP9.out⟩
    ·have HPU:=Lib.hid (punct_any m E B b 9 w3 q _ HP.out (by omega))
     have HX2 : Hid (Y = if atT 9 q = false then .no q else match sub kj q.tail with | .no x => .no x | .ok r1 n1 => opsAf sub kinds a (j + 1) (ns ++ n1) r1):=Lib.hid (by rw [HX1.out,if_neg h0])
     have hje : ((j : Int) == 0) = false:=by rw [beq_eq_false_iff_ne]; omega
     clear HX1 h0
     go_wp2_with fail
     ((with_reducible refine (HI.out _).mono ?_))
     rintro e w4 ⟨rfl,rfl⟩
     go_wp2_with fail
     ((with_reducible refine HPU.out.mono ?_))
     rintro e w5 ⟨hb5,hres⟩
     have HB5 : Hid (Below B w w5):=Lib.hid (HB.out.trans hb5)
     clear hb5 HPU HB
     cases h5 : atT 9 q with
     | false =>
       rw [h5,if_neg (by decide)] at hres
       rw [h5,if_pos rfl] at HX2
       obtain ⟨rfl,hbad⟩:=hres
       have HBAD:=Lib.hid hbad
       clear hbad
       go_wp2_with fail
       go_ret
       rw [hY.out,HX2.out]
       exact ⟨HB5.out,rfl,HBAD.out⟩
     | true =>
       rw [h5,if_pos rfl] at hres
       rw [h5,if_neg (by decide)] at HX2
       obtain ⟨rfl,hp5⟩:=hres
       rw [List.append_nil] at hp5
       have HP5:=Lib.hid hp5
       have hqt : q.tail.length + 1 = q.length:=by cases q with | nil => cases h5 | cons x y => rfl
       obtain ⟨qt,hqt2⟩ : ∃ z,q.tail = z:=⟨_,rfl⟩
       rw [hqt2] at HX2 HP5 hqt
       clear hp5 HP hqt2 h5
       have HSUB:=Lib.hid (HS.out kj qt _ w5 HP5.out (by omega) (by simp only [List.length_append,List.length_cons]; omega))
       have hgood:=HGD.out kj qt
       cases hx : sub kj qt with
       | no x =>
         rw [hx] at HSUB HX2
         clear hx hgood
         go_wp2_with fail
         ((with_reducible refine HSUB.out.mono ?_))
         rintro e w6 ⟨hb6,rfl,hbad⟩
         have HB6 : Hid (Below B w w6):=Lib.hid (HB5.out.trans hb6)
         have HBAD:=Lib.hid hbad
         clear hb6 hbad
         go_wp2_with fail
         go_ret
         rw [hY.out,HX2.out]
         exact ⟨HB6.out,rfl,HBAD.out⟩
       | ok q1 n1 =>
         rw [hx] at HSUB HX2 hgood
         obtain ⟨d,hd1,hd2,hd3,hd4⟩:=hgood
         have hql : q1.length + d = qt.length:=by rw [hd3,List.length_drop]; omega
         clear hx hd3
         go_wp2_with fail
         ((with_reducible refine HSUB.out.mono ?_))
         rintro e w6 ⟨hb6,rfl,hp6⟩
         rw [List.append_assoc,List.cons_append] at hp6
         have HB6 : Hid (Below B w w6):=Lib.hid (HB5.out.trans hb6)
         have HP6:=Lib.hid hp6
         clear hb6 hp6 HSUB HB5 HP5
         by_cases hja2 : j + 1 < a
         ·have hj2k : j + 1 < kinds.length:=by have:=HK.out.1; omega
          obtain ⟨kj2,hkj2⟩ : ∃ x,kinds[j + 1] = x:=⟨_,rfl⟩
          have HI2:=Lib.hid (isBlk_is kj2 false (Lib.hid (by rw [← hkj2,HK.out.2.1 (j + 1) hj2k]; simp; omega)))
          have hne : ((j : Int) + 1 == (N : Int)) = false:=by rw [beq_eq_false_iff_ne]; rw [hN] at hj2k; omega
          have hjt : ((j : Int) + 1).toNat = j + 1:=by omega
          have HX5 : Hid (opsAt sub kinds a (j + 1) (ns ++ n1) q1 = Y):=Lib.hid (by rw [HX2.out]; unfold opsAf; rw [if_pos hja2])
          clear HX2 hja2
          go_wp2_with fail
          ((with_reducible refine (HI2.out _).mono ?_))
          rintro e w8 ⟨rfl,rfl⟩
          go_wp2_with fail
          go_roundw
          case rel => exact ⟨j + 1,ns ++ n1,q1,by go_num,by omega,fun h => by omega,by simp only [List.length_append]; omega,HX5,HP6,HB6⟩
          case measure => simp [intOf]; omega
         ·have hae : a = j + 1:=by omega
          have HPC:=Lib.hid (punct_any m E B b 6 w6 q1 _ HP6.out (by omega))
          have HX5 : Hid (Y = if atT 6 q1 = true then opsAt sub kinds a (j + 1) (ns ++ n1) q1.tail else .no q1):=Lib.hid (by rw [HX2.out]; unfold opsAf; rw [if_neg hja2])
          clear HX2 hja2
          by_cases hjN : j + 1 = N
          ·have hne : ((j : Int) + 1 == (N : Int)) = true:=by rw [beq_iff_eq]; omega
           clear hjN
           go_wp2_with fail
           ((with_reducible refine HPC.out.mono ?_))
           rintro e w9 ⟨hb9,hres⟩
           have HB9 : Hid (Below B w w9):=Lib.hid (HB6.out.trans hb9)
           clear hb9
           cases h6 : atT 6 q1 with
           | true =>
             rw [h6,if_pos rfl] at hres HX5
             obtain ⟨rfl,hp9⟩:=hres
             rw [List.append_nil] at hp9
             have HP9:=Lib.hid hp9
             have hqt : q1.tail.length + 1 = q1.length:=by cases q1 with | nil => cases h6 | cons x y => rfl
             have HX6 : Hid (opsAt sub kinds a (j + 1) (ns ++ n1) q1.tail = Y):=Lib.hid HX5.out.symm
             clear hp9
             go_wp2_with fail
             go_roundw
             case rel => exact ⟨j + 1,ns ++ n1,q1.tail,by go_num,by omega,fun h => by omega,by simp only [List.length_append]; omega,HX6,HP9,HB9⟩
             case measure => simp [intOf]; omega
           | false =>
             rw [h6,if_neg (by decide)] at hres HX5
             obtain ⟨rfl,hp9⟩:=hres
             have HP9:=Lib.hid hp9
             clear hp9
             go_wp2_with fail
             go_ret
             rw [hY.out,HX5.out]
             exact ⟨HB9.out,rfl,HP9.out⟩
          ·have hj2k : j + 1 < kinds.length:=by rw [hN]; omega
           obtain ⟨kj2,hkj2⟩ : ∃ x,kinds[j + 1] = x:=⟨_,rfl⟩
           have HI2:=Lib.hid (isBlk_is kj2 true (Lib.hid (by rw [← hkj2,HK.out.2.1 (j + 1) hj2k]; simp; omega)))
           have hne : ((j : Int) + 1 == (N : Int)) = false:=by rw [beq_eq_false_iff_ne]; omega
           have hjt : ((j : Int) + 1).toNat = j + 1:=by omega
           clear hjN
           go_wp2_with fail
           ((with_reducible refine (HI2.out _).mono ?_))
           rintro e w8 ⟨rfl,rfl⟩
           go_wp2_with fail
           ((with_reducible refine HPC.out.mono ?_))
           rintro e w9 ⟨hb9,hres⟩
           have HB9 : Hid (Below B w w9):=Lib.hid (HB6.out.trans hb9)
           clear hb9
           cases h6 : atT 6 q1 with
           | true =>
             rw [h6,if_pos rfl] at hres HX5
             obtain ⟨rfl,hp9⟩:=hres
             rw [List.append_nil] at hp9
             have HP9:=Lib.hid hp9
             have hqt : q1.tail.length + 1 = q1.length:=by cases q1 with | nil => cases h6 | cons x y => rfl
             have HX6 : Hid (opsAt sub kinds a (j + 1) (ns ++ n1) q1.tail = Y):=Lib.hid HX5.out.symm
             clear hp9
             go_wp2_with fail
             go_roundw
             case rel => exact ⟨j + 1,ns ++ n1,q1.tail,by go_num,by omega,fun h => by omega,by simp only [List.length_append]; omega,HX6,HP9,HB9⟩
             case measure => simp [intOf]; omega
           | false =>
             rw [h6,if_neg (by decide)] at hres HX5
             obtain ⟨rfl,hp9⟩:=hres
             have HP9:=Lib.hid hp9
             clear hp9
             go_wp2_with fail
             go_ret
             rw [hY.out,HX5.out]
             exact ⟨HB9.out,rfl,HP9.out⟩
   ·have HI:=Lib.hid (isBlk_is kj true (Lib.hid (by rw [HBK.out]; simp; omega)))
    have HX1 : Hid (Y = match blockP sub kj q with | .no x => .no x | .ok r1 n1 => opsAt sub kinds a (j + 1) (ns ++ n1) r1):=Lib.hid (by rw [← HX.out,opsAt_blk sub hja hjk ns q,hkj])
    have HBL:=Lib.hid (block_any m E B b sub n HS.out HGD.out kj q _ w3 HP.out (by omega) (by simp only [List.length_append,List.length_cons]; omega))
    have hgood:=blockP_good HGD.out kj q
    clear HX HBK
    cases hx : blockP sub kj q with
    | no x =>
      rw [hx] at HBL HX1
      clear hx hgood
      go_wp2_with fail
      ((with_reducible refine (HI.out _).mono ?_))
      rintro e w4 ⟨rfl,rfl⟩
      go_wp2_with fail
      ((with_reducible refine HBL.out.mono ?_))
      rintro e w6 ⟨hb6,rfl,hbad⟩
      have HB6 : Hid (Below B w w6):=Lib.hid (HB.out.trans hb6)
      have HBAD:=Lib.hid hbad
      clear hb6 hbad
      go_wp2_with fail
      go_ret
      rw [hY.out,HX1.out]
      exact ⟨HB6.out,rfl,HBAD.out⟩
    | ok q1 n1 =>
      rw [hx] at HBL HX1 hgood
      obtain ⟨d,hd1,hd2,hd3,hd4⟩:=hgood
      have hql : q1.length + d = q.length:=by rw [hd3,List.length_drop]; omega
      have HX2 : Hid (opsAt sub kinds a (j + 1) (ns ++ n1) q1 = Y):=Lib.hid HX1.out.symm
      clear hx hd3 HX1
      go_wp2_with fail
      ((with_reducible refine (HI.out _).mono ?_))
      rintro e w4 ⟨rfl,rfl⟩
      go_wp2_with fail
      ((with_reducible refine HBL.out.mono ?_))
      rintro e w6 ⟨hb6,rfl,hp6⟩
      rw [List.append_assoc,List.cons_append] at hp6
      have HB6 : Hid (Below B w w6):=Lib.hid (HB.out.trans hb6)
      have HP6:=Lib.hid hp6
      clear hb6 hp6 HBL HB HP
      go_wp2_with fail
      go_roundw
      case rel => exact ⟨j + 1,ns ++ n1,q1,by go_num,by omega,fun h => by omega,by simp only [List.length_append]; omega,HX2,HP6,HB6⟩
      case measure => simp [intOf]; omega
  ·obtain rfl : j = N:=by omega
   have HX1 : Hid (Y = .ok q ns):=Lib.hid (by rw [← HX.out,← HN.out,opsAt_end sub HK.out])
   clear HX
   go_wp2_with fail
   go_ret
   rw [hY.out,HX1.out,HN.out]
   exact ⟨HB.out,rfl,HP.out⟩
end Go.Proofs.YtnicnfchkdmieaaGreatDoor
