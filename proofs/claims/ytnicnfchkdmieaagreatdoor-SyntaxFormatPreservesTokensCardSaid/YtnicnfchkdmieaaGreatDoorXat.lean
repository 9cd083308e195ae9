/- Sh -/
import Derived.Test.YtnicnfchkdmieaaGreatDoorXas
set_option linter.unusedVariables false
set_option linter.unusedSimpArgs false
namespace Go.Proofs.YtnicnfchkdmieaaGreatDoor
open Go.RowKit
attribute [local go_sem] ByteArray.mk_append_mk bs_get bs_cut bs_end
set_option maxRecDepth 100000 in
set_option maxHeartbeats 8000000 in
theorem block_any (m E : Int) (B b : Nat) (sub : UInt8 → List TokI → PR) (n : Nat) (hs : SubOk m E B b sub n) (hg : ∀ k r,PGood1 r (sub k r)) (kd : UInt8) (r : List TokI) (o : List Nd) (w : World)
  (h : PSt m E B b w r o) (hn : r.length ≤ n + 1) (hl : o.length + r.length ≤ 100000) :
  Calls Tryz.prog 134 #[.pointer (some ⟨b,0,none⟩),.int .u8 kd.toNat] w (SynPost m E B b w o (blockP sub kd r)):=by
 have HS:=Lib.hid hs
 have HGD:=Lib.hid hg
 have HPU:=Lib.hid (punct_any m E B b 7 w r o h (by omega))
 clear hs hg h
 obtain ⟨X,hX⟩ : ∃ X,Hid (blockP sub kd r = X):=⟨_,Lib.hid rfl⟩
 go_enter Tryz.func134,Tryz.ntmps134
 go_wp2_with fail
 ((with_reducible refine HPU.out.mono ?_))
 rintro e w1 ⟨hb1,hres⟩
 have HB1:=Lib.hid hb1
 clear hb1 HPU
 cases h7 : atT 7 r with
 | false =>
   rw [h7,if_neg (by decide)] at hres
   obtain ⟨rfl,hp⟩:=hres
   have HP:=Lib.hid hp
   have HX : Hid (X = .no r):=Lib.hid (by rw [← hX.out]; unfold blockP; rw [if_neg (by rw [h7]; decide)])
   clear hp h7
   go_wp2_with fail
   go_ret
   rw [hX.out,HX.out]
   exact ⟨HB1.out,rfl,HP.out⟩
 | true =>
   rw [h7,if_pos rfl] at hres
   obtain ⟨rfl,hp⟩:=hres
   rw [List.append_nil] at hp
   cases r with
   | nil => cases h7
   | cons t1 r1 =>
   have HX : Hid (blockL sub kd (r1.length + 1) 0 [] r1 = X):=Lib.hid (by rw [← hX.out]; unfold blockP; rw [if_pos h7]; rfl)
   simp only [List.tail_cons] at hp
   rw [List.length_cons] at hn hl
   have HA:=Lib.hid (add_any m E B b 4 0 0 [] w1 r1 o hp (by omega))
   clear hp h7
   unfold tokV at HA
   go_wp2_with fail
   ((with_reducible refine HA.out.mono ?_))
   rintro e w2 ⟨rfl,h2,hb2⟩
   have HB2 : Hid (Below B w w2):=Lib.hid (HB1.out.trans hb2)
   have H2:=Lib.hid h2
   clear HA HB1 hb2 h2
   go_wp2_with fail
   go_loopw [13] (fun i wr => ∃ (f j : Nat) (ns : List Nd) (q : List TokI),q.length + 1 ≤ f ∧ j + q.length ≤ r1.length ∧ ns.length + q.length ≤ r1.length ∧ Hid (blockL sub kd f j ns q = X) ∧ Hid (PSt m E B b wr q (o ++ ⟨4,0,[],j⟩ :: ns)) ∧ Hid (Below B w wr)) (fun _ wr => tokLen wr b)
   case atStart => exact ⟨r1.length + 1,0,[],r1,by omega,by omega,by simp,HX,H2,HB2⟩
   case round =>
    clear H2 HB2 HX
    obtain ⟨f,j,ns,q,hfq,hj,hnq,HX,HP,HB⟩:=hrel
    obtain ⟨w3,rfl⟩ : ∃ y : World,y = wr:=⟨_,rfl⟩
    have HTL : Hid (tokLen w3 b = q.length):=Lib.hid HP.out.tokLen
    obtain ⟨f,rfl⟩ : ∃ g,f = g + 1:=⟨f - 1,by omega⟩
    have HAT:=Lib.hid (at_any m E B b 8 w3 q _ HP.out (by omega))
    cases h8 : atT 8 q with
    | true =>
      rw [h8] at HAT
      have HX2 : Hid (X = .ok q.tail (⟨4,0,[],(j : Nat)⟩ :: ns)):=Lib.hid (by rw [← HX.out,blockL,if_pos h8])
      cases q with
      | nil => cases h8
      | cons t2 q2 =>
        have HK:=Lib.hid (skip_any m E B b w3 t2 q2 _ HP.out (by simp at hj; omega))
        clear h8 HX
        go_wp2_with fail
        ((with_reducible refine HAT.out.mono ?_))
        rintro e w4 ⟨rfl,rfl⟩
        go_wp2_with fail
        ((with_reducible refine HK.out.mono ?_))
        rintro e w4 ⟨rfl,h4,hb4⟩
        have HB4 : Hid (Below B w w4):=Lib.hid (HB.out.trans hb4)
        have HP4:=Lib.hid h4
        clear h4 hb4
        go_wp2_with fail
        go_ret
        rw [hX.out,HX2.out]
        exact ⟨HB4.out,rfl,HP4.out⟩
    | false =>
      rw [h8] at HAT
      have HXA : Hid (X = if listB kd = true ∧ 0 < j ∧ atT 9 q = false then .no q else match sub kd (if listB kd = true ∧ 0 < j then q.tail else q) with
       | .no x => .no x
       | .ok r1 n1 => blockL sub kd f (j + 1) (ns ++ n1) r1):=Lib.hid (by rw [← HX.out,blockL,if_neg (by rw [h8]; decide)]; rfl)
      clear h8 HX
      obtain ⟨tv,bad,g,c,k1,k2,k3,k4⟩:=HP.out.kids
      obtain ⟨c0,c1,c2,c3⟩:=cells4 k1
      obtain ⟨L,hL⟩ : ∃ L,(o ++ (⟨4,0,[],(j : Int)⟩ : Nd) :: ns).length = L:=⟨_,rfl⟩
      have hLo : o.length < L:=by rw [← hL]; simp
      have hLo' : (o.length : Int) < (L : Int):=by omega
      rw [hL] at c3
      clear k1 k4 k3 hL
      go_wp2_with fail
      ((with_reducible refine HAT.out.mono ?_))
      rintro e w4 ⟨rfl,rfl⟩
      clear HAT
      obtain ⟨lb,hlb⟩ : ∃ lb,Hid (listB kd = lb):=⟨_,Lib.hid rfl⟩
      have HLB:=Lib.hid (isList_is kd lb hlb w3)
      cases lb with
      | false =>
        have HX1 : Hid (X = match sub kd q with | .no x => .no x | .ok r1 n1 => blockL sub kd f (j + 1) (ns ++ n1) r1):=Lib.hid (by rw [HXA.out,if_neg (by rw [hlb.out]; simp),if_neg (by rw [hlb.out]; simp)])
        clear HXA
        go_wp2_with fail
        ((with_reducible refine HLB.out.mono ?_))
        rintro e w4 ⟨rfl,rfl⟩
        clear HLB
        have HSUB : Hid (Calls Tryz.prog 47 #[.pointer (some ⟨b,0,none⟩),.int .u8 kd.toNat] w3 (SynPost m E B b w3 (o ++ ⟨4,0,[],(j : Int)⟩ :: ns) (sub kd q))) :=
         Lib.hid (HS.out kd q _ w3 HP.out (by omega) (by simp only [List.length_append,List.length_cons]; omega))
        have hgood:=HGD.out kd q
        cases hx : sub kd q with
        | no x =>
          rw [hx] at HSUB
          have HX2 : Hid (X = .no x):=Lib.hid (by rw [HX1.out,hx])
          clear hx hgood HP HTL
          go_wp2_with fail
          ((with_reducible refine HSUB.out.mono ?_))
          rintro e w6 ⟨hb6,rfl,hbad⟩
          have HB6 : Hid (Below B w w6):=Lib.hid (HB.out.trans hb6)
          have HBAD:=Lib.hid hbad
          clear hb6 hbad
          go_wp2_with fail
          go_ret
          rw [hX.out,HX2.out]
          exact ⟨HB6.out,rfl,HBAD.out⟩
        | ok q1 n1 =>
          rw [hx] at HSUB hgood
          obtain ⟨d,hd1,hd2,hd3,hd4⟩:=hgood
          have hql : q1.length + d = q.length:=by rw [hd3,List.length_drop]; omega
          have HX2 : Hid (blockL sub kd f (j + 1) (ns ++ n1) q1 = X):=Lib.hid (by rw [HX1.out,hx])
          clear hx hd3 HP
          go_wp2_with fail
          ((with_reducible refine HSUB.out.mono ?_))
          rintro e w6 ⟨hb6,rfl,hp6⟩
          rw [List.append_assoc,List.cons_append] at hp6
          have HB6 : Hid (Below B w w6):=Lib.hid (HB.out.trans hb6)
          clear c0 c1 c2 c3 k2 hLo hLo'
          obtain ⟨tv,bad,g,c,k1,k2,k3,k4⟩:=hp6.kids
          have HU:=Lib.hid (k4 ((j : Int) + 1))
          obtain ⟨c0,c1,c2,c3⟩:=cells4 k1
          obtain ⟨L6,hL⟩ : ∃ L,(o ++ (⟨4,0,[],(j : Int)⟩ : Nd) :: (ns ++ n1)).length = L:=⟨_,rfl⟩
          have hLo : o.length < L6:=by rw [← hL]; simp
          have hLo' : (o.length : Int) < (L6 : Int):=by omega
          rw [hL] at c3
          clear hp6 hb6 k1 k4 hL HSUB HB
          go_wp2_with fail
          have HP7:=Lib.hid HU.out.1
          have HB7 : Hid (Below B w (w6.setCell ⟨g,o.length * 4 + 3,none⟩ (.int .i64 ((j : Int) + 1)))):=Lib.hid (HB6.out.trans HU.out.2)
          generalize w6.setCell ⟨g,o.length * 4 + 3,none⟩ (.int .i64 ((j : Int) + 1)) = W7 at *
          clear c0 c1 c2 c3 k2 k3 HU HB6
          go_roundw
          case rel => exact ⟨f,j + 1,ns ++ n1,q1,by omega,by omega,by simp only [List.length_append]; omega,HX2,HP7,HB7⟩
          case measure => rw [HTL.out,HP7.out.tokLen]; omega
      | true =>
        by_cases h0 : j = 0
        ·have h0' : ¬ (0 : Int) < (j : Int):=by omega
         have HX1 : Hid (X = match sub kd q with | .no x => .no x | .ok r1 n1 => blockL sub kd f (j + 1) (ns ++ n1) r1):=Lib.hid (by rw [HXA.out,if_neg (fun h => by omega),if_neg (fun h => by omega)])
         clear HXA h0
         go_wp2_with fail
         ((with_reducible refine HLB.out.mono ?_))
         rintro e w4 ⟨rfl,rfl⟩
         clear HLB
         have HSUB : Hid (Calls Tryz.prog 47 #[.pointer (some ⟨b,0,none⟩),.int .u8 kd.toNat] w3 (SynPost m E B b w3 (o ++ ⟨4,0,[],(j : Int)⟩ :: ns) (sub kd q))) :=
          Lib.hid (HS.out kd q _ w3 HP.out (by omega) (by simp only [List.length_append,List.length_cons]; omega))
         have hgood:=HGD.out kd q
         cases hx : sub kd q with
         | no x =>
           rw [hx] at HSUB
           have HX2 : Hid (X = .no x):=Lib.hid (by rw [HX1.out,hx])
           clear hx hgood HP HTL
           go_wp2_with fail
           ((with_reducible refine HSUB.out.mono ?_))
           rintro e w6 ⟨hb6,rfl,hbad⟩
           have HB6 : Hid (Below B w w6):=Lib.hid (HB.out.trans hb6)
           have HBAD:=Lib.hid hbad
           clear hb6 hbad
           go_wp2_with fail
           go_ret
           rw [hX.out,HX2.out]
           exact ⟨HB6.out,rfl,HBAD.out⟩
         | ok q1 n1 =>
           rw [hx] at HSUB hgood
           obtain ⟨d,hd1,hd2,hd3,hd4⟩:=hgood
           have hql : q1.length + d = q.length:=by rw [hd3,List.length_drop]; omega
           have HX2 : Hid (blockL sub kd f (j + 1) (ns ++ n1) q1 = X):=Lib.hid (by rw [HX1.out,hx])
           clear hx hd3 HP
           go_wp2_with fail
           ((with_reducible refine HSUB.out.mono ?_))
           rintro e w6 ⟨hb6,rfl,hp6⟩
           rw [List.append_assoc,List.cons_append] at hp6
           have HB6 : Hid (Below B w w6):=Lib.hid (HB.out.trans hb6)
           clear c0 c1 c2 c3 k2 hLo hLo'
           obtain ⟨tv,bad,g,c,k1,k2,k3,k4⟩:=hp6.kids
           have HU:=Lib.hid (k4 ((j : Int) + 1))
           obtain ⟨c0,c1,c2,c3⟩:=cells4 k1
           obtain ⟨L6,hL⟩ : ∃ L,(o ++ (⟨4,0,[],(j : Int)⟩ : Nd) :: (ns ++ n1)).length = L:=⟨_,rfl⟩
           have hLo : o.length < L6:=by rw [← hL]; simp
           have hLo' : (o.length : Int) < (L6 : Int):=by omega
           rw [hL] at c3
           clear hp6 hb6 k1 k4 hL HSUB HB
           go_wp2_with fail
           have HP7:=Lib.hid HU.out.1
           have HB7 : Hid (Below B w (w6.setCell ⟨g,o.length * 4 + 3,none⟩ (.int .i64 ((j : Int) + 1)))):=Lib.hid (HB6.out.trans HU.out.2)
           generalize w6.setCell ⟨g,o.length * 4 + 3,none⟩ (.int .i64 ((j : Int) + 1)) = W7 at *
           clear c0 c1 c2 c3 k2 k3 HU HB6
           go_roundw
           case rel => exact ⟨f,j + 1,ns ++ n1,q1,by omega,by omega,by simp only [List.length_append]; omega,HX2,HP7,HB7⟩
           case measure => rw [HTL.out,HP7.out.tokLen]; omega
        ·have h0' : (0 : Int) < (j : Int):=by omega
         have HPU:=Lib.hid (punct_any m E B b 9 w3 q _ HP.out (by omega))
         cases h9 : atT 9 q with
         | false =>
           have HX1 : Hid (X = .no q):=Lib.hid (by rw [HXA.out,if_pos ⟨hlb.out,by omega,h9⟩])
           rw [h9,if_neg (by decide)] at HPU
           clear HXA h9 h0
           go_wp2_with fail
           ((with_reducible refine HLB.out.mono ?_))
           rintro e w4 ⟨rfl,rfl⟩
           go_wp2_with fail
           ((with_reducible refine HPU.out.mono ?_))
           rintro e w5 ⟨hb5,rfl,hbad⟩
           have HB5 : Hid (Below B w w5):=Lib.hid (HB.out.trans hb5)
           have HBAD:=Lib.hid hbad
           clear hb5 hbad
           go_wp2_with fail
           go_ret
           rw [hX.out,HX1.out]
           exact ⟨HB5.out,rfl,HBAD.out⟩
         | true =>
           have HX1 : Hid (X = match sub kd q.tail with | .no x => .no x | .ok r1 n1 => blockL sub kd f (j + 1) (ns ++ n1) r1):=Lib.hid (by rw [HXA.out,if_neg (fun h => by rw [h9] at h; cases h.2.2),if_pos ⟨hlb.out,by omega⟩])
           rw [h9,if_pos rfl] at HPU
           have hqt : q.tail.length + 1 = q.length:=by cases q with | nil => cases h9 | cons a q2 => rfl
           obtain ⟨qt,hqt2⟩ : ∃ z,q.tail = z:=⟨_,rfl⟩
           rw [hqt2] at HX1 HPU hqt
           clear HXA h9 h0 HP hqt2
           go_wp2_with fail
           ((with_reducible refine HLB.out.mono ?_))
           rintro e w4 ⟨rfl,rfl⟩
           go_wp2_with fail
           ((with_reducible refine HPU.out.mono ?_))
           rintro e w5 ⟨hb5,rfl,hp5⟩
           rw [List.append_nil] at hp5
           have HB5 : Hid (Below B w w5):=Lib.hid (HB.out.trans hb5)
           have HP5:=Lib.hid hp5
           clear hb5 hp5 HB HLB HPU
           have HSUB : Hid (Calls Tryz.prog 47 #[.pointer (some ⟨b,0,none⟩),.int .u8 kd.toNat] w5 (SynPost m E B b w5 (o ++ ⟨4,0,[],(j : Int)⟩ :: ns) (sub kd qt))) :=
            Lib.hid (HS.out kd qt _ w5 HP5.out (by omega) (by simp only [List.length_append,List.length_cons]; omega))
           have hgood:=HGD.out kd qt
           cases hx : sub kd qt with
           | no x =>
             rw [hx] at HSUB
             have HX2 : Hid (X = .no x):=Lib.hid (by rw [HX1.out,hx])
             clear hx hgood HP5 HTL
             go_wp2_with fail
             ((with_reducible refine HSUB.out.mono ?_))
             rintro e w6 ⟨hb6,rfl,hbad⟩
             have HB6 : Hid (Below B w w6):=Lib.hid (HB5.out.trans hb6)
             have HBAD:=Lib.hid hbad
             clear hb6 hbad
             go_wp2_with fail
             go_ret
             rw [hX.out,HX2.out]
             exact ⟨HB6.out,rfl,HBAD.out⟩
           | ok q1 n1 =>
             rw [hx] at HSUB hgood
             obtain ⟨d,hd1,hd2,hd3,hd4⟩:=hgood
             have hql : q1.length + d = qt.length:=by rw [hd3,List.length_drop]; omega
             have HX2 : Hid (blockL sub kd f (j + 1) (ns ++ n1) q1 = X):=Lib.hid (by rw [HX1.out,hx])
             clear hx hd3 HP5
             go_wp2_with fail
             ((with_reducible refine HSUB.out.mono ?_))
             rintro e w6 ⟨hb6,rfl,hp6⟩
             rw [List.append_assoc,List.cons_append] at hp6
             have HB6 : Hid (Below B w w6):=Lib.hid (HB5.out.trans hb6)
             clear c0 c1 c2 c3 k2 hLo hLo'
             obtain ⟨tv,bad,g,c,k1,k2,k3,k4⟩:=hp6.kids
             have HU:=Lib.hid (k4 ((j : Int) + 1))
             obtain ⟨c0,c1,c2,c3⟩:=cells4 k1
             obtain ⟨L6,hL⟩ : ∃ L,(o ++ (⟨4,0,[],(j : Int)⟩ : Nd) :: (ns ++ n1)).length = L:=⟨_,rfl⟩
             have hLo : o.length < L6:=by rw [← hL]; simp
             have hLo' : (o.length : Int) < (L6 : Int):=by omega
             rw [hL] at c3
             clear hp6 hb6 k1 k4 hL HSUB HB5
             go_wp2_with fail
             have HP7:=Lib.hid HU.out.1
             have HB7 : Hid (Below B w (w6.setCell ⟨g,o.length * 4 + 3,none⟩ (.int .i64 ((j : Int) + 1)))):=Lib.hid (HB6.out.trans HU.out.2)
             generalize w6.setCell ⟨g,o.length * 4 + 3,none⟩ (.int .i64 ((j : Int) + 1)) = W7 at *
             clear c0 c1 c2 c3 k2 k3 HU HB6
             go_roundw
             case rel => exact ⟨f,j + 1,ns ++ n1,q1,by omega,by omega,by simp only [List.length_append]; omega,HX2,HP7,HB7⟩
             case measure => rw [HTL.out,HP7.out.tokLen]; omega
end Go.Proofs.YtnicnfchkdmieaaGreatDoor
