/- Pk -/
import Derived.Test.YtoohondkpddmcaaGreatDoorVbt
set_option linter.unusedVariables false
set_option linter.unusedSimpArgs false
namespace Go.Proofs.YtoohondkpddmcaaGreatDoor
open Go.RowKit
attribute [local go_sem] ByteArray.mk_append_mk bs_get bs_cut bs_end
theorem NV.head {w : World} {B N : Nat} {a : Option Addr} {n c : Nat} (h : NV w B N (.slice a n c)) : ∃ g op,a = some ⟨g,0,none⟩ ∧ 1 ≤ n ∧ w.cell? ⟨g,0,none⟩ = some (.int .i64 op):=by
 obtain ⟨ns,h1,h2,h3,hne,_⟩:=h
 cases ns with
 | nil => exact absurd rfl hne
 | cons t r =>
   have h1':=h1
   rcases h1.2 with ⟨hv,h0⟩ | ⟨g,cap,cur,hv,_⟩
   ·cases h0
   ·injection hv with e1 e2 e3
    subst e1 e2 e3
    refine ⟨g,t.kind,rfl,by simp,?_⟩
    have:=World.ownsRow.cellAt h1' 0 (by rw [List.length_cons]; omega)
    rw [this]
    rfl
set_option maxRecDepth 100000 in
set_option maxHeartbeats 16000000 in
theorem block_step (C : Nat) (dep : Int) (K N : Nat) (hd : -10 ≤ dep ∧ dep ≤ 10) (hK : K ≤ 3000) (hN : 1 + 3 * K ≤ N) (ih : StmtOk C dep K) : BlockOk C dep N:=by
 intro a lp w ha0 ha7 hc
 have HE:=Lib.hid ih
 unfold StmtOk at HE
 have HCW:=Lib.hid hc
 have HN:=Lib.hid (next_any C 4 w hc (by omega) (by omega))
 clear hc ih
 go_enter Tryz.func96,Tryz.ntmps96
 go_wp2_with fail
 ((with_reducible refine HN.out.mono ?_))
 rintro e w2 ⟨k2,rfl,hk2,hc3,hk3⟩
 have HK3:=Lib.hid hk3
 have HC3:=Lib.hid hc3
 clear hc3 hk3 HN
 go_wp2_with fail
 go_loopw [9,10] (fun x i wr => ∃ (v : Value) (vs : List Value) (q : Nat),v = x ∧ i = .int .i64 q ∧ q + vs.length ≤ 3 ∧ Hid (KRow wr w.heap.size v vs) ∧ Hid (NVs wr K vs) ∧ Hid (CSt wr C) ∧ Hid (Keep C w wr)) (fun _ i _ => (intOf i).toNat)
 case atStart => exact ⟨_,[],k2,rfl,rfl,by simp; omega,Lib.hid (KRow.nil _ _),Lib.hid (NVs.nil _ _),HC3,HK3⟩
 case round =>
  clear HC3 HK3
  obtain ⟨v,vs,q,rfl,rfl,hq,HR,HV,HC,HK⟩:=hrel
  obtain ⟨w3,rfl⟩ : ∃ y : World,y = wr:=⟨_,rfl⟩
  by_cases hq0 : 0 < q
  ·have hq1 : (0 : Int) < (q : Int):=by omega
   have HLF:=Lib.hid (left_any C w3 HC.out)
   go_wp2_with fail
   ((with_reducible refine HLF.out.mono ?_))
   rintro e w4 ⟨lb,rfl,hc4,hkk4⟩
   have HR4:=Lib.hid (HR.out.keep HC.out hkk4)
   have HV4:=Lib.hid (HV.out.keep HC.out hkk4)
   have HK4:=Lib.hid (HK.out.trans hkk4)
   have HC4:=Lib.hid hc4
   clear hc4 hkk4 HR HV HK HC HLF
   cases lb with
   | false =>
     have HMUL : Hid (vs.length * K ≤ 3 * K):=Lib.hid (Nat.mul_le_mul_right K (by omega))
     obtain ⟨av,cv,rfl⟩:=HR4.out.form
     have HG:=Lib.hid (kNode_any 4 _ vs (List.replicate vs.length K) w4 (fun h => by unfold NestP at h; omega) HR4.out.sl (by simp) HV4.out.each (by omega) (by rw [sum_rep]; have:=HMUL.out; omega))
     rw [sum_rep] at HG
     go_wp2_with fail
     ((with_reducible refine HG.out.mono ?_))
     rintro e w9 ⟨v9,rfl,hv9,hb9⟩
     have HV9:=Lib.hid ((hv9.base (B':=w.heap.size) HK4.out.size).more (M:=N) (by have:=HMUL.out; omega))
     have HC9:=Lib.hid (HC4.out.keep hb9)
     have HK9:=Lib.hid (HK4.out.trans (Keep.of hb9))
     clear hv9 hb9
     go_wp2_with fail
     go_ret
     exact ⟨_,rfl,HV9.out,HC9.out,HK9.out⟩
   | true =>
     have HDD:=Lib.hid (HE.out a lp w4 ha0 ha7 HC4.out)
     unfold GPost at HDD
     go_wp2_with fail
     ((with_reducible refine HDD.out.mono ?_))
     rintro e w5 ⟨v5,rfl,hv5,hc5,hk5⟩
     obtain ⟨a5,n5,c5,rfl⟩:=hv5.form
     have HR5:=Lib.hid (HR4.out.keep HC4.out hk5)
     have HV5:=Lib.hid (HV4.out.keep HC4.out hk5)
     have HC5:=Lib.hid hc5
     have HK5:=Lib.hid (HK4.out.trans hk5)
     have HT5:=Lib.hid hv5
     clear hv5 hc5 hk5 HR4 HV4 HC4 HK4
     have hal : Below w5.heap.size w5 (w5.alloc (.cells #[.slice a5 n5 c5] 24)):=(Below.refl _ _).alloc (Nat.le_refl _) _
     have HT6:=Lib.hid (HT5.out.below hal)
     have HR6:=Lib.hid (HR5.out.below hal)
     have HV6:=Lib.hid ((HV5.out.below hal).snoc ((HT5.out.below hal).base (Nat.zero_le _)))
     have HC6:=Lib.hid (HC5.out.keep hal)
     have HK6:=Lib.hid (HK5.out.trans (Keep.of hal))
     have HNN : Hid ((w5.alloc (.cells #[.slice a5 n5 c5] 24)).heap[w5.heap.size]? = some (.cells #[.slice a5 n5 c5] 24 (0,0))):=Lib.hid (heap_alloc_new _ _)
     have hone:=HT5.out.one
     clear HR5 HV5 HC5 HK5 hal
     go_wp2_with (at_builtin; refine wpList_append_kid rfl _ _ rfl w.heap.size v vs rfl HR6.out w5.heap.size (.slice a5 n5 c5) hone rfl HNN.out (by omega) HK6.out.size ?_; intro v7 w7 ho hg; have HO:=Lib.hid ho; have HG7:=Lib.hid hg; clear ho hg)
     have HV7:=Lib.hid (HV6.out.grownRow HR6.out HG7.out)
     have HC7:=Lib.hid (HC6.out.grown HG7.out (fun g h => by have:=own_row HR6.out h; have:=HCW.out.lt; omega))
     have HK7:=Lib.hid (HK6.out.grown HG7.out (fun g h => own_row HR6.out h))
     have HT7:=Lib.hid (HT6.out.grownRow HR6.out HG7.out)
     obtain ⟨g5,op5,rfl,hn5,h5⟩:=HT7.out.head
     obtain ⟨m5,rfl⟩ : ∃ m5,n5 = m5 + 1:=⟨n5 - 1,by omega⟩
     have hn5' : (0 : Int) < ((m5 + 1 : Nat) : Int):=by omega
     have hn6 : (0 : Int) < (m5 : Int) + 1:=by omega
     clear HR6 HV6 HC6 HK6 HNN HG7 hone HT5 HT6 HT7
     go_simp
     by_cases o33 : op5 = 33
     ·subst o33
      obtain ⟨us,hus⟩ : ∃ us,vs ++ [.slice (some ⟨g5,0,none⟩) (m5 + 1) c5] = us:=⟨_,rfl⟩
      have hul : us.length ≤ 3:=by rw [← hus,List.length_append,List.length_singleton]; omega
      rw [hus] at HO HV7
      clear hus
      have HMUL : Hid (us.length * K ≤ 3 * K):=Lib.hid (Nat.mul_le_mul_right K (by omega))
      obtain ⟨av,cv,rfl⟩:=HO.out.form
      have HG:=Lib.hid (kNode_any 4 _ us (List.replicate us.length K) w7 (fun h => by unfold NestP at h; omega) HO.out.sl (by simp) HV7.out.each (by omega) (by rw [sum_rep]; have:=HMUL.out; omega))
      rw [sum_rep] at HG
      go_wp2_with fail
      ((with_reducible refine HG.out.mono ?_))
      rintro e w9 ⟨v9,rfl,hv9,hb9⟩
      have HV9:=Lib.hid ((hv9.base (B':=w.heap.size) HK7.out.size).more (M:=N) (by have:=HMUL.out; omega))
      have HC9:=Lib.hid (HC7.out.keep hb9)
      have HK9:=Lib.hid (HK7.out.trans (Keep.of hb9))
      clear hv9 hb9
      go_wp2_with fail
      go_ret
      exact ⟨_,rfl,HV9.out,HC9.out,HK9.out⟩
     by_cases o34 : op5 = 34
     ·subst o34
      obtain ⟨us,hus⟩ : ∃ us,vs ++ [.slice (some ⟨g5,0,none⟩) (m5 + 1) c5] = us:=⟨_,rfl⟩
      have hul : us.length ≤ 3:=by rw [← hus,List.length_append,List.length_singleton]; omega
      rw [hus] at HO HV7
      clear hus
      have HMUL : Hid (us.length * K ≤ 3 * K):=Lib.hid (Nat.mul_le_mul_right K (by omega))
      obtain ⟨av,cv,rfl⟩:=HO.out.form
      have HG:=Lib.hid (kNode_any 4 _ us (List.replicate us.length K) w7 (fun h => by unfold NestP at h; omega) HO.out.sl (by simp) HV7.out.each (by omega) (by rw [sum_rep]; have:=HMUL.out; omega))
      rw [sum_rep] at HG
      go_wp2_with fail
      ((with_reducible refine HG.out.mono ?_))
      rintro e w9 ⟨v9,rfl,hv9,hb9⟩
      have HV9:=Lib.hid ((hv9.base (B':=w.heap.size) HK7.out.size).more (M:=N) (by have:=HMUL.out; omega))
      have HC9:=Lib.hid (HC7.out.keep hb9)
      have HK9:=Lib.hid (HK7.out.trans (Keep.of hb9))
      clear hv9 hb9
      go_wp2_with fail
      go_ret
      exact ⟨_,rfl,HV9.out,HC9.out,HK9.out⟩
     by_cases o35 : op5 = 35
     ·subst o35
      obtain ⟨us,hus⟩ : ∃ us,vs ++ [.slice (some ⟨g5,0,none⟩) (m5 + 1) c5] = us:=⟨_,rfl⟩
      have hul : us.length ≤ 3:=by rw [← hus,List.length_append,List.length_singleton]; omega
      rw [hus] at HO HV7
      clear hus
      have HMUL : Hid (us.length * K ≤ 3 * K):=Lib.hid (Nat.mul_le_mul_right K (by omega))
      obtain ⟨av,cv,rfl⟩:=HO.out.form
      have HG:=Lib.hid (kNode_any 4 _ us (List.replicate us.length K) w7 (fun h => by unfold NestP at h; omega) HO.out.sl (by simp) HV7.out.each (by omega) (by rw [sum_rep]; have:=HMUL.out; omega))
      rw [sum_rep] at HG
      go_wp2_with fail
      ((with_reducible refine HG.out.mono ?_))
      rintro e w9 ⟨v9,rfl,hv9,hb9⟩
      have HV9:=Lib.hid ((hv9.base (B':=w.heap.size) HK7.out.size).more (M:=N) (by have:=HMUL.out; omega))
      have HC9:=Lib.hid (HC7.out.keep hb9)
      have HK9:=Lib.hid (HK7.out.trans (Keep.of hb9))
      clear hv9 hb9
      go_wp2_with fail
      go_ret
      exact ⟨_,rfl,HV9.out,HC9.out,HK9.out⟩
     have t33 : (op5 == 33) = false:=by rw [beq_eq_false_iff_ne]; exact o33
     have t34 : (op5 == 34) = false:=by rw [beq_eq_false_iff_ne]; exact o34
     have t35 : (op5 == 35) = false:=by rw [beq_eq_false_iff_ne]; exact o35
     go_wp2_with fail
     go_roundw
     case rel => first | exact ⟨vs ++ [.slice (some ⟨g5,0,none⟩) (m5 + 1) c5],q - 1,by go_num,by rw [List.length_append,List.length_singleton]; omega,HO,HV7,HC7,HK7⟩ | exact ⟨_,vs ++ [.slice (some ⟨g5,0,none⟩) (m5 + 1) c5],q - 1,rfl,by go_num,by rw [List.length_append,List.length_singleton]; omega,HO,HV7,HC7,HK7⟩
     case measure => simp [intOf]; omega
  ·have hq1 : ¬ (0 : Int) < (q : Int):=by omega
   have HMUL : Hid (vs.length * K ≤ 3 * K):=Lib.hid (Nat.mul_le_mul_right K (by omega))
   obtain ⟨av,cv,rfl⟩:=HR.out.form
   have HG:=Lib.hid (kNode_any 4 _ vs (List.replicate vs.length K) w3 (fun h => by unfold NestP at h; omega) HR.out.sl (by simp) HV.out.each (by omega) (by rw [sum_rep]; have:=HMUL.out; omega))
   rw [sum_rep] at HG
   go_wp2_with fail
   ((with_reducible refine HG.out.mono ?_))
   rintro e w9 ⟨v9,rfl,hv9,hb9⟩
   have HV9:=Lib.hid ((hv9.base (B':=w.heap.size) HK.out.size).more (M:=N) (by have:=HMUL.out; omega))
   have HC9:=Lib.hid (HC.out.keep hb9)
   have HK9:=Lib.hid (HK.out.trans (Keep.of hb9))
   clear hv9 hb9
   go_wp2_with fail
   go_ret
   exact ⟨_,rfl,HV9.out,HC9.out,HK9.out⟩
end Go.Proofs.YtoohondkpddmcaaGreatDoor
