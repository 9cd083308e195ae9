/- Jd -/
import Derived.Test.YtnicnfchkdmieaaGreatDoorXbf
import Derived.Test.YtnicnfchkdmieaaGreatDoorXbl
set_option linter.unusedVariables false
set_option linter.unusedSimpArgs false
namespace Go.Proofs.YtnicnfchkdmieaaGreatDoor
open Go.RowKit
attribute [local go_sem] ByteArray.mk_append_mk bs_get bs_cut bs_end
def ElW (B b : Nat) (v : Value) (p : List Nd) (m : Int) (d : Nat) : Prop := ∀ (k : UInt8) (i j lv : Nat) (s : List UInt8) (w : World), vAny p d false k i = some j → lv + d ≤ 300 → s.length + (textP (fmtA p d false k i lv []).1).length ≤ 1000000000 → PW w B b v p m s →
    Calls Tryz.prog 44 #[.pointer (some ⟨b,0,none⟩),.int .i64 i,.int .i64 lv] w fun e w' => e = .returned (.int .i64 j) ∧ WrPo w B b v (s ++ textP (fmtA p d false k i lv []).1) w'
def BlW (B b : Nat) (v : Value) (p : List Nd) (m : Int) (d : Nat) : Prop := ∀ (k : UInt8) (i j lv : Nat) (s : List UInt8) (w : World), blkB k = true → vAny p d true k i = some j → lv + d ≤ 300 → s.length + (textP (fmtA p d true k i lv [32]).1).length ≤ 1000000000 → PW w B b v p m s →
    Calls Tryz.prog 127 #[.pointer (some ⟨b,0,none⟩),.int .i64 i,.int .u8 k.toNat,.int .i64 lv] w fun e w' => e = .returned (.int .i64 j) ∧ WrPo w B b v (s ++ textP (fmtA p d true k i lv [32]).1) w'
def OpW (B b : Nat) (v : Value) (p : List Nd) (m : Int) (d : Nat) : Prop := ∀ (ks : List UInt8) (i j lv : Nat) (s : List UInt8) (w : World), shpB ks = true → ks.length ≤ 1000 → nextK (fun k j => vAny p d (blkB k) k j) ks i = some j → lv + d ≤ 300 → s.length + (remT p d lv 0 ks i).length ≤ 1000000000 → PW w B b v p m s →
    Calls Tryz.prog 82 #[.pointer (some ⟨b,0,none⟩),.int .i64 i,.string ⟨ks.toArray⟩,.int .i64 lv] w fun e w' => e = .returned (.int .i64 j) ∧ WrPo w B b v (s ++ remT p d lv 0 ks i) w'
set_option maxRecDepth 100000 in
set_option maxHeartbeats 16000000 in
theorem wblock_step (B b : Nat) (v : Value) (p : List Nd) (m : Int) (d : Nat) (hp : p.length ≤ 1000000) (ih : ElW B b v p m d) : BlW B b v p m (d + 1):=by
 intro k i j lv s w hkb hv hlv hlen hst
 have IH:=Lib.hid ih
 unfold ElW at IH
 have HP0:=Lib.hid hst
 have HK0:=Lib.hid (KpW.refl B b w)
 obtain ⟨n,hn,⟨_,_,_,hn0⟩,hx⟩:=bl_node hv
 have hjp:=(vAny_good p (d + 1) true k i j hv).2
 obtain ⟨hip,hpe⟩:=List.getElem?_eq_some_iff.1 hn
 obtain ⟨M,hM⟩ : ∃ M : Nat,n.pos = M:=⟨n.pos.toNat,by omega⟩
 have hMt : n.pos.toNat = M:=by omega
 rw [hMt] at hx
 have HE : Hid (textP (fmtA p (d + 1) true k i lv [32]).1 = [32,123] ++ (textP (elemsL (fmtA p d) k lv M true (i + 1)).1 ++ (endS k lv M ++ [125]))):=Lib.hid (by
  rw [fmtA,hn]
  simp only [hMt]
  rw [textP_cons,textP_app,textP_cons,textP_nil,List.append_nil]
  rfl)
 rw [HE.out] at hlen ⊢
 have HX:=Lib.hid hx
 have hMb : M ≤ 1000000:=by
  have key : ∀ (m i j : Nat),nextN (vAny p d false k) m i = some j → i + m ≤ j:=by
   intro m
   induction m with
   | zero => intro i j h; rw [nextN] at h; injection h with h; omega
   | succ m ih2 =>
     intro i j h
     rw [nextN] at h
     cases hq : vAny p d false k i with
     | none => rw [hq] at h; cases h
     | some q => rw [hq] at h; have:=ih2 q j h; have:=(vAny_good p d false k i q hq).1; omega
  have:=key M (i + 1) j hx
  omega
 have cP:=hst.1.prog
 obtain ⟨a,cap,rfl,hcc⟩:=hst.2.1.1
 obtain ⟨g,off,rfl,hk⟩:=hcc (by rintro rfl; simp at hip)
 obtain ⟨z0,z1,z2,e3⟩:=hk i hip
 rw [hpe,hM] at e3
 have hip' : (i : Int) < (p.length : Int):=by omega
 obtain ⟨L,hL⟩ : ∃ L,p.length = L:=⟨_,rfl⟩
 rw [hL] at hip' hp hjp HP0 IH cP ⊢
 have HLN:=Lib.hid hlen
 obtain ⟨EL,hEL⟩ : ∃ z,textP (elemsL (fmtA p d) k lv M true (i + 1)).1 = z:=⟨_,rfl⟩
 have HEL:=Lib.hid hEL
 rw [hEL] at HLN
 have HIN0:=Lib.hid (fun w => rep_ind lv w (by omega))
 have HIN1 : Hid (∀ w,Calls Tryz.prog 158 #[.string ⟨#[32,32]⟩,.int .i64 ((lv : Int) + 1)] w fun e w' => e = .returned (.string ⟨(indL (lv + 1)).toArray⟩) ∧ Below w.heap.size w w'):=Lib.hid (fun w => by
  have h:=rep_ind (lv + 1) w (by omega)
  rw [show ((lv + 1 : Nat) : Int) = (lv : Int) + 1 by omega] at h
  exact h)
 rw [hEL]
 obtain ⟨RES,hRES⟩ : ∃ z,s ++ ([32,123] ++ (EL ++ (endS k lv M ++ [125]))) = z:=⟨_,rfl⟩
 have HRES:=Lib.hid hRES
 have HRL : Hid (RES.length ≤ 1000000000):=Lib.hid (by rw [← hRES]; have h0:=HLN.out; simp only [List.length_append,List.length_cons,List.length_nil] at h0 ⊢; omega)
 rw [hRES]
 clear hRES
 clear z0 z1 z2 hcc hk hst hlen hx HE hM hMt hpe hn0 hn hip hv ih hEL
 go_enter Tryz.func127,Tryz.ntmps127
 have HC_a:=Lib.hid (jstr_any B b (.slice (some ⟨g,off,none⟩) L cap) s [32,123] w HP0.out.1 (by have h0:=HLN.out; simp only [List.length_append,List.length_cons,List.length_nil] at h0 ⊢; omega))
 go_wp2_with fail
 ((with_reducible refine HC_a.out.mono ?_))
 rintro e w_a ⟨rfl,hq_a⟩
 clear HC_a
 have HP_a:=Lib.hid (HP0.out.post hq_a)
 have HK_a:=Lib.hid (HK0.out.post hq_a)
 clear hq_a HP0 HK0
 obtain ⟨s1,hs1⟩ : ∃ z,s ++ [32,123] = z:=⟨_,rfl⟩
 have Hs1:=Lib.hid hs1
 rw [hs1] at HP_a
 clear hs1
 clear e3 cP
 cases hlist : listB k with
 | true =>
   have HIL:=Lib.hid (isList_is k true (Lib.hid hlist) w_a)
   go_wp2_with fail
   ((with_reducible refine HIL.out.mono ?_))
   rintro e w8 ⟨rfl,rfl⟩
   clear HIL
   have HRES1 : Hid (s1 ++ (EL ++ [125]) = RES):=Lib.hid (by rw [← HRES.out,← Hs1.out]; unfold endS; rw [if_pos (.inl hlist)]; simp)
   obtain ⟨T,hT⟩ : ∃ T,s1 ++ EL = T:=⟨_,rfl⟩
   have HT:=Lib.hid hT
   have HTL : Hid (T.length ≤ 1000000000):=Lib.hid (by rw [← hT]; have h0:=HRL.out; have h1:=congrArg List.length HRES1.out; simp only [List.length_append,List.length_cons,List.length_nil] at h0 h1 ⊢; omega)
   clear hT
   go_wp2_with fail
   go_loopw [1,28] (fun x y wr => ∃ (q ii : Nat) (st : List UInt8),x = .int .i64 ii ∧ y = .int .i64 q ∧ q ≤ M ∧ Hid (nextN (vAny p d false k) (M - q) ii = some j) ∧ Hid (PW wr B b (.slice (some ⟨g,off,none⟩) L cap) p m st) ∧ Hid (st ++ textP (elemsL (fmtA p d) k lv (M - q) (decide (q = 0)) ii).1 = T) ∧ Hid (KpW B b w wr)) (fun _ y _ => M - (intOf y).toNat)
   case atStart => exact ⟨0,i + 1,s1,by go_num,rfl,by omega,HX,HP_a,Lib.hid (by rw [← HT.out,← HEL.out]; rfl),HK_a⟩
   case round =>
    clear HP_a HK_a HX
    obtain ⟨q,ii,st,rfl,rfl,hq,HX,HP,HEQ,HK⟩:=hrel
    obtain ⟨w3,rfl⟩ : ∃ y : World,y = wr:=⟨_,rfl⟩
    by_cases hlt : q < M
    ·have hlt' : (q : Int) < (M : Int):=by omega
     obtain ⟨m',hMq⟩ : ∃ m',M - q = m' + 1:=⟨M - q - 1,by omega⟩
     have hx2:=HX.out
     rw [hMq,nextN] at hx2
     cases hvx : vAny p d false k ii with
     | none => rw [hvx] at hx2; cases hx2
     | some j1 =>
       rw [hvx] at hx2
       have hv1:=Lib.hid hvx
       have HNX : Hid (nextN (vAny p d false k) (M - (q + 1)) j1 = some j):=Lib.hid (by rw [show M - (q + 1) = m' by omega]; exact hx2)
       obtain ⟨RR,hRR⟩ : ∃ z,textP (elemsL (fmtA p d) k lv m' false j1).1 = z:=⟨_,rfl⟩
       clear hvx hx2 HX
       obtain ⟨E,hE⟩ : ∃ z,textP (fmtA p d false k ii lv []).1 = z:=⟨_,rfl⟩
       have hE':=hE
       by_cases hq0 : q = 0
       ·have hq00 : ¬ (0 : Int) < (q : Int):=by omega
        have HEQ1 : Hid (st ++ ((E ++ RR)) = T):=Lib.hid (by rw [← HEQ.out,hMq,elems_text hv1.out,hRR]; unfold elC elS elV; simp [hlist,hq0,hE',textP_nil])
        clear HEQ
        have HE_c:=Lib.hid (IH.out k ii j1 lv st w3 hv1.out (by omega) (by rw [hE]; have h0:=HTL.out; have h1:=congrArg List.length HEQ1.out; simp only [List.length_append,List.length_cons,List.length_nil] at h0 h1 ⊢; omega) HP.out)
        rw [hE] at HE_c
        go_wp2_with fail
        ((with_reducible refine HE_c.out.mono ?_))
        rintro e w_c ⟨rfl,hq_c⟩
        clear HE_c
        have HP_c:=Lib.hid (HP.out.post hq_c)
        have HK_c:=Lib.hid (HK.out.post hq_c)
        clear hq_c HP HK
        obtain ⟨s4,hs4⟩ : ∃ z,st ++ E = z:=⟨_,rfl⟩
        have Hs4:=Lib.hid hs4
        rw [hs4] at HP_c
        clear hs4
        have HEQ2 : Hid (s4 ++ textP (elemsL (fmtA p d) k lv (M - (q + 1)) (decide (q + 1 = 0)) j1).1 = T):=Lib.hid (by rw [← HEQ1.out,← hRR,show M - (q + 1) = m' by omega,show decide (q + 1 = 0) = false from decide_eq_false (by omega),← Hs4.out]; simp only [List.append_assoc,List.cons_append,List.nil_append])
        go_wp2_with fail
        go_roundw
        case rel => first | exact ⟨q + 1,j1,s4,rfl,by go_num,by omega,HNX,HP_c,HEQ2,HK_c⟩ | exact ⟨_,q + 1,j1,s4,rfl,by go_num,by omega,HNX,HP_c,HEQ2,HK_c⟩
        case measure => simp [intOf]; omega
       ·have hq00 : (0 : Int) < (q : Int):=by omega
        have HEQ1 : Hid (st ++ ([44,32] ++ (E ++ RR)) = T):=Lib.hid (by rw [← HEQ.out,hMq,elems_text hv1.out,hRR]; unfold elC elS elV; simp [hlist,hq0,hE',textP_cons,textP_nil,cmT,fmtT,punC])
        clear HEQ
        have HC_b:=Lib.hid (jstr_any B b (.slice (some ⟨g,off,none⟩) L cap) st [44,32] w3 HP.out.1 (by have h0:=HTL.out; have h1:=congrArg List.length HEQ1.out; simp only [List.length_append,List.length_cons,List.length_nil] at h0 h1 ⊢; omega))
        go_wp2_with fail
        ((with_reducible refine HC_b.out.mono ?_))
        rintro e w_b ⟨rfl,hq_b⟩
        clear HC_b
        have HP_b:=Lib.hid (HP.out.post hq_b)
        have HK_b:=Lib.hid (HK.out.post hq_b)
        clear hq_b HP HK
        obtain ⟨s2,hs2⟩ : ∃ z,st ++ [44,32] = z:=⟨_,rfl⟩
        have Hs2:=Lib.hid hs2
        rw [hs2] at HP_b
        clear hs2
        have HE_c:=Lib.hid (IH.out k ii j1 lv s2 w_b hv1.out (by omega) (by rw [hE]; rw [← Hs2.out]; have h0:=HTL.out; have h1:=congrArg List.length HEQ1.out; simp only [List.length_append,List.length_cons,List.length_nil] at h0 h1 ⊢; omega) HP_b.out)
        rw [hE] at HE_c
        go_wp2_with fail
        ((with_reducible refine HE_c.out.mono ?_))
        rintro e w_c ⟨rfl,hq_c⟩
        clear HE_c
        have HP_c:=Lib.hid (HP_b.out.post hq_c)
        have HK_c:=Lib.hid (HK_b.out.post hq_c)
        clear hq_c HP_b HK_b
        obtain ⟨s4,hs4⟩ : ∃ z,s2 ++ E = z:=⟨_,rfl⟩
        have Hs4:=Lib.hid hs4
        rw [hs4] at HP_c
        clear hs4
        have HEQ2 : Hid (s4 ++ textP (elemsL (fmtA p d) k lv (M - (q + 1)) (decide (q + 1 = 0)) j1).1 = T):=Lib.hid (by rw [← HEQ1.out,← hRR,show M - (q + 1) = m' by omega,show decide (q + 1 = 0) = false from decide_eq_false (by omega),← Hs4.out]; rw [← Hs2.out]; simp only [List.append_assoc,List.cons_append,List.nil_append])
        go_wp2_with fail
        go_roundw
        case rel => first | exact ⟨q + 1,j1,s4,rfl,by go_num,by omega,HNX,HP_c,HEQ2,HK_c⟩ | exact ⟨_,q + 1,j1,s4,rfl,by go_num,by omega,HNX,HP_c,HEQ2,HK_c⟩
        case measure => simp [intOf]; omega
    ·have hlt' : ¬ (q : Int) < (M : Int):=by omega
     have hqM : q = M:=by omega
     subst hqM
     have HEQ0 : Hid (st = T):=Lib.hid (by have:=HEQ.out; rw [Nat.sub_self,elemsL,textP_nil,List.append_nil] at this; exact this)
     have hij : ii = j:=by have:=HX.out; rw [Nat.sub_self,nextN] at this; injection this
     subst hij
     have HC_z:=Lib.hid (jlit_any B b (.slice (some ⟨g,off,none⟩) L cap) st 125 125 rfl w3 HP.out.1 (by have h0:=HRL.out; have h1:=congrArg List.length HRES1.out; rw [HEQ0.out,← HT.out]; simp only [List.length_append,List.length_cons,List.length_nil] at h0 h1 ⊢; omega))
     go_wp2_with fail
     ((with_reducible refine HC_z.out.mono ?_))
     rintro e w_z ⟨rfl,hq_z⟩
     clear HC_z
     have HP_z:=Lib.hid (HP.out.post hq_z)
     have HK_z:=Lib.hid (HK.out.post hq_z)
     clear hq_z HP HK
     obtain ⟨s9,hs9⟩ : ∃ z,st ++ [125] = z:=⟨_,rfl⟩
     have Hs9:=Lib.hid hs9
     rw [hs9] at HP_z
     clear hs9
     go_wp2_with fail
     go_ret
     have hfin : s9 = RES:=by rw [← HRES1.out,← Hs9.out,HEQ0.out,← HT.out]; simp only [List.append_assoc]
     rw [hfin] at HP_z
     exact ⟨rfl,HK_z.out.fin HP_z.out⟩
 | false =>
   have HIL:=Lib.hid (isList_is k false (Lib.hid hlist) w_a)
   go_wp2_with fail
   ((with_reducible refine HIL.out.mono ?_))
   rintro e w8 ⟨rfl,rfl⟩
   clear HIL
   by_cases hM0 : M = 0
   ·subst hM0
    have hM00 : ¬ (0 : Int) < ((0 : Nat) : Int):=by omega
    have HRES1 : Hid (s1 ++ [125] = RES):=Lib.hid (by rw [← HRES.out,← Hs1.out,← HEL.out]; unfold endS; rw [if_pos (.inr rfl),elemsL]; simp [textP_nil])
    have hij : i + 1 = j:=by have:=HX.out; rw [nextN] at this; injection this
    subst hij
    have HC_z:=Lib.hid (jlit_any B b (.slice (some ⟨g,off,none⟩) L cap) s1 125 125 rfl w_a HP_a.out.1 (by have h0:=HRL.out; have h1:=congrArg List.length HRES1.out; simp only [List.length_append,List.length_cons,List.length_nil] at h0 h1 ⊢; omega))
    go_wp2_with fail
    ((with_reducible refine HC_z.out.mono ?_))
    rintro e w_z ⟨rfl,hq_z⟩
    clear HC_z
    have HP_z:=Lib.hid (HP_a.out.post hq_z)
    have HK_z:=Lib.hid (HK_a.out.post hq_z)
    clear hq_z HP_a HK_a
    obtain ⟨s9,hs9⟩ : ∃ z,s1 ++ [125] = z:=⟨_,rfl⟩
    have Hs9:=Lib.hid hs9
    rw [hs9] at HP_z
    clear hs9
    go_wp2_with fail
    go_ret
    have hfin : s9 = RES:=by rw [← HRES1.out,← Hs9.out]
    rw [hfin] at HP_z
    exact ⟨rfl,HK_z.out.fin HP_z.out⟩
   ·have hM00 : (0 : Int) < (M : Int):=by omega
    have HRES1 : Hid (s1 ++ (10 :: (remN p d k lv M (i + 1) ++ (indL lv ++ [125]))) = RES):=Lib.hid (by rw [← HRES.out,← Hs1.out,← HEL.out,← blk_lines hlist lv M (i + 1) j hM0 HX.out]; simp)
    have HC_n:=Lib.hid (jlit_any B b (.slice (some ⟨g,off,none⟩) L cap) s1 10 10 rfl w_a HP_a.out.1 (by have h0:=HRL.out; have h1:=congrArg List.length HRES1.out; simp only [List.length_append,List.length_cons,List.length_nil] at h0 h1 ⊢; omega))
    go_wp2_with fail
    ((with_reducible refine HC_n.out.mono ?_))
    rintro e w_n ⟨rfl,hq_n⟩
    clear HC_n
    have HP_n:=Lib.hid (HP_a.out.post hq_n)
    have HK_n:=Lib.hid (HK_a.out.post hq_n)
    clear hq_n HP_a HK_a
    obtain ⟨s3,hs3⟩ : ∃ z,s1 ++ [10] = z:=⟨_,rfl⟩
    have Hs3:=Lib.hid hs3
    rw [hs3] at HP_n
    clear hs3
    obtain ⟨T,hT⟩ : ∃ T,s3 ++ remN p d k lv M (i + 1) = T:=⟨_,rfl⟩
    have HT:=Lib.hid hT
    have HRES2 : Hid (T ++ (indL lv ++ [125]) = RES):=Lib.hid (by rw [← HRES1.out,← hT,← Hs3.out]; simp)
    have HTL : Hid (T.length ≤ 1000000000):=Lib.hid (by have h0:=HRL.out; have h1:=congrArg List.length HRES2.out; simp only [List.length_append,List.length_cons,List.length_nil] at h0 h1 ⊢; omega)
    clear hT
    go_wp2_with fail
    go_loopw [1,49] (fun x y wr => ∃ (q ii : Nat) (st : List UInt8),x = .int .i64 ii ∧ y = .int .i64 q ∧ q ≤ M ∧ Hid (nextN (vAny p d false k) (M - q) ii = some j) ∧ Hid (PW wr B b (.slice (some ⟨g,off,none⟩) L cap) p m st) ∧ Hid (st ++ remN p d k lv (M - q) ii = T) ∧ Hid (KpW B b w wr)) (fun _ y _ => M - (intOf y).toNat)
    case atStart => exact ⟨0,i + 1,s3,by go_num,rfl,by omega,HX,HP_n,Lib.hid (by rw [← HT.out]; rfl),HK_n⟩
    case round =>
     clear HP_n HK_n HX
     obtain ⟨q,ii,st,rfl,rfl,hq,HX,HP,HEQ,HK⟩:=hrel
     obtain ⟨w3,rfl⟩ : ∃ y : World,y = wr:=⟨_,rfl⟩
     by_cases hlt : q < M
     ·have hlt' : (q : Int) < (M : Int):=by omega
      obtain ⟨m',hMq⟩ : ∃ m',M - q = m' + 1:=⟨M - q - 1,by omega⟩
      have hx2:=HX.out
      rw [hMq,nextN] at hx2
      cases hvx : vAny p d false k ii with
      | none => rw [hvx] at hx2; cases hx2
      | some j1 =>
        rw [hvx] at hx2
        have hv1:=Lib.hid hvx
        have HNX : Hid (nextN (vAny p d false k) (M - (q + 1)) j1 = some j):=Lib.hid (by rw [show M - (q + 1) = m' by omega]; exact hx2)
        obtain ⟨RR,hRR⟩ : ∃ z,remN p d k lv m' j1 = z:=⟨_,rfl⟩
        clear hvx hx2 HX
        obtain ⟨E,hE⟩ : ∃ z,textP (fmtA p d false k ii (lv + 1) []).1 = z:=⟨_,rfl⟩
        have HEQ1 : Hid (st ++ (indL (lv + 1) ++ (E ++ (10 :: RR))) = T):=Lib.hid (by rw [← HEQ.out,hMq,remN]; simp only [fmt_next p d false k ii j1 _ _ hv1.out,hE,hRR])
        clear HEQ
        go_upto_region 16 with fail
        refine wp_region_plan (Grows w3) 6 [.reads [0,1,2,3,4],.act 5,.act 6] (by kernel_rfl) (by kernel_rfl) (by kernel_rfl) (by kernel_rfl) (by kernel_rfl) (fun _ _ d _ _ h => by cases d <;> exact h) (Grows.self _) ?_
        refine wpPlan_reads ?_
        simp only [pickOps,List.drop_succ_cons,List.drop_zero,List.take_succ_cons,List.take_zero,List.cons_append,List.nil_append]
        repeat (go_big_quiet_step (fail))
        refine wpQuiet_nil ?_
        refine wpPlan_act rfl ?_
        simp only [pickOps,List.drop_succ_cons,List.drop_zero,List.take_succ_cons,List.take_zero,List.cons_append,List.nil_append]
        go_wp2_with fail
        ((with_reducible refine (HIN1.out _).mono ?_))
        rintro e wr_b ⟨rfl,hb_b⟩
        have hg_b:=(Grows.self w3).trans hb_b
        clear hb_b
        have HPr_b:=Lib.hid (HP.out.below hg_b)
        have HKr_b:=Lib.hid (HK.out.below HP.out.1.2 hg_b)
        go_wp2_with fail
        refine ⟨fun _ => hg_b,?_⟩
        clear hg_b HP HK
        refine wpPlan_act rfl ?_
        simp only [pickOps,List.drop_succ_cons,List.drop_zero,List.take_succ_cons,List.take_zero,List.cons_append,List.nil_append]
        have HC_b:=Lib.hid (jstr_any B b (.slice (some ⟨g,off,none⟩) L cap) st (indL (lv + 1)) wr_b HPr_b.out.1 (by have h0:=HTL.out; have h1:=congrArg List.length HEQ1.out; simp only [List.length_append,List.length_cons,List.length_nil] at h0 h1 ⊢; omega))
        go_wp2_with fail
        ((with_reducible refine HC_b.out.mono ?_))
        rintro e w_b ⟨rfl,hq_b⟩
        clear HC_b
        have HP_b:=Lib.hid (HPr_b.out.post hq_b)
        have HK_b:=Lib.hid (HKr_b.out.post hq_b)
        clear hq_b HPr_b HKr_b
        obtain ⟨s2,hs2⟩ : ∃ z,st ++ (indL (lv + 1)) = z:=⟨_,rfl⟩
        have Hs2:=Lib.hid hs2
        rw [hs2] at HP_b
        clear hs2
        go_wp2_with fail
        refine ⟨fun h => absurd h (by decide),wpPlan_nil ?_⟩
        have HE_c:=Lib.hid (IH.out k ii j1 (lv + 1) s2 w_b hv1.out (by omega) (by rw [hE]; rw [← Hs2.out]; have h0:=HTL.out; have h1:=congrArg List.length HEQ1.out; simp only [List.length_append,List.length_cons,List.length_nil] at h0 h1 ⊢; omega) HP_b.out)
        rw [hE] at HE_c
        rw [show ((lv + 1 : Nat) : Int) = (lv : Int) + 1 by omega] at HE_c
        go_wp2_with fail
        ((with_reducible refine HE_c.out.mono ?_))
        rintro e w_c ⟨rfl,hq_c⟩
        clear HE_c
        have HP_c:=Lib.hid (HP_b.out.post hq_c)
        have HK_c:=Lib.hid (HK_b.out.post hq_c)
        clear hq_c HP_b HK_b
        obtain ⟨s4,hs4⟩ : ∃ z,s2 ++ E = z:=⟨_,rfl⟩
        have Hs4:=Lib.hid hs4
        rw [hs4] at HP_c
        clear hs4
        have HC_d:=Lib.hid (jlit_any B b (.slice (some ⟨g,off,none⟩) L cap) s4 10 10 rfl w_c HP_c.out.1 (by have h0:=HTL.out; have h1:=congrArg List.length HEQ1.out; rw [← Hs4.out,← Hs2.out]; simp only [List.length_append,List.length_cons,List.length_nil] at h0 h1 ⊢; omega))
        go_wp2_with fail
        ((with_reducible refine HC_d.out.mono ?_))
        rintro e w_d ⟨rfl,hq_d⟩
        clear HC_d
        have HP_d:=Lib.hid (HP_c.out.post hq_d)
        have HK_d:=Lib.hid (HK_c.out.post hq_d)
        clear hq_d HP_c HK_c
        obtain ⟨s5,hs5⟩ : ∃ z,s4 ++ [10] = z:=⟨_,rfl⟩
        have Hs5:=Lib.hid hs5
        rw [hs5] at HP_d
        clear hs5
        have HEQ2 : Hid (s5 ++ remN p d k lv (M - (q + 1)) j1 = T):=Lib.hid (by rw [← HEQ1.out,← hRR,show M - (q + 1) = m' by omega,← Hs5.out,← Hs4.out,← Hs2.out]; simp only [List.append_assoc,List.cons_append,List.nil_append])
        go_wp2_with fail
        go_roundw
        case rel => first | exact ⟨q + 1,j1,s5,rfl,by go_num,by omega,HNX,HP_d,HEQ2,HK_d⟩ | exact ⟨_,q + 1,j1,s5,rfl,by go_num,by omega,HNX,HP_d,HEQ2,HK_d⟩
        case measure => simp [intOf]; omega
     ·have hlt' : ¬ (q : Int) < (M : Int):=by omega
      have hqM : q = M:=by omega
      subst hqM
      have HEQ0 : Hid (st = T):=Lib.hid (by have:=HEQ.out; rw [Nat.sub_self,remN,List.append_nil] at this; exact this)
      have hij : ii = j:=by have:=HX.out; rw [Nat.sub_self,nextN] at this; injection this
      subst hij
      go_upto_region 20 with fail
      refine wp_region_plan (Grows w3) 5 [.reads [0,1,2,3],.act 4,.act 5] (by kernel_rfl) (by kernel_rfl) (by kernel_rfl) (by kernel_rfl) (by kernel_rfl) (fun _ _ d _ _ h => by cases d <;> exact h) (Grows.self _) ?_
      refine wpPlan_reads ?_
      simp only [pickOps,List.drop_succ_cons,List.drop_zero,List.take_succ_cons,List.take_zero,List.cons_append,List.nil_append]
      repeat (go_big_quiet_step (fail))
      refine wpQuiet_nil ?_
      refine wpPlan_act rfl ?_
      simp only [pickOps,List.drop_succ_cons,List.drop_zero,List.take_succ_cons,List.take_zero,List.cons_append,List.nil_append]
      go_wp2_with fail
      ((with_reducible refine (HIN0.out _).mono ?_))
      rintro e wr_y ⟨rfl,hb_y⟩
      have hg_y:=(Grows.self w3).trans hb_y
      clear hb_y
      have HPr_y:=Lib.hid (HP.out.below hg_y)
      have HKr_y:=Lib.hid (HK.out.below HP.out.1.2 hg_y)
      go_wp2_with fail
      refine ⟨fun _ => hg_y,?_⟩
      clear hg_y HP HK
      refine wpPlan_act rfl ?_
      simp only [pickOps,List.drop_succ_cons,List.drop_zero,List.take_succ_cons,List.take_zero,List.cons_append,List.nil_append]
      have HC_y:=Lib.hid (jstr_any B b (.slice (some ⟨g,off,none⟩) L cap) st (indL lv) wr_y HPr_y.out.1 (by rw [HEQ0.out]; have h0:=HRL.out; have h1:=congrArg List.length HRES2.out; simp only [List.length_append,List.length_cons,List.length_nil] at h0 h1 ⊢; omega))
      go_wp2_with fail
      ((with_reducible refine HC_y.out.mono ?_))
      rintro e w_y ⟨rfl,hq_y⟩
      clear HC_y
      have HP_y:=Lib.hid (HPr_y.out.post hq_y)
      have HK_y:=Lib.hid (HKr_y.out.post hq_y)
      clear hq_y HPr_y HKr_y
      obtain ⟨s8,hs8⟩ : ∃ z,st ++ (indL lv) = z:=⟨_,rfl⟩
      have Hs8:=Lib.hid hs8
      rw [hs8] at HP_y
      clear hs8
      go_wp2_with fail
      refine ⟨fun h => absurd h (by decide),wpPlan_nil ?_⟩
      have HC_z:=Lib.hid (jlit_any B b (.slice (some ⟨g,off,none⟩) L cap) s8 125 125 rfl w_y HP_y.out.1 (by have h0:=HRL.out; have h1:=congrArg List.length HRES2.out; rw [← Hs8.out,HEQ0.out]; simp only [List.length_append,List.length_cons,List.length_nil] at h0 h1 ⊢; omega))
      go_wp2_with fail
      ((with_reducible refine HC_z.out.mono ?_))
      rintro e w_z ⟨rfl,hq_z⟩
      clear HC_z
      have HP_z:=Lib.hid (HP_y.out.post hq_z)
      have HK_z:=Lib.hid (HK_y.out.post hq_z)
      clear hq_z HP_y HK_y
      obtain ⟨s9,hs9⟩ : ∃ z,s8 ++ [125] = z:=⟨_,rfl⟩
      have Hs9:=Lib.hid hs9
      rw [hs9] at HP_z
      clear hs9
      go_wp2_with fail
      go_ret
      have hfin : s9 = RES:=by rw [← HRES2.out,← Hs9.out,← Hs8.out,HEQ0.out]; simp only [List.append_assoc]
      rw [hfin] at HP_z
      exact ⟨rfl,HK_z.out.fin HP_z.out⟩
end Go.Proofs.YtnicnfchkdmieaaGreatDoor
