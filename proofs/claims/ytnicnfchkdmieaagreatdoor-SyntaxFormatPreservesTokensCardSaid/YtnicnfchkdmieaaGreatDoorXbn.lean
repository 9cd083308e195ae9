/- Je -/
import Derived.Test.YtnicnfchkdmieaaGreatDoorXbm
set_option linter.unusedVariables false
set_option linter.unusedSimpArgs false
namespace Go.Proofs.YtnicnfchkdmieaaGreatDoor
open Go.RowKit
attribute [local go_sem] ByteArray.mk_append_mk bs_get bs_cut bs_end
theorem pv_at {ks : List UInt8} {q : Nat} {k : UInt8} (h : ks[q]? = some k) : pvAt ks (q + 1) = if blkB k = true then 2 else 1:=by
 rw [pvAt,List.getD,h]; rfl
theorem pv_ne {ks : List UInt8} (q : Nat) : 0 < q → pvAt ks q ≠ 0:=by
 intro h
 cases q with
 | zero => omega
 | succ q => rw [pvAt]; split <;> omega
set_option maxRecDepth 100000 in
set_option maxHeartbeats 16000000 in
theorem wops_step (B b : Nat) (v : Value) (p : List Nd) (m : Int) (d : Nat) (hp : p.length ≤ 1000000) (ihe : ElW B b v p m d) (ihb : BlW B b v p m d) : OpW B b v p m d:=by
 intro ks i j lv s w hsh hkl hx hlv hlen hst
 have IHE:=Lib.hid ihe
 have IHB:=Lib.hid ihb
 unfold ElW at IHE
 unfold BlW at IHB
 have HP0:=Lib.hid hst
 have HK0:=Lib.hid (KpW.refl B b w)
 obtain ⟨RES,hRES⟩ : ∃ z,s ++ remT p d lv 0 ks i = z:=⟨_,rfl⟩
 have HRES:=Lib.hid hRES
 have HTL : Hid (RES.length ≤ 1000000000):=Lib.hid (by rw [← hRES,List.length_append]; exact hlen)
 rw [hRES]
 have hks0 : ks.length ≤ 1000:=hkl
 have HX : Hid (nextK (fun k j => vAny p d (blkB k) k j) (ks.drop 0) i = some j):=Lib.hid hx
 have hilo : i ≤ 1000000 ∧ j ≤ 1000000 ∨ ks = []:=by
  by_cases h : ks = []
  ·exact .inr h
  ·left
   cases ks with
   | nil => exact absurd rfl h
   | cons k r =>
     rw [nextK] at hx
     cases hq : vAny p d (blkB k) k i with
     | none => rw [hq] at hx; cases hx
     | some q =>
       obtain ⟨h1,h2⟩:=vAny_good p d (blkB k) k i q hq
       rw [hq] at hx
       have h3:=nextK_good (fun k i j h => vAny_good p d (blkB k) k i j h) r q j hx h2
       omega
 have HLO:=Lib.hid hilo
 clear hRES hlen hst hx hkl hilo ihe ihb hsh
 go_enter Tryz.func82,Tryz.ntmps82
 go_wp2_with fail
 go_loopw [1,12] (fun x y wr => ∃ (q ii : Nat) (st : List UInt8),x = .int .i64 ii ∧ y = .int .i64 q ∧ q ≤ ks.length ∧ Hid (nextK (fun k j => vAny p d (blkB k) k j) (ks.drop q) ii = some j) ∧ Hid (PW wr B b v p m st) ∧ Hid (st ++ remT p d lv (pvAt ks q) (ks.drop q) ii = RES) ∧ Hid (KpW B b w wr)) (fun _ y _ => ks.length - (intOf y).toNat)
 case atStart => exact ⟨0,i,s,rfl,rfl,by omega,HX,HP0,Lib.hid HRES.out,HK0⟩
 case round =>
  clear HP0 HK0 HX
  obtain ⟨q,ii,st,rfl,rfl,hq,HX,HP,HEQ,HK⟩:=hrel
  obtain ⟨w3,rfl⟩ : ∃ y : World,y = wr:=⟨_,rfl⟩
  by_cases hlt : q < ks.length
  ·have hlt' : (q : Int) < (ks.length : Int):=by omega
   have hdr:=List.drop_eq_getElem_cons hlt
   have hkq0:=List.getElem?_eq_getElem hlt
   obtain ⟨kq,hkq⟩ : ∃ z,ks[q] = z:=⟨_,rfl⟩
   rw [hkq] at hdr hkq0
   have hpv:=pv_at hkq0
   have HXX:=HX.out
   rw [hdr,nextK] at HXX
   have HEQ0:=HEQ.out
   rw [hdr] at HEQ0
   clear HX HEQ
   cases hb : blkB kq with
   | true =>
     simp only [hb] at HXX
     rw [hb,if_pos rfl] at hpv
     cases hvx : vAny p d true kq ii with
     | none => rw [hvx] at HXX; cases HXX
     | some j1 =>
       rw [hvx] at HXX
       have HNX : Hid (nextK (fun k j => vAny p d (blkB k) k j) (ks.drop (q + 1)) j1 = some j):=Lib.hid HXX
       have HV1:=Lib.hid hvx
       have hvg:=vAny_good p d true kq ii j1 hvx
       have hn2:=fmt_nx (lv:=lv) (lv':=lv) (s:=[32]) (s':=[]) hvx
       have hn3:=fmt_next p d true kq ii j1 lv [32] hvx
       rw [remT,if_pos hb,hn3] at HEQ0
       have hpv2:=hpv
       obtain ⟨RR,hRR⟩ : ∃ z,remT p d lv 2 (ks.drop (q + 1)) j1 = z:=⟨_,rfl⟩
       obtain ⟨E,hE⟩ : ∃ z,textP (fmtA p d true kq ii lv [32]).1 = z:=⟨_,rfl⟩
       rw [hRR,hE] at HEQ0
       have HPV:=Lib.hid hpv
       have HBI:=Lib.hid (fun w => isBlk_is kq true (Lib.hid hb) w)
       have HBB:=Lib.hid hb
       have HDR:=Lib.hid hdr
       clear hdr hkq0 hpv hpv2 HXX hvx hn2 hn3
       by_cases hq0 : 0 < q
       ·have hq00 : (0 : Int) < (q : Int):=by omega
        obtain ⟨r,hr⟩ : ∃ r : Nat,(q : Int) - 1 = (r : Int):=⟨q - 1,by omega⟩
        have hrl : r < ks.length:=by omega
        have hrl' : (r : Int) < (ks.length : Int):=by omega
        have hkr0:=List.getElem?_eq_getElem hrl
        obtain ⟨kr,hkr⟩ : ∃ z,ks[r] = z:=⟨_,rfl⟩
        rw [hkr] at hkr0
        have hpr:=pv_at hkr0
        rw [show r + 1 = q by omega] at hpr
        rw [hpr] at HEQ0
        clear hpr hkr0
        cases hbr : blkB kr with
        | true =>
          have HBR:=Lib.hid (fun w => isBlk_is kr true (Lib.hid hbr) w)
          have HEQ1 : Hid (st ++ ([32,69,108,115,101] ++ (E ++ RR)) = RES):=Lib.hid (by rw [← HEQ0,hbr]; rfl)
          clear HEQ0
          go_wp2_with fail
          ((with_reducible refine (HBI.out _).mono ?_))
          rintro e w8 ⟨rfl,rfl⟩
          go_wp2_with fail
          ((with_reducible refine (HBR.out _).mono ?_))
          rintro e w8 ⟨rfl,rfl⟩
          have HC_b:=Lib.hid (jstr_any B b v st [32,69,108,115,101] w3 HP.out.1 (by have h0:=HTL.out; have h1:=congrArg List.length HEQ1.out; simp only [List.length_append,List.length_cons,List.length_nil] at h0 h1 ⊢; omega))
          go_wp2_with fail
          ((with_reducible refine HC_b.out.mono ?_))
          rintro e w_b ⟨rfl,hq_b⟩
          clear HC_b
          have HP_b:=Lib.hid (HP.out.post hq_b)
          have HK_b:=Lib.hid (HK.out.post hq_b)
          clear hq_b HP HK
          obtain ⟨s2,hs2⟩ : ∃ z,st ++ [32,69,108,115,101] = z:=⟨_,rfl⟩
          have Hs2:=Lib.hid hs2
          rw [hs2] at HP_b
          clear hs2
          have HE_c:=Lib.hid (IHB.out kq ii j1 lv s2 w_b HBB.out HV1.out (by omega) (by rw [hE]; rw [← Hs2.out]; have h0:=HTL.out; have h1:=congrArg List.length HEQ1.out; simp only [List.length_append,List.length_cons,List.length_nil] at h0 h1 ⊢; omega) HP_b.out)
          rw [hE] at HE_c
          go_wp2_with fail
          ((with_reducible refine HE_c.out.mono ?_))
          rintro e w_c ⟨rfl,hq_c⟩
          clear HE_c
          have HP_c:=Lib.hid (HP_b.out.post hq_c)
          have HK_c:=Lib.hid (HK_b.out.post hq_c)
          clear hq_c HP_b HK_b
          obtain ⟨s4,hs4⟩ : ∃ z,s2 ++ E = z:=⟨_,rfl⟩
          have Hs4:=Lib.hid hs4
          rw [hs4] at HP_c
          clear hs4
          have HEQ2 : Hid (s4 ++ remT p d lv (pvAt ks (q + 1)) (ks.drop (q + 1)) j1 = RES):=Lib.hid (by rw [HPV.out,hRR]; rw [← HEQ1.out,← Hs4.out,← Hs2.out]; simp only [List.append_assoc,List.cons_append,List.nil_append])
          go_wp2_with fail
          go_roundw
          case rel => first | exact ⟨q + 1,j1,s4,rfl,by go_num,by omega,HNX,HP_c,HEQ2,HK_c⟩ | exact ⟨_,q + 1,j1,s4,rfl,by go_num,by omega,HNX,HP_c,HEQ2,HK_c⟩
          case measure => simp [intOf]; omega
        | false =>
          have HBR:=Lib.hid (fun w => isBlk_is kr false (Lib.hid hbr) w)
          have HEQ1 : Hid (st ++ (E ++ RR) = RES):=Lib.hid (by rw [← HEQ0,hbr]; rfl)
          clear HEQ0
          go_wp2_with fail
          ((with_reducible refine (HBI.out _).mono ?_))
          rintro e w8 ⟨rfl,rfl⟩
          go_wp2_with fail
          ((with_reducible refine (HBR.out _).mono ?_))
          rintro e w8 ⟨rfl,rfl⟩
          have HE_c:=Lib.hid (IHB.out kq ii j1 lv st w3 HBB.out HV1.out (by omega) (by rw [hE]; have h0:=HTL.out; have h1:=congrArg List.length HEQ1.out; simp only [List.length_append,List.length_cons,List.length_nil] at h0 h1 ⊢; omega) HP.out)
          rw [hE] at HE_c
          go_wp2_with fail
          ((with_reducible refine HE_c.out.mono ?_))
          rintro e w_c ⟨rfl,hq_c⟩
          clear HE_c
          have HP_c:=Lib.hid (HP.out.post hq_c)
          have HK_c:=Lib.hid (HK.out.post hq_c)
          clear hq_c HP HK
          obtain ⟨s4,hs4⟩ : ∃ z,st ++ E = z:=⟨_,rfl⟩
          have Hs4:=Lib.hid hs4
          rw [hs4] at HP_c
          clear hs4
          have HEQ2 : Hid (s4 ++ remT p d lv (pvAt ks (q + 1)) (ks.drop (q + 1)) j1 = RES):=Lib.hid (by rw [HPV.out,hRR]; rw [← HEQ1.out,← Hs4.out]; simp only [List.append_assoc,List.cons_append,List.nil_append])
          go_wp2_with fail
          go_roundw
          case rel => first | exact ⟨q + 1,j1,s4,rfl,by go_num,by omega,HNX,HP_c,HEQ2,HK_c⟩ | exact ⟨_,q + 1,j1,s4,rfl,by go_num,by omega,HNX,HP_c,HEQ2,HK_c⟩
          case measure => simp [intOf]; omega
       ·have hq00 : ¬ (0 : Int) < (q : Int):=by omega
        have HEQ1 : Hid (st ++ (E ++ RR) = RES):=Lib.hid (by rw [← HEQ0,show pvAt ks q = 0 by rw [show q = 0 by omega]; rfl]; rfl)
        clear HEQ0
        go_wp2_with fail
        ((with_reducible refine (HBI.out _).mono ?_))
        rintro e w8 ⟨rfl,rfl⟩
        have HE_c:=Lib.hid (IHB.out kq ii j1 lv st w3 HBB.out HV1.out (by omega) (by rw [hE]; have h0:=HTL.out; have h1:=congrArg List.length HEQ1.out; simp only [List.length_append,List.length_cons,List.length_nil] at h0 h1 ⊢; omega) HP.out)
        rw [hE] at HE_c
        go_wp2_with fail
        ((with_reducible refine HE_c.out.mono ?_))
        rintro e w_c ⟨rfl,hq_c⟩
        clear HE_c
        have HP_c:=Lib.hid (HP.out.post hq_c)
        have HK_c:=Lib.hid (HK.out.post hq_c)
        clear hq_c HP HK
        obtain ⟨s4,hs4⟩ : ∃ z,st ++ E = z:=⟨_,rfl⟩
        have Hs4:=Lib.hid hs4
        rw [hs4] at HP_c
        clear hs4
        have HEQ2 : Hid (s4 ++ remT p d lv (pvAt ks (q + 1)) (ks.drop (q + 1)) j1 = RES):=Lib.hid (by rw [HPV.out,hRR]; rw [← HEQ1.out,← Hs4.out]; simp only [List.append_assoc,List.cons_append,List.nil_append])
        go_wp2_with fail
        go_roundw
        case rel => first | exact ⟨q + 1,j1,s4,rfl,by go_num,by omega,HNX,HP_c,HEQ2,HK_c⟩ | exact ⟨_,q + 1,j1,s4,rfl,by go_num,by omega,HNX,HP_c,HEQ2,HK_c⟩
        case measure => simp [intOf]; omega
   | false =>
     simp only [hb] at HXX
     rw [hb,if_neg (by decide)] at hpv
     cases hvx : vAny p d false kq ii with
     | none => rw [hvx] at HXX; cases HXX
     | some j1 =>
       rw [hvx] at HXX
       have HNX : Hid (nextK (fun k j => vAny p d (blkB k) k j) (ks.drop (q + 1)) j1 = some j):=Lib.hid HXX
       have HV1:=Lib.hid hvx
       have hvg:=vAny_good p d false kq ii j1 hvx
       have hn3:=fmt_next p d false kq ii j1 lv [] hvx
       rw [remT,if_neg (by rw [hb]; decide),hn3] at HEQ0
       obtain ⟨RR,hRR⟩ : ∃ z,remT p d lv 1 (ks.drop (q + 1)) j1 = z:=⟨_,rfl⟩
       obtain ⟨E,hE⟩ : ∃ z,textP (fmtA p d false kq ii lv []).1 = z:=⟨_,rfl⟩
       rw [hRR,hE] at HEQ0
       have HPV:=Lib.hid hpv
       have HBI:=Lib.hid (fun w => isBlk_is kq false (Lib.hid hb) w)
       have HDR:=Lib.hid hdr
       have hways : q + 1 = ks.length ∨ ∃ h : q + 1 < ks.length,True:=by
        rcases Nat.lt_or_ge (q + 1) ks.length with h | h
        ·exact .inr ⟨h,trivial⟩
        ·exact .inl (by omega)
       clear hdr hkq0 hpv HXX hvx hn3
       by_cases hq0 : q = 0
       ·have hq00 : (q : Int) = 0:=by omega
        have HPA : Hid (pvAt ks q = 0):=Lib.hid (by rw [hq0]; rfl)
        have HEQ1 : Hid (st ++ ([32,40] ++ (E ++ (closeT (ks.drop (q + 1)) ++ RR))) = RES):=Lib.hid (by rw [← HEQ0,HPA.out]; rfl)
        have HQ0:=Lib.hid hq00
        have ht0 : ((q : Int) == 0) = true:=by rw [beq_iff_eq]; exact hq00
        clear HEQ0 hq00 hq0
        go_wp2_with fail
        ((with_reducible refine (HBI.out _).mono ?_))
        rintro e w8 ⟨rfl,rfl⟩
        have HC_b:=Lib.hid (jstr_any B b v st [32,40] w3 HP.out.1 (by have h0:=HTL.out; have h1:=congrArg List.length HEQ1.out; simp only [List.length_append,List.length_cons,List.length_nil] at h0 h1 ⊢; omega))
        go_wp2_with fail
        ((with_reducible refine HC_b.out.mono ?_))
        rintro e w_b ⟨rfl,hq_b⟩
        clear HC_b
        have HP_b:=Lib.hid (HP.out.post hq_b)
        have HK_b:=Lib.hid (HK.out.post hq_b)
        clear hq_b HP HK
        obtain ⟨s2,hs2⟩ : ∃ z,st ++ [32,40] = z:=⟨_,rfl⟩
        have Hs2:=Lib.hid hs2
        rw [hs2] at HP_b
        clear hs2
        have HE_c:=Lib.hid (IHE.out kq ii j1 lv s2 w_b HV1.out (by omega) (by rw [hE]; rw [← Hs2.out]; have h0:=HTL.out; have h1:=congrArg List.length HEQ1.out; simp only [List.length_append,List.length_cons,List.length_nil] at h0 h1 ⊢; omega) HP_b.out)
        rw [hE] at HE_c
        go_wp2_with fail
        ((with_reducible refine HE_c.out.mono ?_))
        rintro e w_c ⟨rfl,hq_c⟩
        clear HE_c
        have HP_c:=Lib.hid (HP_b.out.post hq_c)
        have HK_c:=Lib.hid (HK_b.out.post hq_c)
        clear hq_c HP_b HK_b
        obtain ⟨s4,hs4⟩ : ∃ z,s2 ++ E = z:=⟨_,rfl⟩
        have Hs4:=Lib.hid hs4
        rw [hs4] at HP_c
        clear hs4
        rcases hways with hqe | ⟨hqn,_⟩
        ·have hne : ((q : Int) + 1 == (ks.length : Int)) = true:=by rw [beq_iff_eq]; omega
         have HCL : Hid (closeT (ks.drop (q + 1)) = [41]):=Lib.hid (by rw [List.drop_eq_nil_of_le (by omega)]; rfl)
         clear hqe
         have HC_d:=Lib.hid (jlit_any B b v s4 41 41 rfl w_c HP_c.out.1 (by have h0:=HTL.out; have h1:=congrArg List.length HEQ1.out; rw [HCL.out] at h1; rw [← Hs4.out,← Hs2.out]; simp only [List.length_append,List.length_cons,List.length_nil] at h0 h1 ⊢; omega))
         go_wp2_with fail
         ((with_reducible refine HC_d.out.mono ?_))
         rintro e w_d ⟨rfl,hq_d⟩
         clear HC_d
         have HP_d:=Lib.hid (HP_c.out.post hq_d)
         have HK_d:=Lib.hid (HK_c.out.post hq_d)
         clear hq_d HP_c HK_c
         obtain ⟨s5,hs5⟩ : ∃ z,s4 ++ [41] = z:=⟨_,rfl⟩
         have Hs5:=Lib.hid hs5
         rw [hs5] at HP_d
         clear hs5
         have HEQ2 : Hid (s5 ++ remT p d lv (pvAt ks (q + 1)) (ks.drop (q + 1)) j1 = RES):=Lib.hid (by rw [HPV.out,hRR]; rw [← HEQ1.out,HCL.out,← Hs5.out,← Hs4.out,← Hs2.out]; simp only [List.append_assoc,List.cons_append,List.nil_append])
         go_wp2_with fail
         go_roundw
         case rel => first | exact ⟨q + 1,j1,s5,rfl,by go_num,by omega,HNX,HP_d,HEQ2,HK_d⟩ | exact ⟨_,q + 1,j1,s5,rfl,by go_num,by omega,HNX,HP_d,HEQ2,HK_d⟩
         case measure => simp [intOf]; omega
        ·have hqn' : (q : Int) + 1 < (ks.length : Int):=by omega
         have hne : ((q : Int) + 1 == (ks.length : Int)) = false:=by rw [beq_eq_false_iff_ne]; omega
         have hdn:=List.drop_eq_getElem_cons hqn
         obtain ⟨kn,hkn⟩ : ∃ z,ks[q + 1] = z:=⟨_,rfl⟩
         rw [hkn] at hdn
         cases hbn : blkB kn with
         | true =>
           have HBN:=Lib.hid (fun w => isBlk_is kn true (Lib.hid hbn) w)
           have HCL : Hid (closeT (ks.drop (q + 1)) = [41]):=Lib.hid (by rw [hdn,closeT,hbn]; rfl)
           clear hdn
           go_wp2_with fail
           ((with_reducible refine (HBN.out _).mono ?_))
           rintro e w8 ⟨rfl,rfl⟩
           have HC_d:=Lib.hid (jlit_any B b v s4 41 41 rfl w_c HP_c.out.1 (by have h0:=HTL.out; have h1:=congrArg List.length HEQ1.out; rw [HCL.out] at h1; rw [← Hs4.out,← Hs2.out]; simp only [List.length_append,List.length_cons,List.length_nil] at h0 h1 ⊢; omega))
           go_wp2_with fail
           ((with_reducible refine HC_d.out.mono ?_))
           rintro e w_d ⟨rfl,hq_d⟩
           clear HC_d
           have HP_d:=Lib.hid (HP_c.out.post hq_d)
           have HK_d:=Lib.hid (HK_c.out.post hq_d)
           clear hq_d HP_c HK_c
           obtain ⟨s5,hs5⟩ : ∃ z,s4 ++ [41] = z:=⟨_,rfl⟩
           have Hs5:=Lib.hid hs5
           rw [hs5] at HP_d
           clear hs5
           have HEQ2 : Hid (s5 ++ remT p d lv (pvAt ks (q + 1)) (ks.drop (q + 1)) j1 = RES):=Lib.hid (by rw [HPV.out,hRR]; rw [← HEQ1.out,HCL.out,← Hs5.out,← Hs4.out,← Hs2.out]; simp only [List.append_assoc,List.cons_append,List.nil_append])
           go_wp2_with fail
           go_roundw
           case rel => first | exact ⟨q + 1,j1,s5,rfl,by go_num,by omega,HNX,HP_d,HEQ2,HK_d⟩ | exact ⟨_,q + 1,j1,s5,rfl,by go_num,by omega,HNX,HP_d,HEQ2,HK_d⟩
           case measure => simp [intOf]; omega
         | false =>
           have HBN:=Lib.hid (fun w => isBlk_is kn false (Lib.hid hbn) w)
           have HCL : Hid (closeT (ks.drop (q + 1)) = []):=Lib.hid (by rw [hdn,closeT,hbn]; rfl)
           clear hdn
           go_wp2_with fail
           ((with_reducible refine (HBN.out _).mono ?_))
           rintro e w8 ⟨rfl,rfl⟩
           have HEQ2 : Hid (s4 ++ remT p d lv (pvAt ks (q + 1)) (ks.drop (q + 1)) j1 = RES):=Lib.hid (by rw [HPV.out,hRR]; rw [← HEQ1.out,HCL.out,← Hs4.out,← Hs2.out]; simp only [List.append_assoc,List.cons_append,List.nil_append])
           go_wp2_with fail
           go_roundw
           case rel => first | exact ⟨q + 1,j1,s4,rfl,by go_num,by omega,HNX,HP_c,HEQ2,HK_c⟩ | exact ⟨_,q + 1,j1,s4,rfl,by go_num,by omega,HNX,HP_c,HEQ2,HK_c⟩
           case measure => simp [intOf]; omega
       ·have HPA : Hid (pvAt ks q ≠ 0):=Lib.hid (pv_ne q (by omega))
        have HEQ1 : Hid (st ++ ([44,32] ++ (E ++ (closeT (ks.drop (q + 1)) ++ RR))) = RES):=Lib.hid (by rw [← HEQ0,if_neg HPA.out])
        have ht0 : ((q : Int) == 0) = false:=by rw [beq_eq_false_iff_ne]; omega
        clear HEQ0
        go_wp2_with fail
        ((with_reducible refine (HBI.out _).mono ?_))
        rintro e w8 ⟨rfl,rfl⟩
        have HC_b:=Lib.hid (jstr_any B b v st [44,32] w3 HP.out.1 (by have h0:=HTL.out; have h1:=congrArg List.length HEQ1.out; simp only [List.length_append,List.length_cons,List.length_nil] at h0 h1 ⊢; omega))
        go_wp2_with fail
        ((with_reducible refine HC_b.out.mono ?_))
        rintro e w_b ⟨rfl,hq_b⟩
        clear HC_b
        have HP_b:=Lib.hid (HP.out.post hq_b)
        have HK_b:=Lib.hid (HK.out.post hq_b)
        clear hq_b HP HK
        obtain ⟨s2,hs2⟩ : ∃ z,st ++ [44,32] = z:=⟨_,rfl⟩
        have Hs2:=Lib.hid hs2
        rw [hs2] at HP_b
        clear hs2
        have HE_c:=Lib.hid (IHE.out kq ii j1 lv s2 w_b HV1.out (by omega) (by rw [hE]; rw [← Hs2.out]; have h0:=HTL.out; have h1:=congrArg List.length HEQ1.out; simp only [List.length_append,List.length_cons,List.length_nil] at h0 h1 ⊢; omega) HP_b.out)
        rw [hE] at HE_c
        go_wp2_with fail
        ((with_reducible refine HE_c.out.mono ?_))
        rintro e w_c ⟨rfl,hq_c⟩
        clear HE_c
        have HP_c:=Lib.hid (HP_b.out.post hq_c)
        have HK_c:=Lib.hid (HK_b.out.post hq_c)
        clear hq_c HP_b HK_b
        obtain ⟨s4,hs4⟩ : ∃ z,s2 ++ E = z:=⟨_,rfl⟩
        have Hs4:=Lib.hid hs4
        rw [hs4] at HP_c
        clear hs4
        rcases hways with hqe | ⟨hqn,_⟩
        ·have hne : ((q : Int) + 1 == (ks.length : Int)) = true:=by rw [beq_iff_eq]; omega
         have HCL : Hid (closeT (ks.drop (q + 1)) = [41]):=Lib.hid (by rw [List.drop_eq_nil_of_le (by omega)]; rfl)
         clear hqe
         have HC_d:=Lib.hid (jlit_any B b v s4 41 41 rfl w_c HP_c.out.1 (by have h0:=HTL.out; have h1:=congrArg List.length HEQ1.out; rw [HCL.out] at h1; rw [← Hs4.out,← Hs2.out]; simp only [List.length_append,List.length_cons,List.length_nil] at h0 h1 ⊢; omega))
         go_wp2_with fail
         ((with_reducible refine HC_d.out.mono ?_))
         rintro e w_d ⟨rfl,hq_d⟩
         clear HC_d
         have HP_d:=Lib.hid (HP_c.out.post hq_d)
         have HK_d:=Lib.hid (HK_c.out.post hq_d)
         clear hq_d HP_c HK_c
         obtain ⟨s5,hs5⟩ : ∃ z,s4 ++ [41] = z:=⟨_,rfl⟩
         have Hs5:=Lib.hid hs5
         rw [hs5] at HP_d
         clear hs5
         have HEQ2 : Hid (s5 ++ remT p d lv (pvAt ks (q + 1)) (ks.drop (q + 1)) j1 = RES):=Lib.hid (by rw [HPV.out,hRR]; rw [← HEQ1.out,HCL.out,← Hs5.out,← Hs4.out,← Hs2.out]; simp only [List.append_assoc,List.cons_append,List.nil_append])
         go_wp2_with fail
         go_roundw
         case rel => first | exact ⟨q + 1,j1,s5,rfl,by go_num,by omega,HNX,HP_d,HEQ2,HK_d⟩ | exact ⟨_,q + 1,j1,s5,rfl,by go_num,by omega,HNX,HP_d,HEQ2,HK_d⟩
         case measure => simp [intOf]; omega
        ·have hqn' : (q : Int) + 1 < (ks.length : Int):=by omega
         have hne : ((q : Int) + 1 == (ks.length : Int)) = false:=by rw [beq_eq_false_iff_ne]; omega
         have hdn:=List.drop_eq_getElem_cons hqn
         obtain ⟨kn,hkn⟩ : ∃ z,ks[q + 1] = z:=⟨_,rfl⟩
         rw [hkn] at hdn
         cases hbn : blkB kn with
         | true =>
           have HBN:=Lib.hid (fun w => isBlk_is kn true (Lib.hid hbn) w)
           have HCL : Hid (closeT (ks.drop (q + 1)) = [41]):=Lib.hid (by rw [hdn,closeT,hbn]; rfl)
           clear hdn
           go_wp2_with fail
           ((with_reducible refine (HBN.out _).mono ?_))
           rintro e w8 ⟨rfl,rfl⟩
           have HC_d:=Lib.hid (jlit_any B b v s4 41 41 rfl w_c HP_c.out.1 (by have h0:=HTL.out; have h1:=congrArg List.length HEQ1.out; rw [HCL.out] at h1; rw [← Hs4.out,← Hs2.out]; simp only [List.length_append,List.length_cons,List.length_nil] at h0 h1 ⊢; omega))
           go_wp2_with fail
           ((with_reducible refine HC_d.out.mono ?_))
           rintro e w_d ⟨rfl,hq_d⟩
           clear HC_d
           have HP_d:=Lib.hid (HP_c.out.post hq_d)
           have HK_d:=Lib.hid (HK_c.out.post hq_d)
           clear hq_d HP_c HK_c
           obtain ⟨s5,hs5⟩ : ∃ z,s4 ++ [41] = z:=⟨_,rfl⟩
           have Hs5:=Lib.hid hs5
           rw [hs5] at HP_d
           clear hs5
           have HEQ2 : Hid (s5 ++ remT p d lv (pvAt ks (q + 1)) (ks.drop (q + 1)) j1 = RES):=Lib.hid (by rw [HPV.out,hRR]; rw [← HEQ1.out,HCL.out,← Hs5.out,← Hs4.out,← Hs2.out]; simp only [List.append_assoc,List.cons_append,List.nil_append])
           go_wp2_with fail
           go_roundw
           case rel => first | exact ⟨q + 1,j1,s5,rfl,by go_num,by omega,HNX,HP_d,HEQ2,HK_d⟩ | exact ⟨_,q + 1,j1,s5,rfl,by go_num,by omega,HNX,HP_d,HEQ2,HK_d⟩
           case measure => simp [intOf]; omega
         | false =>
           have HBN:=Lib.hid (fun w => isBlk_is kn false (Lib.hid hbn) w)
           have HCL : Hid (closeT (ks.drop (q + 1)) = []):=Lib.hid (by rw [hdn,closeT,hbn]; rfl)
           clear hdn
           go_wp2_with fail
           ((with_reducible refine (HBN.out _).mono ?_))
           rintro e w8 ⟨rfl,rfl⟩
           have HEQ2 : Hid (s4 ++ remT p d lv (pvAt ks (q + 1)) (ks.drop (q + 1)) j1 = RES):=Lib.hid (by rw [HPV.out,hRR]; rw [← HEQ1.out,HCL.out,← Hs4.out,← Hs2.out]; simp only [List.append_assoc,List.cons_append,List.nil_append])
           go_wp2_with fail
           go_roundw
           case rel => first | exact ⟨q + 1,j1,s4,rfl,by go_num,by omega,HNX,HP_c,HEQ2,HK_c⟩ | exact ⟨_,q + 1,j1,s4,rfl,by go_num,by omega,HNX,HP_c,HEQ2,HK_c⟩
           case measure => simp [intOf]; omega
  ·have hlt' : ¬ (q : Int) < (ks.length : Int):=by omega
   have hdn : ks.drop q = []:=List.drop_eq_nil_of_le (by omega)
   have hfin : st = RES:=by have:=HEQ.out; rw [hdn,remT,List.append_nil] at this; exact this
   have hij : ii = j:=by have:=HX.out; rw [hdn,nextK] at this; injection this
   rw [hfin] at HP
   subst hij
   clear hfin hdn HX HEQ
   go_wp2_with fail
   go_ret
   exact ⟨rfl,HK.out.fin HP.out⟩
end Go.Proofs.YtnicnfchkdmieaaGreatDoor
