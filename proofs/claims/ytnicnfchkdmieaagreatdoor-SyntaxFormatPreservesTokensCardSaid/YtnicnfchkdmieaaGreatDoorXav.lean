/- Sj Sk -/
import Derived.Test.YtnicnfchkdmieaaGreatDoorXau
set_option linter.unusedVariables false
set_option linter.unusedSimpArgs false
namespace Go.Proofs.YtnicnfchkdmieaaGreatDoor
section
open Go.RowKit
attribute [local go_sem] ByteArray.mk_append_mk bs_get bs_cut bs_end
theorem parSegs_len {s : List UInt8} (h : parOk s = true) : (parSegs s).length ≤ 32:=by
 have:=validB_is h
 omega
theorem own_strs_form {w : World} {B : Nat} {v : Value} {l : List (List UInt8)} (h : w.ownsRow B 9 1 v l.length (l.map strV)) : ∃ a c,v = .slice a l.length c:=by
 rcases h.2 with ⟨rfl,h0⟩ | ⟨g,cap,cur,rfl,_⟩
 ·exact ⟨none,0,by rw [h0]⟩
 ·exact ⟨_,cap,rfl⟩
set_option maxRecDepth 100000 in
set_option maxHeartbeats 8000000 in
theorem name_any (m E : Int) (B b : Nat) (sub : UInt8 → List TokI → PR) (n : Nat) (hs : SubOk m E B b sub n) (hg : ∀ k r,PGood1 r (sub k r)) (kd : UInt8) (text : List UInt8) (t : TokI) (r : List TokI) (o : List Nd) (w : World)
  (h : PSt m E B b w (t :: r) o) (hn : r.length ≤ n) (hl : o.length + r.length ≤ 99999) (ht : text.length ≤ 65536) :
  Calls Tryz.prog 85 #[.pointer (some ⟨b,0,none⟩),.int .u8 kd.toNat,.string ⟨text.toArray⟩] w (SynPost m E B b w o (nameP sub kd text (t :: r))):=by
 have HS:=Lib.hid hs
 have HGD:=Lib.hid hg
 have H0:=Lib.hid h
 have HPA:=Lib.hid (parse_any text m w h.syn.1 (by omega))
 have hsz:=h.size
 obtain ⟨X,hX⟩ : ∃ X,Hid (nameP sub kd text (t :: r) = X):=⟨_,Lib.hid rfl⟩
 clear hs hg h
 cases hok : parOk text with
 | false =>
   have HX : Hid (X = .no (t :: r)):=Lib.hid (by rw [← hX.out]; unfold nameP nameB; rw [hok] <;> rfl)
   unfold parPost PPost at HPA
   rw [hok] at HPA
   simp only [Bool.false_and,Bool.false_eq_true,if_false] at HPA
   clear hok
   go_enter Tryz.func85,Tryz.ntmps85
   go_wp2_with fail
   ((with_reducible refine HPA.out.mono ?_))
   rintro e w1 ⟨v,rfl,hv,hb1⟩
   have H1:=Lib.hid (H0.out.below hb1)
   have HB1 : Hid (Below B w w1):=Lib.hid (hb1.mono hsz)
   obtain ⟨va,vc,rfl⟩:=own_strs_form hv
   clear hv hb1 H0 HPA
   go_upto_region 2 with fail
   have hcell:=heap_alloc_new w1 (.cells #[.bool false,.int .i64 0,.slice va 0 vc] 144)
   have H2:=Lib.hid (H1.out.alloc (.cells #[.bool false,.int .i64 0,.slice va 0 vc] 144))
   have HB2 : Hid (Below B w (w1.alloc (.cells #[.bool false,.int .i64 0,.slice va 0 vc] 144))):=Lib.hid (HB1.out.alloc (Nat.le_trans hsz HB1.out.size) _)
   generalize w1.alloc (.cells #[.bool false,.int .i64 0,.slice va 0 vc] 144) = W2 at *
   obtain ⟨d0,d1,d2⟩:=cells3 hcell
   clear hcell H1 HB1
   clear d0 d1 d2
   have HF:=Lib.hid (fail_any m E B b W2 _ _ H2.out (by simp; omega))
   go_wp2_with fail
   ((with_reducible refine HF.out.mono ?_))
   rintro e w3 ⟨rfl,hbad,hb3⟩
   have HB3 : Hid (Below B w w3):=Lib.hid (HB2.out.trans hb3)
   have HBAD:=Lib.hid hbad
   clear hbad hb3
   go_wp2_with fail
   go_ret
   rw [hX.out,HX.out]
   exact ⟨HB3.out,rfl,HBAD.out⟩
 | true =>
   have hsl:=parSegs_len hok
   have HSG : Hid (singB text = (!parRoot text && (((parUp text : Nat) : Int) == 0) && (((parSegs text).length : Int) == 1))):=Lib.hid (by
    unfold singB
    congr 1
    ·congr 1
     rw [Bool.eq_iff_iff]; simp <;> omega
    ·rw [Bool.eq_iff_iff]; simp <;> omega)
   have HNB : Hid (nameB kd text = (kd != 115 || singB text)):=Lib.hid (by unfold nameB; rw [hok] <;> rfl)
   unfold parPost PPost at HPA
   rw [hok] at HPA
   obtain ⟨segs,hsegs⟩ : ∃ z,parSegs text = z:=⟨_,rfl⟩
   obtain ⟨root,hroot⟩ : ∃ z,parRoot text = z:=⟨_,rfl⟩
   obtain ⟨up,hup⟩ : ∃ z,((parUp text : Nat) : Int) = z:=⟨_,rfl⟩
   simp only [Bool.true_and,if_true,hsegs,hroot,hup] at HPA HSG
   rw [hsegs] at hsl
   clear hok hsegs hroot hup
   go_enter Tryz.func85,Tryz.ntmps85
   go_wp2_with fail
   ((with_reducible refine HPA.out.mono ?_))
   rintro e w1 ⟨v,rfl,hv,hb1⟩
   have H1:=Lib.hid (H0.out.below hb1)
   have HB1 : Hid (Below B w w1):=Lib.hid (hb1.mono hsz)
   obtain ⟨va,vc,rfl⟩:=own_strs_form hv
   clear hv hb1 H0 HPA
   go_upto_region 2 with fail
   have hcell:=heap_alloc_new w1 (.cells #[.bool root,.int .i64 up,.slice va segs.length vc] 144)
   have H2:=Lib.hid (H1.out.alloc (.cells #[.bool root,.int .i64 up,.slice va segs.length vc] 144))
   have HB2 : Hid (Below B w (w1.alloc (.cells #[.bool root,.int .i64 up,.slice va segs.length vc] 144))):=Lib.hid (HB1.out.alloc (Nat.le_trans hsz HB1.out.size) _)
   generalize w1.alloc (.cells #[.bool root,.int .i64 up,.slice va segs.length vc] 144) = W2 at *
   obtain ⟨d0,d1,d2⟩:=cells3 hcell
   clear hcell H1 HB1
   by_cases h115 : kd = 115
   ·have hnb : nameB kd text = singB text:=by rw [HNB.out,h115]; simp
    subst h115
    obtain ⟨sb,hsb⟩ : ∃ sb,singB text = sb:=⟨_,rfl⟩
    rw [hsb] at HSG hnb
    have HNB2:=Lib.hid hnb
    have HSI:=Lib.hid (fun w => single_any root up va segs.length vc w (by omega))
    rw [← HSG.out] at HSI
    clear hnb hsb HNB HSG
    go_wp2_with fail
    ((with_reducible refine (HSI.out _).mono ?_))
    rintro e w3 ⟨rfl,hb3⟩
    have H3:=Lib.hid (H2.out.below hb3)
    have HB3 : Hid (Below B w w3):=Lib.hid (HB2.out.trans (hb3.mono H2.out.size))
    clear hb3 d0 d1 d2
    cases sb with
    | false =>
      have HX : Hid (X = .no (t :: r)):=Lib.hid (by rw [← hX.out]; unfold nameP; rw [if_pos HNB2.out])
      have HF:=Lib.hid (fail_any m E B b w3 _ _ H3.out (by first | omega | (simp; omega)))
      go_wp2_with fail
      ((with_reducible refine HF.out.mono ?_))
      rintro e wf ⟨rfl,hbad,hbf⟩
      have HBF : Hid (Below B w wf):=Lib.hid (HB3.out.trans hbf)
      have HBAD:=Lib.hid hbad
      clear hbad hbf
      go_wp2_with fail
      go_ret
      rw [hX.out,HX.out]
      exact ⟨HBF.out,rfl,HBAD.out⟩
    | true =>
      have hp : Hid (accB 115 3 = true):=Lib.hid rfl
      have hc : Hid (accB 115 5 = false):=Lib.hid rfl
      have HA3 : Hid (∀ w,Calls Tryz.prog 73 #[.int .u8 115,.int .i64 3] w fun e w' => e = .returned (.bool true) ∧ w = w'):=Lib.hid (fun w => by have:=acc_115 3 w; rw [hp.out] at this; exact this)
      have HA5 : Hid (∀ w,Calls Tryz.prog 73 #[.int .u8 115,.int .i64 5] w fun e w' => e = .returned (.bool false) ∧ w = w'):=Lib.hid (fun w => by have:=acc_115 5 w; rw [hc.out] at this; exact this)
      go_wp2_with fail
      ((with_reducible refine (HA3.out _).mono ?_))
      rintro e wa ⟨rfl,rfl⟩
      go_wp2_with fail
      ((with_reducible refine (HA5.out _).mono ?_))
      rintro e wa ⟨rfl,rfl⟩
      have HSK:=Lib.hid (skip_any m E B b w3 t r o H3.out (by omega))
      go_wp2_with fail
      ((with_reducible refine HSK.out.mono ?_))
      rintro e w4 ⟨rfl,h4,hb4⟩
      have HB4 : Hid (Below B w w4):=Lib.hid (HB3.out.trans hb4)
      have H4:=Lib.hid h4
      clear h4 hb4 HSK
      have HX : Hid (X = .ok r [⟨3,0,text,0⟩]):=Lib.hid (by rw [← hX.out]; unfold nameP; rw [if_neg (by rw [HNB2.out]; decide),if_neg (fun h => by rw [hp.out] at h; cases h.1),if_neg (fun h => by rw [hc.out] at h; cases h.1),if_neg (by rw [hp.out]; decide)] <;> rfl)
      have HAD:=Lib.hid (add_any m E B b 3 0 0 text w4 r o H4.out (by omega))
      unfold tokV at HAD
      go_wp2_with fail
      ((with_reducible refine HAD.out.mono ?_))
      rintro e w6 ⟨rfl,h6,hb6⟩
      have HB6 : Hid (Below B w w6):=Lib.hid (HB4.out.trans hb6)
      have H6:=Lib.hid h6
      clear h6 hb6
      go_wp2_with fail
      go_ret
      rw [hX.out,HX.out]
      exact ⟨HB6.out,rfl,H6.out⟩
   ·have hk : ((kd.toNat : Int) == 115) = false:=(byte_int kd 115).trans (beq_eq_false_iff_ne.2 h115)
    have HNB2 : Hid (nameB kd text = true):=Lib.hid (by rw [HNB.out,(bne_iff_ne).2 h115] <;> rfl)
    clear h115 HNB HSG d0 d1 d2
    obtain ⟨p,hp⟩ : ∃ p,Hid (accB kd 3 = p):=⟨_,Lib.hid rfl⟩
    obtain ⟨c,hc⟩ : ∃ c,Hid (accB kd 5 = c):=⟨_,Lib.hid rfl⟩
    have HA3:=Lib.hid (fun w => acc_is kd 3 p hp w)
    have HA5:=Lib.hid (fun w => acc_is kd 5 c hc w)
    cases p
    all_goals cases c
    ·go_wp2_with fail
     ((with_reducible refine (HA3.out _).mono ?_))
     rintro e wa ⟨rfl,rfl⟩
     go_wp2_with fail
     ((with_reducible refine (HA5.out _).mono ?_))
     rintro e wa ⟨rfl,rfl⟩
     have HX : Hid (X = .no (t :: r)):=Lib.hid (by rw [← hX.out]; unfold nameP; rw [if_neg (by rw [HNB2.out]; decide),if_pos ⟨hp.out,hc.out⟩])
     have HF:=Lib.hid (fail_any m E B b W2 _ _ H2.out (by first | omega | (simp; omega)))
     go_wp2_with fail
     ((with_reducible refine HF.out.mono ?_))
     rintro e wf ⟨rfl,hbad,hbf⟩
     have HBF : Hid (Below B w wf):=Lib.hid (HB2.out.trans hbf)
     have HBAD:=Lib.hid hbad
     clear hbad hbf
     go_wp2_with fail
     go_ret
     rw [hX.out,HX.out]
     exact ⟨HBF.out,rfl,HBAD.out⟩
    ·go_wp2_with fail
     ((with_reducible refine (HA3.out _).mono ?_))
     rintro e wa ⟨rfl,rfl⟩
     go_wp2_with fail
     ((with_reducible refine (HA5.out _).mono ?_))
     rintro e wa ⟨rfl,rfl⟩
     have HSK:=Lib.hid (skip_any m E B b W2 t r o H2.out (by omega))
     go_wp2_with fail
     ((with_reducible refine HSK.out.mono ?_))
     rintro e w4 ⟨rfl,h4,hb4⟩
     have HB4 : Hid (Below B w w4):=Lib.hid (HB2.out.trans hb4)
     have H4:=Lib.hid h4
     clear h4 hb4 HSK
     have HAT:=Lib.hid (at_any m E B b 5 w4 r o H4.out (by omega))
     cases h5 : atT 5 r with
     | true =>
       rw [h5] at HAT
       cases r with
       | nil => cases h5
       | cons t2 r2 =>
         have HX : Hid (X = callP sub text r2):=Lib.hid (by rw [← hX.out]; unfold nameP; rw [if_neg (by rw [HNB2.out]; decide),if_neg (fun h => by rw [hc.out] at h; cases h.2),if_pos ⟨hc.out,h5⟩] <;> rfl)
         have HCA:=Lib.hid (call_any m E B b sub n HS.out HGD.out text t2 r2 o w4 H4.out (by simp at hn; omega) (by simp at hl; omega))
         clear h5
         go_wp2_with fail
         ((with_reducible refine HAT.out.mono ?_))
         rintro e w5 ⟨rfl,rfl⟩
         go_wp2_with fail
         ((with_reducible refine HCA.out.mono ?_))
         rintro e w6 ⟨hb6,hres⟩
         have HB6 : Hid (Below B w w6):=Lib.hid (HB4.out.trans hb6)
         clear hb6
         cases hcp : callP sub text r2 with
         | no x =>
           rw [hcp] at hres HX
           obtain ⟨rfl,hp6⟩:=hres
           have HP6:=Lib.hid hp6
           clear hp6
           go_wp2_with fail
           go_ret
           rw [hX.out,HX.out]
           exact ⟨HB6.out,rfl,HP6.out⟩
         | ok x ns =>
           rw [hcp] at hres HX
           obtain ⟨rfl,hp6⟩:=hres
           have HP6:=Lib.hid hp6
           clear hp6
           go_wp2_with fail
           go_ret
           rw [hX.out,HX.out]
           exact ⟨HB6.out,rfl,HP6.out⟩
     | false =>
       rw [h5] at HAT
       have HX : Hid (X = .no r):=Lib.hid (by rw [← hX.out]; unfold nameP; rw [if_neg (by rw [HNB2.out]; decide),if_neg (fun h => by rw [hc.out] at h; cases h.2),if_neg (fun h => by have:=h.2; simp only [List.tail_cons] at this; rw [h5] at this; cases this),if_pos hp.out] <;> rfl)
       clear h5
       go_wp2_with fail
       ((with_reducible refine HAT.out.mono ?_))
       rintro e w5 ⟨rfl,rfl⟩
       have HF:=Lib.hid (fail_any m E B b w4 _ _ H4.out (by first | omega | (simp; omega)))
       go_wp2_with fail
       ((with_reducible refine HF.out.mono ?_))
       rintro e wf ⟨rfl,hbad,hbf⟩
       have HBF : Hid (Below B w wf):=Lib.hid (HB4.out.trans hbf)
       have HBAD:=Lib.hid hbad
       clear hbad hbf
       go_wp2_with fail
       go_ret
       rw [hX.out,HX.out]
       exact ⟨HBF.out,rfl,HBAD.out⟩
    ·go_wp2_with fail
     ((with_reducible refine (HA3.out _).mono ?_))
     rintro e wa ⟨rfl,rfl⟩
     go_wp2_with fail
     ((with_reducible refine (HA5.out _).mono ?_))
     rintro e wa ⟨rfl,rfl⟩
     have HSK:=Lib.hid (skip_any m E B b W2 t r o H2.out (by omega))
     go_wp2_with fail
     ((with_reducible refine HSK.out.mono ?_))
     rintro e w4 ⟨rfl,h4,hb4⟩
     have HB4 : Hid (Below B w w4):=Lib.hid (HB2.out.trans hb4)
     have H4:=Lib.hid h4
     clear h4 hb4 HSK
     have HX : Hid (X = .ok r [⟨3,0,text,0⟩]):=Lib.hid (by rw [← hX.out]; unfold nameP; rw [if_neg (by rw [HNB2.out]; decide),if_neg (fun h => by rw [hp.out] at h; cases h.1),if_neg (fun h => by rw [hc.out] at h; cases h.1),if_neg (by rw [hp.out]; decide)] <;> rfl)
     have HAD:=Lib.hid (add_any m E B b 3 0 0 text w4 r o H4.out (by omega))
     unfold tokV at HAD
     go_wp2_with fail
     ((with_reducible refine HAD.out.mono ?_))
     rintro e w6 ⟨rfl,h6,hb6⟩
     have HB6 : Hid (Below B w w6):=Lib.hid (HB4.out.trans hb6)
     have H6:=Lib.hid h6
     clear h6 hb6
     go_wp2_with fail
     go_ret
     rw [hX.out,HX.out]
     exact ⟨HB6.out,rfl,H6.out⟩
    ·go_wp2_with fail
     ((with_reducible refine (HA3.out _).mono ?_))
     rintro e wa ⟨rfl,rfl⟩
     go_wp2_with fail
     ((with_reducible refine (HA5.out _).mono ?_))
     rintro e wa ⟨rfl,rfl⟩
     have HSK:=Lib.hid (skip_any m E B b W2 t r o H2.out (by omega))
     go_wp2_with fail
     ((with_reducible refine HSK.out.mono ?_))
     rintro e w4 ⟨rfl,h4,hb4⟩
     have HB4 : Hid (Below B w w4):=Lib.hid (HB2.out.trans hb4)
     have H4:=Lib.hid h4
     clear h4 hb4 HSK
     have HAT:=Lib.hid (at_any m E B b 5 w4 r o H4.out (by omega))
     cases h5 : atT 5 r with
     | true =>
       rw [h5] at HAT
       cases r with
       | nil => cases h5
       | cons t2 r2 =>
         have HX : Hid (X = callP sub text r2):=Lib.hid (by rw [← hX.out]; unfold nameP; rw [if_neg (by rw [HNB2.out]; decide),if_neg (fun h => by rw [hp.out] at h; cases h.1),if_pos ⟨hc.out,h5⟩] <;> rfl)
         have HCA:=Lib.hid (call_any m E B b sub n HS.out HGD.out text t2 r2 o w4 H4.out (by simp at hn; omega) (by simp at hl; omega))
         clear h5
         go_wp2_with fail
         ((with_reducible refine HAT.out.mono ?_))
         rintro e w5 ⟨rfl,rfl⟩
         go_wp2_with fail
         ((with_reducible refine HCA.out.mono ?_))
         rintro e w6 ⟨hb6,hres⟩
         have HB6 : Hid (Below B w w6):=Lib.hid (HB4.out.trans hb6)
         clear hb6
         cases hcp : callP sub text r2 with
         | no x =>
           rw [hcp] at hres HX
           obtain ⟨rfl,hp6⟩:=hres
           have HP6:=Lib.hid hp6
           clear hp6
           go_wp2_with fail
           go_ret
           rw [hX.out,HX.out]
           exact ⟨HB6.out,rfl,HP6.out⟩
         | ok x ns =>
           rw [hcp] at hres HX
           obtain ⟨rfl,hp6⟩:=hres
           have HP6:=Lib.hid hp6
           clear hp6
           go_wp2_with fail
           go_ret
           rw [hX.out,HX.out]
           exact ⟨HB6.out,rfl,HP6.out⟩
     | false =>
       rw [h5] at HAT
       have HX : Hid (X = .ok r [⟨3,0,text,0⟩]):=Lib.hid (by rw [← hX.out]; unfold nameP; rw [if_neg (by rw [HNB2.out]; decide),if_neg (fun h => by rw [hp.out] at h; cases h.1),if_neg (fun h => by have:=h.2; simp only [List.tail_cons] at this; rw [h5] at this; cases this),if_neg (by rw [hp.out]; decide)] <;> rfl)
       clear h5
       go_wp2_with fail
       ((with_reducible refine HAT.out.mono ?_))
       rintro e w5 ⟨rfl,rfl⟩
       have HAD:=Lib.hid (add_any m E B b 3 0 0 text w4 r o H4.out (by omega))
       unfold tokV at HAD
       go_wp2_with fail
       ((with_reducible refine HAD.out.mono ?_))
       rintro e w6 ⟨rfl,h6,hb6⟩
       have HB6 : Hid (Below B w w6):=Lib.hid (HB4.out.trans hb6)
       have H6:=Lib.hid h6
       clear h6 hb6
       go_wp2_with fail
       go_ret
       rw [hX.out,HX.out]
       exact ⟨HB6.out,rfl,H6.out⟩
end
section
open Go.RowKit
attribute [local go_sem] ByteArray.mk_append_mk bs_get bs_cut bs_end
def kOk (kinds : List UInt8) : Bool:=(List.range kinds.length).all fun j => blkB (kinds.getD j 0) == decide ((kinds.takeWhile fun k => !blkB k).length ≤ j)
theorem kinds_ok {kinds : List UInt8} (h : kOk kinds = true) (h0 : kinds = [] ∨ blkB (kinds.getD 0 0) = false) (hl : kinds.length ≤ 10) : KindsOk kinds (kinds.takeWhile fun k => !blkB k).length:=by
 refine ⟨(List.takeWhile_sublist _).length_le,fun j hj => ?_,?_,hl⟩
 ·have:=List.all_eq_true.1 h j (List.mem_range.2 hj)
  rw [beq_iff_eq] at this
  rw [← this,List.getD,List.getElem?_eq_getElem hj]; rfl
 ·cases kinds with
  | nil => exact .inl rfl
  | cons k ks =>
    right
    rcases h0 with h0 | h0
    ·cases h0
    ·rw [List.getD_cons_zero] at h0
     rw [List.takeWhile_cons,h0]; simp
def kGood (kinds : List UInt8) : Bool:=kOk kinds && (kinds == [] || !blkB (kinds.getD 0 0)) && decide (kinds.length ≤ 10)
theorem kinds_good {kinds : List UInt8} (h : kGood kinds = true) : ∃ a,KindsOk kinds a:=by
 unfold kGood at h
 simp only [Bool.and_eq_true,Bool.or_eq_true,beq_iff_eq,Bool.not_eq_true',decide_eq_true_eq] at h
 exact ⟨_,kinds_ok h.1.1 h.1.2 h.2⟩
theorem tab_good : (∀ x ∈ declT,kGood x.2 = true) ∧ (∀ x ∈ stmtT,kGood x.2 = true) ∧ (∀ x ∈ exprT,kGood x.2 = true):=by decide +kernel
theorem getD_good {T : List (List UInt8 × List UInt8)} (h : ∀ x ∈ T,kGood x.2 = true) (j : Nat) : kGood (T.getD j ([],[])).2 = true:=by
 by_cases hj : j < T.length
 ·rw [List.getD,List.getElem?_eq_getElem hj]; exact h _ (List.getElem_mem hj)
 ·rw [List.getD,List.getElem?_eq_none (by omega)]; decide
theorem form_good (op : Int) : ∃ a,KindsOk (formP op).2 a:=by
 refine kinds_good ?_
 unfold formP
 split
 ·exact getD_good tab_good.1 _
 split
 ·exact getD_good tab_good.2.1 _
 split
 ·exact getD_good tab_good.2.2 _
 split
 ·decide
 split
 ·decide
 ·decide
theorem kinds_e : KindsOk [101] 1:=by
 refine ⟨by simp,fun j hj => ?_,.inr (by omega),by simp⟩
 have : j = 0:=by simp at hj; omega
 subst this; show blkB 101 = decide (1 ≤ 0); decide
theorem run_kids (a b : ByteArray) (w : World) : (Instr.field 119 (.agg #[.string a,.string b]) 1).run Tryz.prog w = .ok (.string b) w:=by
 kernel_rfl
attribute [local go_sem] run_kids
set_option maxRecDepth 100000 in
set_option maxHeartbeats 8000000 in
theorem keyword_any (m E : Int) (B b : Nat) (sub : UInt8 → List TokI → PR) (n : Nat) (hs : SubOk m E B b sub n) (hg : ∀ k r,PGood1 r (sub k r)) (kd : UInt8) (d : List UInt8) (c : UInt8) (t : TokI) (r : List TokI) (o : List Nd) (w : World)
  (h : PSt m E B b w (t :: r) o) (hn : r.length ≤ n) (hl : o.length + r.length ≤ 99999) (ht : d.length ≤ 65536) :
  Calls Tryz.prog 86 #[.pointer (some ⟨b,0,none⟩),.int .u8 kd.toNat,.string ⟨(d ++ [c]).toArray⟩] w (SynPost m E B b w o (wordP sub kd (d ++ [c]) (t :: r))):=by
 have HS:=Lib.hid hs
 have HGD:=Lib.hid hg
 have H0:=Lib.hid h
 have HB0:=Lib.hid (Below.refl B w)
 have hlen : (d ++ [c]).length ≤ 1000000:=by simp; omega
 have HV:=Lib.hid (variable_any d c w (by omega))
 obtain ⟨X,hX⟩ : ∃ X,Hid (wordP sub kd (d ++ [c]) (t :: r) = X):=⟨_,Lib.hid rfl⟩
 obtain ⟨text,htext⟩ : ∃ z,d ++ [c] = z:=⟨_,rfl⟩
 rw [htext] at HV hX hlen ⊢
 clear hs hg h htext ht
 cases hv : varW text with
 | some z =>
   obtain ⟨op,k⟩:=z
   rw [hv] at HV
   obtain ⟨a,ha⟩ : ∃ a,Hid (accB kd op = a):=⟨_,Lib.hid rfl⟩
   have HA:=Lib.hid (fun w => acc_is kd op a ha w)
   have HXX : Hid (X = if accB kd op = true then .ok r [⟨op,k,[],0⟩] else .no (t :: r)):=Lib.hid (by rw [← hX.out]; unfold wordP; rw [hv] <;> rfl)
   clear hv
   unfold varP at HV
   simp only at HV
   go_enter Tryz.func86,Tryz.ntmps86
   go_wp2_with fail
   ((with_reducible refine HV.out.mono ?_))
   rintro e w1 ⟨rfl,rfl⟩
   go_wp2_with fail
   ((with_reducible refine (HA.out _).mono ?_))
   rintro e w1 ⟨rfl,rfl⟩
   cases a with
   | false =>
     have HX : Hid (X = .no (t :: r)):=Lib.hid (by rw [HXX.out,if_neg (by rw [ha.out]; decide)])
     have HF:=Lib.hid (fail_any m E B b w _ _ H0.out (by first | omega | (simp only [List.length_cons]; omega)))
     go_wp2_with fail
     ((with_reducible refine HF.out.mono ?_))
     rintro e wf ⟨rfl,hbad,hbf⟩
     have HBF : Hid (Below B w wf):=Lib.hid (HB0.out.trans hbf)
     have HBAD:=Lib.hid hbad
     clear hbad hbf
     go_wp2_with fail
     go_ret
     rw [hX.out,HX.out]
     exact ⟨HBF.out,rfl,HBAD.out⟩
   | true =>
     have HX : Hid (X = .ok r [⟨op,k,[],0⟩]):=Lib.hid (by rw [HXX.out,if_pos ha.out])
     have HSK:=Lib.hid (skip_any m E B b w t r o H0.out (by omega))
     go_wp2_with fail
     ((with_reducible refine HSK.out.mono ?_))
     rintro e w4 ⟨rfl,h4,hb4⟩
     have HB4:=Lib.hid hb4
     have HAD:=Lib.hid (add_any m E B b op k 0 [] w4 r o h4 (by omega))
     unfold tokV at HAD
     clear h4 hb4 HSK
     go_wp2_with fail
     ((with_reducible refine HAD.out.mono ?_))
     rintro e w6 ⟨rfl,h6,hb6⟩
     have HB6 : Hid (Below B w w6):=Lib.hid (HB4.out.trans hb6)
     have H6:=Lib.hid h6
     clear h6 hb6
     go_wp2_with fail
     go_ret
     rw [hX.out,HX.out]
     exact ⟨HB6.out,rfl,H6.out⟩
 | none =>
   rw [hv] at HV
   unfold varP at HV
   simp only at HV
   obtain ⟨op,hop⟩ : ∃ op,Hid (opW text = op):=⟨_,Lib.hid rfl⟩
   have HOP:=Lib.hid (operator_any text m w H0.out.syn hlen)
   rw [hop.out] at HOP
   have HXX : Hid (X = if op = 0 ∨ accB kd op = false then .no (t :: r)
    else if op = 33 then (if atT 5 r = true then (match opsP sub [101] r with | .no x => .no x | .ok r1 n1 => .ok r1 (⟨33,0,[],1⟩ :: n1)) else .ok r [⟨33,0,[],0⟩])
    else match opsP sub (formP op).2 r with
     | .no x => .no x
     | .ok r1 n1 =>
       if op = 31 ∧ elseT r1 = true then (match blockP sub 83 r1.tail with | .no x => .no x | .ok r2 n2 => .ok r2 (⟨31,0,[],3⟩ :: (n1 ++ n2)))
       else .ok r1 (⟨op,0,[],((formP op).2.length : Nat)⟩ :: n1)):=Lib.hid (by rw [← hX.out]; unfold wordP; rw [hv,← hop.out] <;> rfl)
   clear hv hop
   go_enter Tryz.func86,Tryz.ntmps86
   go_wp2_with fail
   ((with_reducible refine HV.out.mono ?_))
   rintro e w1 ⟨rfl,rfl⟩
   go_wp2_with fail
   ((with_reducible refine HOP.out.mono ?_))
   rintro e w1 ⟨rfl,rfl⟩
   clear HV HOP
   by_cases h0 : op = 0
   ·subst h0
    have HX : Hid (X = .no (t :: r)):=Lib.hid (by rw [HXX.out,if_pos (.inl rfl)])
    have HF:=Lib.hid (fail_any m E B b w _ _ H0.out (by first | omega | (simp only [List.length_cons]; omega)))
    go_wp2_with fail
    ((with_reducible refine HF.out.mono ?_))
    rintro e wf ⟨rfl,hbad,hbf⟩
    have HBF : Hid (Below B w wf):=Lib.hid (HB0.out.trans hbf)
    have HBAD:=Lib.hid hbad
    clear hbad hbf
    go_wp2_with fail
    go_ret
    rw [hX.out,HX.out]
    exact ⟨HBF.out,rfl,HBAD.out⟩
   obtain ⟨a,ha⟩ : ∃ a,Hid (accB kd op = a):=⟨_,Lib.hid rfl⟩
   have HA:=Lib.hid (fun w => acc_is kd op a ha w)
   have e0 : (op == 0) = false:=beq_eq_false_iff_ne.2 h0
   cases a with
   | false =>
     have HX : Hid (X = .no (t :: r)):=Lib.hid (by rw [HXX.out,if_pos (.inr ha.out)])
     clear h0
     go_wp2_with fail
     ((with_reducible refine (HA.out _).mono ?_))
     rintro e w1 ⟨rfl,rfl⟩
     have HF:=Lib.hid (fail_any m E B b w _ _ H0.out (by first | omega | (simp only [List.length_cons]; omega)))
     go_wp2_with fail
     ((with_reducible refine HF.out.mono ?_))
     rintro e wf ⟨rfl,hbad,hbf⟩
     have HBF : Hid (Below B w wf):=Lib.hid (HB0.out.trans hbf)
     have HBAD:=Lib.hid hbad
     clear hbad hbf
     go_wp2_with fail
     go_ret
     rw [hX.out,HX.out]
     exact ⟨HBF.out,rfl,HBAD.out⟩
   | true =>
   have HXY : Hid (X = if op = 33 then (if atT 5 r = true then (match opsP sub [101] r with | .no x => .no x | .ok r1 n1 => .ok r1 (⟨33,0,[],1⟩ :: n1)) else .ok r [⟨33,0,[],0⟩])
    else match opsP sub (formP op).2 r with
     | .no x => .no x
     | .ok r1 n1 =>
       if op = 31 ∧ elseT r1 = true then (match blockP sub 83 r1.tail with | .no x => .no x | .ok r2 n2 => .ok r2 (⟨31,0,[],3⟩ :: (n1 ++ n2)))
       else .ok r1 (⟨op,0,[],((formP op).2.length : Nat)⟩ :: n1)):=Lib.hid (by rw [HXX.out,if_neg (fun h => by rcases h with h | h; exact h0 h; rw [ha.out] at h; cases h)])
   clear h0 HXX
   have HSK:=Lib.hid (skip_any m E B b w t r o H0.out (by omega))
   go_wp2_with fail
   ((with_reducible refine (HA.out _).mono ?_))
   rintro e w1 ⟨rfl,rfl⟩
   go_wp2_with fail
   ((with_reducible refine HSK.out.mono ?_))
   rintro e w4 ⟨rfl,h4,hb4⟩
   have HB4:=Lib.hid hb4
   have HAD:=Lib.hid (add_any m E B b op 0 0 [] w4 r o h4 (by omega))
   unfold tokV at HAD
   clear h4 hb4 HSK HA H0
   go_wp2_with fail
   ((with_reducible refine HAD.out.mono ?_))
   rintro e w6 ⟨rfl,h6,hb6⟩
   have HB6 : Hid (Below B w w6):=Lib.hid (HB4.out.trans hb6)
   have H6:=Lib.hid h6
   clear h6 hb6 HAD HB4
   by_cases h33 : op = 33
   ·subst h33
    have HAT:=Lib.hid (at_any m E B b 5 w6 r _ H6.out (by omega))
    have HX0 : Hid (X = if atT 5 r = true then (match opsP sub [101] r with | .no x => .no x | .ok r1 n1 => .ok r1 (⟨33,0,[],1⟩ :: n1)) else .ok r [⟨33,0,[],0⟩]):=Lib.hid (by rw [HXY.out,if_pos rfl])
    clear HXY
    cases h5 : atT 5 r with
    | false =>
      have HX : Hid (X = .ok r [⟨33,0,[],0⟩]):=Lib.hid (by rw [HX0.out,if_neg (by rw [h5]; decide)])
      rw [h5] at HAT
      clear h5
      go_wp2_with fail
      ((with_reducible refine HAT.out.mono ?_))
      rintro e w7 ⟨rfl,rfl⟩
      go_wp2_with fail
      go_ret
      rw [hX.out,HX.out]
      exact ⟨HB6.out,rfl,H6.out⟩
    | true =>
      have HX1 : Hid (X = match opsP sub [101] r with | .no x => .no x | .ok r1 n1 => .ok r1 (⟨33,0,[],1⟩ :: n1)):=Lib.hid (by rw [HX0.out,if_pos h5])
      have HOPS:=Lib.hid (operands_any m E B b sub n HS.out HGD.out [101] 1 kinds_e 33 0 r o w6 H6.out hn (by omega))
      rw [h5] at HAT
      clear h5 HX0
      go_wp2_with fail
      ((with_reducible refine HAT.out.mono ?_))
      rintro e w7 ⟨rfl,rfl⟩
      go_wp2_with fail
      ((with_reducible refine HOPS.out.mono ?_))
      rintro e w8 ⟨hb8,hres⟩
      have HB8 : Hid (Below B w w8):=Lib.hid (HB6.out.trans hb8)
      clear hb8
      cases hcp : opsP sub [101] r with
      | no x =>
        rw [hcp] at hres HX1
        obtain ⟨rfl,hp⟩:=hres
        have HP:=Lib.hid hp
        clear hp
        go_wp2_with fail
        go_ret
        rw [hX.out,HX1.out]
        exact ⟨HB8.out,rfl,HP.out⟩
      | ok x ns =>
        rw [hcp] at hres HX1
        obtain ⟨rfl,hp⟩:=hres
        have HP:=Lib.hid hp
        clear hp
        go_wp2_with fail
        go_ret
        rw [hX.out,HX1.out]
        exact ⟨HB8.out,rfl,HP.out⟩
   ·have e33 : (op == 33) = false:=beq_eq_false_iff_ne.2 h33
    have HX0 : Hid (X = match opsP sub (formP op).2 r with
     | .no x => .no x
     | .ok r1 n1 =>
       if op = 31 ∧ elseT r1 = true then (match blockP sub 83 r1.tail with | .no x => .no x | .ok r2 n2 => .ok r2 (⟨31,0,[],3⟩ :: (n1 ++ n2)))
       else .ok r1 (⟨op,0,[],((formP op).2.length : Nat)⟩ :: n1)):=Lib.hid (by rw [HXY.out,if_neg h33])
    obtain ⟨ka,hka⟩:=form_good op
    have HKA:=Lib.hid hka
    have HFO:=Lib.hid (fun w hm => form_any op w m hm)
    have hgood:=opsP_good HGD.out (formP op).2 (t :: r) 1 (by simp) (by omega)
    rw [List.drop_one,List.tail_cons] at hgood
    obtain ⟨x,hx⟩ : ∃ x,formP op = x:=⟨_,rfl⟩
    rw [hx] at HX0 HKA HFO hgood
    obtain ⟨xw,xk⟩:=x
    simp only at HX0 HKA hgood
    unfold formV at HFO
    simp only at HFO
    have HXK:=Lib.hid hx
    clear HXY h33 hka hx
    go_wp2_with fail
    ((with_reducible refine (HFO.out _ H6.out.syn).mono ?_))
    rintro e w7 ⟨rfl,hb7⟩
    have H7:=Lib.hid (H6.out.below hb7)
    have HB7 : Hid (Below B w w7):=Lib.hid (HB6.out.trans (hb7.mono H6.out.size))
    have HOPS:=Lib.hid (operands_any m E B b sub n HS.out HGD.out xk ka HKA.out op 0 r o w7 H7.out hn (by omega))
    clear hb7 H6 HB6 HFO
    go_wp2_with fail
    ((with_reducible refine HOPS.out.mono ?_))
    rintro e w8 ⟨hb8,hres⟩
    have HB8 : Hid (Below B w w8):=Lib.hid (HB7.out.trans hb8)
    clear hb8
    cases hcp : opsP sub xk r with
    | no x =>
      rw [hcp] at hres HX0
      obtain ⟨rfl,hp⟩:=hres
      have HP:=Lib.hid hp
      clear hp
      go_wp2_with fail
      go_ret
      rw [hX.out,HX0.out]
      exact ⟨HB8.out,rfl,HP.out⟩
    | ok r1 n1 =>
      rw [hcp] at hres HX0 hgood
      obtain ⟨rfl,hp⟩:=hres
      obtain ⟨z,z1,z2,z3,z4⟩:=hgood
      have hr1 : r1.length + z = r.length + 1:=by rw [z3,List.length_drop,List.length_cons] ; simp at z2; omega
      have HP:=Lib.hid hp
      clear hp z3 HOPS H7 HB7
      simp only at HX0
      by_cases h31 : op = 31
      ·subst h31
       obtain rfl : xk = [101,83]:=by
        have h:=HXK.out
        rw [show formP 31 = ([73,102],[101,83]) from rfl] at h
        injection h with _ h
        exact h.symm
       have HP0:=HP
       clear HP
       have HP : Hid (PSt m E B b w8 r1 (o ++ (⟨31,0,[],2⟩ : Nd) :: n1)):=HP0
       clear HP0
       have HX1 : Hid (X = if elseT r1 = true then (match blockP sub 83 r1.tail with | .no x => .no x | .ok r2 n2 => .ok r2 (⟨31,0,[],3⟩ :: (n1 ++ n2))) else .ok r1 (⟨31,0,[],2⟩ :: n1)):=Lib.hid (by rw [HX0.out]; simp)
       have HAT:=Lib.hid (at_any m E B b 2 w8 r1 _ HP.out (by omega))
       clear HX0
       cases h2 : atT 2 r1 with
       | false =>
         have HX : Hid (X = .ok r1 (⟨31,0,[],2⟩ :: n1)):=Lib.hid (by
          have : elseT r1 = false:=by
           cases r1 with
           | nil => rfl
           | cons a q => show (a.kind == 2 && _) = false; rw [show (a.kind == 2) = false from h2]; rfl
          rw [HX1.out,if_neg (by rw [this]; decide)])
         rw [h2] at HAT
         clear h2
         go_wp2_with fail
         ((with_reducible refine HAT.out.mono ?_))
         rintro e w9 ⟨rfl,rfl⟩
         go_wp2_with fail
         go_ret
         rw [hX.out,HX.out]
         exact ⟨HB8.out,rfl,HP.out⟩
       | true =>
         rw [h2] at HAT
         cases r1 with
         | nil => cases h2
         | cons t2 q2 =>
           have he2 : elseT (t2 :: q2) = (t2.str == [69,108,115,101]):=by show (t2.kind == 2 && _) = _; rw [show (t2.kind == 2) = true from h2]; rfl
           rw [he2] at HX1
           obtain ⟨tv,bad,nv,k1,k2,k3⟩:=HP.out.ex
           obtain ⟨ta,tcap,rfl,tl,tc⟩:=k2
           obtain ⟨tg,toff,rfl,tB,tk⟩:=tc (by simp)
           obtain ⟨d0,d1,d2,d3⟩:=tk 0 (by simp)
           obtain ⟨c0,c1,c2,c3⟩:=cells4 k1
           simp only [Nat.zero_mul,Nat.add_zero,List.getElem_cons_zero] at d0 d1 d2 d3
           obtain ⟨s2,hs2⟩ : ∃ z,t2.str = z:=⟨_,rfl⟩
           rw [hs2] at d2 HX1
           clear k1 k3 tk tc h2 he2 hs2
           cases hel : (s2 == [69,108,115,101]) with
           | false =>
             have HX : Hid (X = .ok (t2 :: q2) (⟨31,0,[],2⟩ :: n1)):=Lib.hid (by rw [HX1.out,if_neg (by rw [hel]; decide)])
             go_wp2_with fail
             ((with_reducible refine HAT.out.mono ?_))
             rintro e w9 ⟨rfl,rfl⟩
             go_wp2_with fail
             go_ret
             rw [hX.out,HX.out]
             exact ⟨HB8.out,rfl,HP.out⟩
           | true =>
             have HX2 : Hid (X = match blockP sub 83 q2 with | .no x => .no x | .ok r2 n2 => .ok r2 (⟨31,0,[],3⟩ :: (n1 ++ n2))):=Lib.hid (by rw [HX1.out,if_pos hel] <;> rfl)
             have HSK:=Lib.hid (skip_any m E B b w8 t2 q2 _ HP.out (by simp at hr1; omega))
             rw [List.length_cons] at hr1
             go_wp2_with fail
             ((with_reducible refine HAT.out.mono ?_))
             rintro e w9 ⟨rfl,rfl⟩
             go_wp2_with fail
             ((with_reducible refine HSK.out.mono ?_))
             rintro e w9 ⟨rfl,h9,hb9⟩
             have HB9 : Hid (Below B w w9):=Lib.hid (HB8.out.trans hb9)
             clear c0 c1 c2 c3 d0 d1 d2 d3 HAT HSK HP HB8 hel hb9
             obtain ⟨tv2,bad2,g,gc,k1,k2,k3,k4⟩:=h9.kids
             have HU:=Lib.hid (k4 3)
             obtain ⟨c0,c1,c2,c3⟩:=cells4 k1
             obtain ⟨L6,hL⟩ : ∃ L,(o ++ (⟨31,0,[],2⟩ : Nd) :: n1).length = L:=⟨_,rfl⟩
             have hLo : o.length < L6:=by rw [← hL]; simp
             have hLo' : (o.length : Int) < (L6 : Int):=by omega
             rw [hL] at c3
             have k2' : w9.cell? ⟨g,o.length * 4 + 3,none⟩ = some (.int .i64 2):=k2
             clear h9 k1 k4 hL k2
             go_upto_region 22 with fail
             have HPA:=Lib.hid HU.out.1
             have HBA : Hid (Below B w (w9.setCell ⟨g,o.length * 4 + 3,none⟩ (.int .i64 3))):=Lib.hid (HB9.out.trans HU.out.2)
             generalize w9.setCell ⟨g,o.length * 4 + 3,none⟩ (.int .i64 3) = WA at *
             clear c0 c1 c2 c3 k2' k3 HU HB9
             have HBL : Hid (Calls Tryz.prog 134 #[.pointer (some ⟨b,0,none⟩),.int .u8 83] WA (SynPost m E B b WA (o ++ (⟨31,0,[],3⟩ : Nd) :: n1) (blockP sub 83 q2))):=Lib.hid (block_any m E B b sub n HS.out HGD.out 83 q2 _ WA HPA.out (by omega) (by simp only [List.length_append,List.length_cons]; omega))
             go_wp2_with fail
             ((with_reducible refine HBL.out.mono ?_))
             rintro e wb ⟨hbb,hres⟩
             have HBB : Hid (Below B w wb):=Lib.hid (HBA.out.trans hbb)
             clear hbb
             cases hcb : blockP sub 83 q2 with
             | no x =>
               rw [hcb] at hres HX2
               obtain ⟨rfl,hp⟩:=hres
               have HP:=Lib.hid hp
               clear hp
               go_wp2_with fail
               go_ret
               rw [hX.out,HX2.out]
               exact ⟨HBB.out,rfl,HP.out⟩
             | ok r2 n2 =>
               rw [hcb] at hres HX2
               obtain ⟨rfl,hp⟩:=hres
               rw [List.append_assoc,List.cons_append] at hp
               have HP:=Lib.hid hp
               clear hp
               go_wp2_with fail
               go_ret
               rw [hX.out,HX2.out]
               exact ⟨HBB.out,rfl,HP.out⟩
      ·have e31 : (op == 31) = false:=beq_eq_false_iff_ne.2 h31
       have HX : Hid (X = .ok r1 (⟨op,0,[],(xk.length : Nat)⟩ :: n1)):=Lib.hid (by rw [HX0.out,if_neg (fun h => h31 h.1)])
       clear h31 HX0
       go_wp2_with fail
       go_ret
       rw [hX.out,HX.out]
       exact ⟨HB8.out,rfl,HP.out⟩
end
end Go.Proofs.YtnicnfchkdmieaaGreatDoor
