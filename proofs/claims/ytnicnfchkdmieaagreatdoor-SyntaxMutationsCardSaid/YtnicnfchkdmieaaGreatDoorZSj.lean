/- Sj -/
import Derived.Test.YtnicnfchkdmieaaGreatDoorZSi
set_option linter.unusedVariables false
set_option linter.unusedSimpArgs false
namespace Go.Proofs.YtnicnfchkdmieaaGreatDoor
open Go.RowKit
attribute [local go_sem] ByteArray.mk_append_mk bs_get bs_cut bs_end
theorem parSegs_len {s : List UInt8} (h : parOk s = true) : (parSegs s).length ≤ 32 := by
 have := validB_is h
 omega
theorem own_strs_form {w : World} {B : Nat} {v : Value} {l : List (List UInt8)} (h : w.ownsRow B 9 1 v l.length (l.map strV)) : ∃ a c, v = .slice a l.length c := by
 rcases h.2 with ⟨rfl, h0⟩ | ⟨g, cap, cur, rfl, _⟩
 ·exact ⟨none, 0, by rw [h0]⟩
 ·exact ⟨_, cap, rfl⟩
set_option maxRecDepth 100000 in
set_option maxHeartbeats 8000000 in
theorem name_any (m E : Int) (B b : Nat) (sub : UInt8 → List TokI → PR) (n : Nat) (hs : SubOk m E B b sub n) (hg : ∀ k r, PGood1 r (sub k r)) (kd : UInt8) (text : List UInt8) (t : TokI) (r : List TokI) (o : List Nd) (w : World)
 (h : PSt m E B b w (t :: r) o) (hn : r.length ≤ n) (hl : o.length + r.length ≤ 99999) (ht : text.length ≤ 65536) :
 Calls Tryz.prog 85 #[.pointer (some ⟨b, 0, none⟩), .int .u8 kd.toNat, .string ⟨text.toArray⟩] w (SynPost m E B b w o (nameP sub kd text (t :: r))) := by
 have HS := Lib.hid hs
 have HGD := Lib.hid hg
 have H0 := Lib.hid h
 have HPA := Lib.hid (parse_any text m w h.syn.1 (by omega))
 have hsz := h.size
 obtain ⟨X, hX⟩ : ∃ X, Hid (nameP sub kd text (t :: r) = X) := ⟨_, Lib.hid rfl⟩
 clear hs hg h
 cases hok : parOk text with
 | false =>
   have HX : Hid (X = .no (t :: r)) := Lib.hid (by rw [← hX.out]; unfold nameP nameB; rw [hok]; rfl)
   unfold parPost PPost at HPA
   rw [hok] at HPA
   simp only [Bool.false_and, Bool.false_eq_true, if_false] at HPA
   clear hok
   go_enter Tryz.func85, Tryz.ntmps85
   go_wp2_with fail
   ((with_reducible refine HPA.out.mono ?_))
   rintro e w1 ⟨v, rfl, hv, hb1⟩
   have H1 := Lib.hid (H0.out.below hb1)
   have HB1 : Hid (Below B w w1) := Lib.hid (hb1.mono hsz)
   obtain ⟨va, vc, rfl⟩ := own_strs_form hv
   clear hv hb1 H0 HPA
   go_upto_region 2 with fail
   have hcell := heap_alloc_new w1 (.cells #[.bool false, .int .i64 0, .slice va 0 vc] 144)
   have H2 := Lib.hid (H1.out.alloc (.cells #[.bool false, .int .i64 0, .slice va 0 vc] 144))
   have HB2 : Hid (Below B w (w1.alloc (.cells #[.bool false, .int .i64 0, .slice va 0 vc] 144))) := Lib.hid (HB1.out.alloc (Nat.le_trans hsz HB1.out.size) _)
   generalize w1.alloc (.cells #[.bool false, .int .i64 0, .slice va 0 vc] 144) = W2 at *
   obtain ⟨d0, d1, d2⟩ := cells3 hcell
   clear hcell H1 HB1
   clear d0 d1 d2
   have HF := Lib.hid (fail_any m E B b W2 _ _ H2.out (by simp; omega))
   go_wp2_with fail
   ((with_reducible refine HF.out.mono ?_))
   rintro e w3 ⟨rfl, hbad, hb3⟩
   have HB3 : Hid (Below B w w3) := Lib.hid (HB2.out.trans hb3)
   have HBAD := Lib.hid hbad
   clear hbad hb3
   go_wp2_with fail
   go_ret
   rw [hX.out, HX.out]
   exact ⟨HB3.out, rfl, HBAD.out⟩
 | true =>
   have hsl := parSegs_len hok
   have HSG : Hid (singB text = (!parRoot text && (((parUp text : Nat) : Int) == 0) && (((parSegs text).length : Int) == 1))) := Lib.hid (by
    unfold singB
    congr 1
    ·congr 1
     rw [Bool.eq_iff_iff]; simp <;> omega
    ·rw [Bool.eq_iff_iff]; simp <;> omega)
   have HNB : Hid (nameB kd text = (kd != 115 || singB text)) := Lib.hid (by unfold nameB; rw [hok]; rfl)
   unfold parPost PPost at HPA
   rw [hok] at HPA
   obtain ⟨segs, hsegs⟩ : ∃ z, parSegs text = z := ⟨_, rfl⟩
   obtain ⟨root, hroot⟩ : ∃ z, parRoot text = z := ⟨_, rfl⟩
   obtain ⟨up, hup⟩ : ∃ z, ((parUp text : Nat) : Int) = z := ⟨_, rfl⟩
   simp only [Bool.true_and, if_true, hsegs, hroot, hup] at HPA HSG
   rw [hsegs] at hsl
   clear hok hsegs hroot hup
   go_enter Tryz.func85, Tryz.ntmps85
   go_wp2_with fail
   ((with_reducible refine HPA.out.mono ?_))
   rintro e w1 ⟨v, rfl, hv, hb1⟩
   have H1 := Lib.hid (H0.out.below hb1)
   have HB1 : Hid (Below B w w1) := Lib.hid (hb1.mono hsz)
   obtain ⟨va, vc, rfl⟩ := own_strs_form hv
   clear hv hb1 H0 HPA
   go_upto_region 2 with fail
   have hcell := heap_alloc_new w1 (.cells #[.bool root, .int .i64 up, .slice va segs.length vc] 144)
   have H2 := Lib.hid (H1.out.alloc (.cells #[.bool root, .int .i64 up, .slice va segs.length vc] 144))
   have HB2 : Hid (Below B w (w1.alloc (.cells #[.bool root, .int .i64 up, .slice va segs.length vc] 144))) := Lib.hid (HB1.out.alloc (Nat.le_trans hsz HB1.out.size) _)
   generalize w1.alloc (.cells #[.bool root, .int .i64 up, .slice va segs.length vc] 144) = W2 at *
   obtain ⟨d0, d1, d2⟩ := cells3 hcell
   clear hcell H1 HB1
   by_cases h115 : kd = 115
   ·have hnb : nameB kd text = singB text := by rw [HNB.out, h115]; simp
    subst h115
    obtain ⟨sb, hsb⟩ : ∃ sb, singB text = sb := ⟨_, rfl⟩
    rw [hsb] at HSG hnb
    have HNB2 := Lib.hid hnb
    have HSI := Lib.hid (fun w => single_any root up va segs.length vc w (by omega))
    rw [← HSG.out] at HSI
    clear hnb hsb HNB HSG
    go_wp2_with fail
    ((with_reducible refine (HSI.out _).mono ?_))
    rintro e w3 ⟨rfl, hb3⟩
    have H3 := Lib.hid (H2.out.below hb3)
    have HB3 : Hid (Below B w w3) := Lib.hid (HB2.out.trans (hb3.mono H2.out.size))
    clear hb3 d0 d1 d2
    cases sb with
    | false =>
      have HX : Hid (X = .no (t :: r)) := Lib.hid (by rw [← hX.out]; unfold nameP; rw [if_pos HNB2.out])
      have HF := Lib.hid (fail_any m E B b w3 _ _ H3.out (by first | omega | (simp; omega)))
      go_wp2_with fail
      ((with_reducible refine HF.out.mono ?_))
      rintro e wf ⟨rfl, hbad, hbf⟩
      have HBF : Hid (Below B w wf) := Lib.hid (HB3.out.trans hbf)
      have HBAD := Lib.hid hbad
      clear hbad hbf
      go_wp2_with fail
      go_ret
      rw [hX.out, HX.out]
      exact ⟨HBF.out, rfl, HBAD.out⟩
    | true =>
      have hp : Hid (accB 115 3 = true) := Lib.hid rfl
      have hc : Hid (accB 115 5 = false) := Lib.hid rfl
      have HA3 : Hid (∀ w, Calls Tryz.prog 73 #[.int .u8 115, .int .i64 3] w fun e w' => e = .returned (.bool true) ∧ w = w') := Lib.hid (fun w => by have := acc_115 3 w; rw [hp.out] at this; exact this)
      have HA5 : Hid (∀ w, Calls Tryz.prog 73 #[.int .u8 115, .int .i64 5] w fun e w' => e = .returned (.bool false) ∧ w = w') := Lib.hid (fun w => by have := acc_115 5 w; rw [hc.out] at this; exact this)
      go_wp2_with fail
      ((with_reducible refine (HA3.out _).mono ?_))
      rintro e wa ⟨rfl, rfl⟩
      go_wp2_with fail
      ((with_reducible refine (HA5.out _).mono ?_))
      rintro e wa ⟨rfl, rfl⟩
      have HSK := Lib.hid (skip_any m E B b w3 t r o H3.out (by omega))
      go_wp2_with fail
      ((with_reducible refine HSK.out.mono ?_))
      rintro e w4 ⟨rfl, h4, hb4⟩
      have HB4 : Hid (Below B w w4) := Lib.hid (HB3.out.trans hb4)
      have H4 := Lib.hid h4
      clear h4 hb4 HSK
      have HX : Hid (X = .ok r [⟨3, 0, text, 0⟩]) := Lib.hid (by rw [← hX.out]; unfold nameP; rw [if_neg (by rw [HNB2.out]; decide), if_neg (fun h => by rw [hp.out] at h; cases h.1), if_neg (fun h => by rw [hc.out] at h; cases h.1), if_neg (by rw [hp.out]; decide)]; rfl)
      have HAD := Lib.hid (add_any m E B b 3 0 0 text w4 r o H4.out (by omega))
      unfold tokV at HAD
      go_wp2_with fail
      ((with_reducible refine HAD.out.mono ?_))
      rintro e w6 ⟨rfl, h6, hb6⟩
      have HB6 : Hid (Below B w w6) := Lib.hid (HB4.out.trans hb6)
      have H6 := Lib.hid h6
      clear h6 hb6
      go_wp2_with fail
      go_ret
      rw [hX.out, HX.out]
      exact ⟨HB6.out, rfl, H6.out⟩
   ·have hk : ((kd.toNat : Int) == 115) = false := (byte_int kd 115).trans (beq_eq_false_iff_ne.2 h115)
    have HNB2 : Hid (nameB kd text = true) := Lib.hid (by rw [HNB.out, (bne_iff_ne).2 h115]; rfl)
    clear h115 HNB HSG d0 d1 d2
    obtain ⟨p, hp⟩ : ∃ p, Hid (accB kd 3 = p) := ⟨_, Lib.hid rfl⟩
    obtain ⟨c, hc⟩ : ∃ c, Hid (accB kd 5 = c) := ⟨_, Lib.hid rfl⟩
    have HA3 := Lib.hid (fun w => acc_is kd 3 p hp w)
    have HA5 := Lib.hid (fun w => acc_is kd 5 c hc w)
    cases p
    all_goals cases c
    ·go_wp2_with fail
     ((with_reducible refine (HA3.out _).mono ?_))
     rintro e wa ⟨rfl, rfl⟩
     go_wp2_with fail
     ((with_reducible refine (HA5.out _).mono ?_))
     rintro e wa ⟨rfl, rfl⟩
     have HX : Hid (X = .no (t :: r)) := Lib.hid (by rw [← hX.out]; unfold nameP; rw [if_neg (by rw [HNB2.out]; decide), if_pos ⟨hp.out, hc.out⟩])
     have HF := Lib.hid (fail_any m E B b W2 _ _ H2.out (by first | omega | (simp; omega)))
     go_wp2_with fail
     ((with_reducible refine HF.out.mono ?_))
     rintro e wf ⟨rfl, hbad, hbf⟩
     have HBF : Hid (Below B w wf) := Lib.hid (HB2.out.trans hbf)
     have HBAD := Lib.hid hbad
     clear hbad hbf
     go_wp2_with fail
     go_ret
     rw [hX.out, HX.out]
     exact ⟨HBF.out, rfl, HBAD.out⟩
    ·go_wp2_with fail
     ((with_reducible refine (HA3.out _).mono ?_))
     rintro e wa ⟨rfl, rfl⟩
     go_wp2_with fail
     ((with_reducible refine (HA5.out _).mono ?_))
     rintro e wa ⟨rfl, rfl⟩
     have HSK := Lib.hid (skip_any m E B b W2 t r o H2.out (by omega))
     go_wp2_with fail
     ((with_reducible refine HSK.out.mono ?_))
     rintro e w4 ⟨rfl, h4, hb4⟩
     have HB4 : Hid (Below B w w4) := Lib.hid (HB2.out.trans hb4)
     have H4 := Lib.hid h4
     clear h4 hb4 HSK
     have HAT := Lib.hid (at_any m E B b 5 w4 r o H4.out (by omega))
     cases h5 : atT 5 r with
     | true =>
       rw [h5] at HAT
       cases r with
       | nil => cases h5
       | cons t2 r2 =>
         have HX : Hid (X = callP sub text r2) := Lib.hid (by rw [← hX.out]; unfold nameP; rw [if_neg (by rw [HNB2.out]; decide), if_neg (fun h => by rw [hc.out] at h; cases h.2), if_pos ⟨hc.out, h5⟩]; rfl)
         have HCA := Lib.hid (call_any m E B b sub n HS.out HGD.out text t2 r2 o w4 H4.out (by simp at hn; omega) (by simp at hl; omega))
         clear h5
         go_wp2_with fail
         ((with_reducible refine HAT.out.mono ?_))
         rintro e w5 ⟨rfl, rfl⟩
         go_wp2_with fail
         ((with_reducible refine HCA.out.mono ?_))
         rintro e w6 ⟨hb6, hres⟩
         have HB6 : Hid (Below B w w6) := Lib.hid (HB4.out.trans hb6)
         clear hb6
         cases hcp : callP sub text r2 with
         | no x =>
           rw [hcp] at hres HX
           obtain ⟨rfl, hp6⟩ := hres
           have HP6 := Lib.hid hp6
           clear hp6
           go_wp2_with fail
           go_ret
           rw [hX.out, HX.out]
           exact ⟨HB6.out, rfl, HP6.out⟩
         | ok x ns =>
           rw [hcp] at hres HX
           obtain ⟨rfl, hp6⟩ := hres
           have HP6 := Lib.hid hp6
           clear hp6
           go_wp2_with fail
           go_ret
           rw [hX.out, HX.out]
           exact ⟨HB6.out, rfl, HP6.out⟩
     | false =>
       rw [h5] at HAT
       have HX : Hid (X = .no r) := Lib.hid (by rw [← hX.out]; unfold nameP; rw [if_neg (by rw [HNB2.out]; decide), if_neg (fun h => by rw [hc.out] at h; cases h.2), if_neg (fun h => by have := h.2; simp only [List.tail_cons] at this; rw [h5] at this; cases this), if_pos hp.out]; rfl)
       clear h5
       go_wp2_with fail
       ((with_reducible refine HAT.out.mono ?_))
       rintro e w5 ⟨rfl, rfl⟩
       have HF := Lib.hid (fail_any m E B b w4 _ _ H4.out (by first | omega | (simp; omega)))
       go_wp2_with fail
       ((with_reducible refine HF.out.mono ?_))
       rintro e wf ⟨rfl, hbad, hbf⟩
       have HBF : Hid (Below B w wf) := Lib.hid (HB4.out.trans hbf)
       have HBAD := Lib.hid hbad
       clear hbad hbf
       go_wp2_with fail
       go_ret
       rw [hX.out, HX.out]
       exact ⟨HBF.out, rfl, HBAD.out⟩
    ·go_wp2_with fail
     ((with_reducible refine (HA3.out _).mono ?_))
     rintro e wa ⟨rfl, rfl⟩
     go_wp2_with fail
     ((with_reducible refine (HA5.out _).mono ?_))
     rintro e wa ⟨rfl, rfl⟩
     have HSK := Lib.hid (skip_any m E B b W2 t r o H2.out (by omega))
     go_wp2_with fail
     ((with_reducible refine HSK.out.mono ?_))
     rintro e w4 ⟨rfl, h4, hb4⟩
     have HB4 : Hid (Below B w w4) := Lib.hid (HB2.out.trans hb4)
     have H4 := Lib.hid h4
     clear h4 hb4 HSK
     have HX : Hid (X = .ok r [⟨3, 0, text, 0⟩]) := Lib.hid (by rw [← hX.out]; unfold nameP; rw [if_neg (by rw [HNB2.out]; decide), if_neg (fun h => by rw [hp.out] at h; cases h.1), if_neg (fun h => by rw [hc.out] at h; cases h.1), if_neg (by rw [hp.out]; decide)]; rfl)
     have HAD := Lib.hid (add_any m E B b 3 0 0 text w4 r o H4.out (by omega))
     unfold tokV at HAD
     go_wp2_with fail
     ((with_reducible refine HAD.out.mono ?_))
     rintro e w6 ⟨rfl, h6, hb6⟩
     have HB6 : Hid (Below B w w6) := Lib.hid (HB4.out.trans hb6)
     have H6 := Lib.hid h6
     clear h6 hb6
     go_wp2_with fail
     go_ret
     rw [hX.out, HX.out]
     exact ⟨HB6.out, rfl, H6.out⟩
    ·go_wp2_with fail
     ((with_reducible refine (HA3.out _).mono ?_))
     rintro e wa ⟨rfl, rfl⟩
     go_wp2_with fail
     ((with_reducible refine (HA5.out _).mono ?_))
     rintro e wa ⟨rfl, rfl⟩
     have HSK := Lib.hid (skip_any m E B b W2 t r o H2.out (by omega))
     go_wp2_with fail
     ((with_reducible refine HSK.out.mono ?_))
     rintro e w4 ⟨rfl, h4, hb4⟩
     have HB4 : Hid (Below B w w4) := Lib.hid (HB2.out.trans hb4)
     have H4 := Lib.hid h4
     clear h4 hb4 HSK
     have HAT := Lib.hid (at_any m E B b 5 w4 r o H4.out (by omega))
     cases h5 : atT 5 r with
     | true =>
       rw [h5] at HAT
       cases r with
       | nil => cases h5
       | cons t2 r2 =>
         have HX : Hid (X = callP sub text r2) := Lib.hid (by rw [← hX.out]; unfold nameP; rw [if_neg (by rw [HNB2.out]; decide), if_neg (fun h => by rw [hp.out] at h; cases h.1), if_pos ⟨hc.out, h5⟩]; rfl)
         have HCA := Lib.hid (call_any m E B b sub n HS.out HGD.out text t2 r2 o w4 H4.out (by simp at hn; omega) (by simp at hl; omega))
         clear h5
         go_wp2_with fail
         ((with_reducible refine HAT.out.mono ?_))
         rintro e w5 ⟨rfl, rfl⟩
         go_wp2_with fail
         ((with_reducible refine HCA.out.mono ?_))
         rintro e w6 ⟨hb6, hres⟩
         have HB6 : Hid (Below B w w6) := Lib.hid (HB4.out.trans hb6)
         clear hb6
         cases hcp : callP sub text r2 with
         | no x =>
           rw [hcp] at hres HX
           obtain ⟨rfl, hp6⟩ := hres
           have HP6 := Lib.hid hp6
           clear hp6
           go_wp2_with fail
           go_ret
           rw [hX.out, HX.out]
           exact ⟨HB6.out, rfl, HP6.out⟩
         | ok x ns =>
           rw [hcp] at hres HX
           obtain ⟨rfl, hp6⟩ := hres
           have HP6 := Lib.hid hp6
           clear hp6
           go_wp2_with fail
           go_ret
           rw [hX.out, HX.out]
           exact ⟨HB6.out, rfl, HP6.out⟩
     | false =>
       rw [h5] at HAT
       have HX : Hid (X = .ok r [⟨3, 0, text, 0⟩]) := Lib.hid (by rw [← hX.out]; unfold nameP; rw [if_neg (by rw [HNB2.out]; decide), if_neg (fun h => by rw [hp.out] at h; cases h.1), if_neg (fun h => by have := h.2; simp only [List.tail_cons] at this; rw [h5] at this; cases this), if_neg (by rw [hp.out]; decide)]; rfl)
       clear h5
       go_wp2_with fail
       ((with_reducible refine HAT.out.mono ?_))
       rintro e w5 ⟨rfl, rfl⟩
       have HAD := Lib.hid (add_any m E B b 3 0 0 text w4 r o H4.out (by omega))
       unfold tokV at HAD
       go_wp2_with fail
       ((with_reducible refine HAD.out.mono ?_))
       rintro e w6 ⟨rfl, h6, hb6⟩
       have HB6 : Hid (Below B w w6) := Lib.hid (HB4.out.trans hb6)
       have H6 := Lib.hid h6
       clear h6 hb6
       go_wp2_with fail
       go_ret
       rw [hX.out, HX.out]
       exact ⟨HB6.out, rfl, H6.out⟩
end Go.Proofs.YtnicnfchkdmieaaGreatDoor
