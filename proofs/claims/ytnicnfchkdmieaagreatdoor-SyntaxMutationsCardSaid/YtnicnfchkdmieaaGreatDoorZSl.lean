/- Sl -/
import Derived.Test.YtnicnfchkdmieaaGreatDoorZSk
set_option linter.unusedVariables false
set_option linter.unusedSimpArgs false
namespace Go.Proofs.YtnicnfchkdmieaaGreatDoor
open Go.RowKit
attribute [local go_sem] ByteArray.mk_append_mk bs_get bs_cut bs_end
theorem skip_set (m E : Int) (B b : Nat) (w : World) (t : TokI) (q : List TokI) (o : List Nd) (h : PSt m E B b w (t :: q) o) (hr : q.length ≤ 1000000) :
 Calls Tryz.prog 87 #[.pointer (some ⟨b, 0, none⟩)] w fun e w' => e = .returned (.tuple #[]) ∧ PSt m E B b w' q o ∧ Below B w w' ∧ ∃ u, w' = w.setCell ⟨b, 0, none⟩ u := by
 have H := Lib.hid h
 obtain ⟨⟨tv, bad, nv, h1, h2, h3⟩, h4, h5, h6, h7, h8⟩ := h
 have KEY : Hid (∀ u, u = tailV tv → PSt m E B b (w.setCell ⟨b, 0, none⟩ u) q o) := Lib.hid (by rintro _ rfl; exact H.out.setTok h1 h3 h2.tail (h8.drop 1))
 obtain ⟨a, cap, rfl, hl, hc⟩ := h2
 obtain ⟨c0, c1, c2, c3⟩ := cells4 h1
 have f0 := free3 h1 0
 have hq : (1 : Int) ≤ ((t :: q).length : Int) := by simp only [List.length_cons]; omega
 clear h3 h6 h8 h1 hc
 go_enter Tryz.func87, Tryz.ntmps87
 go_wp2_with fail
 all_goals
  go_end0
  exact ⟨rfl, KEY.out _ (by simp [tailV, sliced, slicedAt, h, Addr.add]), (Below.refl _ _).setCell h4 _, _, rfl⟩
theorem sub_nil (m E : Int) (B b : Nat) (f : Nat) (kd : UInt8) (o : List Nd) (w : World) (h : PSt m E B b w [] o) :
 Calls Tryz.prog 47 #[.pointer (some ⟨b, 0, none⟩), .int .u8 kd.toNat] w (SynPost m E B b w o (subP f kd [])) := by
 have HF := Lib.hid (fail_any m E B b w [] o h (by simp))
 obtain ⟨X, hX⟩ : ∃ X, Hid (subP f kd [] = X) := ⟨_, Lib.hid rfl⟩
 have HX : Hid (X = .no []) := Lib.hid (by rw [← hX.out]; cases f <;> rfl)
 obtain ⟨tv, bad, nv, k1, k2, k3⟩ := h.ex
 obtain ⟨ta, tcap, rfl, tl, tc⟩ := k2
 obtain ⟨c0, c1, c2, c3⟩ := cells4 k1
 clear k1 k3 tc h
 go_enter Tryz.func47, Tryz.ntmps47
 go_wp2_with fail
 ((with_reducible refine HF.out.mono ?_))
 rintro e wf ⟨rfl, hbad, hbf⟩
 have HBF := Lib.hid hbf
 have HBAD := Lib.hid hbad
 clear hbad hbf
 go_wp2_with fail
 go_ret
 rw [hX.out, HX.out]
 exact ⟨HBF.out, rfl, HBAD.out⟩
set_option maxRecDepth 100000 in
set_option maxHeartbeats 8000000 in
theorem sub_step (m E : Int) (B b : Nat) (f : Nat) (hs : SubOk m E B b (subP f) f)
 (kd : UInt8) (t : TokI) (q : List TokI) (o : List Nd) (w : World) (h : PSt m E B b w (t :: q) o) (hr : (t :: q).length ≤ f + 1) (hl : o.length + (t :: q).length ≤ 100000) :
 Calls Tryz.prog 47 #[.pointer (some ⟨b, 0, none⟩), .int .u8 kd.toNat] w (SynPost m E B b w o (subP (f + 1) kd (t :: q))) := by
 have HS := Lib.hid hs
 have HGD := Lib.hid (subP_good f)
 obtain ⟨X, hX⟩ : ∃ X, Hid (subP (f + 1) kd (t :: q) = X) := ⟨_, Lib.hid rfl⟩
 obtain ⟨hgs, hgk⟩ := h.good t (by simp)
 have HGK := Lib.hid hgk
 have H2 := Lib.hid (h.alloc (.cells #[.int .i64 t.kind, .int .u64 t.num, .string ⟨t.str.toArray⟩, .int .i64 t.pos] 37))
 have HB2 : Hid (Below B w (w.alloc (.cells #[.int .i64 t.kind, .int .u64 t.num, .string ⟨t.str.toArray⟩, .int .i64 t.pos] 37))) := Lib.hid ((Below.refl _ _).alloc h.size _)
 have HBX0 := Lib.hid (heap_alloc_new w (.cells #[.int .i64 t.kind, .int .u64 t.num, .string ⟨t.str.toArray⟩, .int .i64 t.pos] 37))
 obtain ⟨tv, bad, nv, k1, k2, k3⟩ := h.ex
 obtain ⟨ta, tcap, rfl, tl, tc⟩ := k2
 obtain ⟨tg, toff, rfl, tB, tk⟩ := tc (by simp)
 obtain ⟨d0, d1, d2, d3⟩ := tk 0 (by simp)
 obtain ⟨c0, c1, c2, c3⟩ := cells4 k1
 simp only [Nat.zero_mul, Nat.add_zero, List.getElem_cons_zero] at d0 d1 d2 d3
 have hq : (0 : Int) < ((t :: q).length : Int) := by simp only [List.length_cons]; omega
 have hq0 : (((t :: q).length : Int) == 0) = false := by rw [beq_eq_false_iff_ne]; omega
 have HSZ := Lib.hid h.size
 have HBN : Hid (w.heap.size ≠ b) := Lib.hid (fun e => by have := lt_of_block k1; omega)
 clear k1 k3 tk tc h hs hgk
 obtain ⟨tk, tn, ts, tp⟩ := t
 simp only at d0 d1 d2 d3 H2 HB2 HBX0 hgs HGK
 go_enter Tryz.func47, Tryz.ntmps47
 go_upto_region 4 with fail
 generalize w.alloc (.cells #[.int .i64 tk, .int .u64 tn, .string ⟨ts.toArray⟩, .int .i64 tp] 37) = W2 at *
 obtain ⟨e0, e1, e2, e3⟩ := cells4 HBX0.out
 clear c0 c1 c2 c3 d0 d1 d2 d3
 rw [List.length_cons] at hr hl
 by_cases h1 : tk = 1
 ·subst h1
  have HX1 : Hid (X = nameP (subP f) kd ts (⟨1, tn, ts, tp⟩ :: q)) := Lib.hid (by rw [← hX.out]; unfold subP; rfl)
  have HCA := Lib.hid (name_any m E B b (subP f) f HS.out HGD.out kd ts ⟨1, tn, ts, tp⟩ q o W2 H2.out (by omega) (by omega) hgs)
  go_wp2_with fail
  ((with_reducible refine HCA.out.mono ?_))
  rintro e w6 ⟨hb6, hres⟩
  have HB6 : Hid (Below B w w6) := Lib.hid (HB2.out.trans hb6)
  clear hb6
  cases hcp : nameP (subP f) kd ts (⟨1, tn, ts, tp⟩ :: q) with
  | no x =>
    rw [hcp] at hres HX1
    obtain ⟨rfl, hp6⟩ := hres
    have HP6 := Lib.hid hp6
    clear hp6
    go_wp2_with fail
    go_ret
    rw [hX.out, HX1.out]
    exact ⟨HB6.out, rfl, HP6.out⟩
  | ok x ns =>
    rw [hcp] at hres HX1
    obtain ⟨rfl, hp6⟩ := hres
    have HP6 := Lib.hid hp6
    clear hp6
    go_wp2_with fail
    go_ret
    rw [hX.out, HX1.out]
    exact ⟨HB6.out, rfl, HP6.out⟩
 by_cases h2 : tk = 2
 ·subst h2
  have hne := HGK.out rfl
  obtain ⟨d, c, hdc⟩ : ∃ d c, ts = d ++ [c] := ⟨ts.dropLast, ts.getLast hne, (List.dropLast_concat_getLast hne).symm⟩
  have HX1 : Hid (X = wordP (subP f) kd ts (⟨2, tn, ts, tp⟩ :: q)) := Lib.hid (by rw [← hX.out]; unfold subP; rfl)
  have HCA := Lib.hid (keyword_any m E B b (subP f) f HS.out HGD.out kd d c ⟨2, tn, ts, tp⟩ q o W2 H2.out (by omega) (by omega) (by rw [hdc] at hgs; simp at hgs; omega))
  rw [← hdc] at HCA
  clear hne hdc
  go_wp2_with fail
  ((with_reducible refine HCA.out.mono ?_))
  rintro e w6 ⟨hb6, hres⟩
  have HB6 : Hid (Below B w w6) := Lib.hid (HB2.out.trans hb6)
  clear hb6
  cases hcp : wordP (subP f) kd ts (⟨2, tn, ts, tp⟩ :: q) with
  | no x =>
    rw [hcp] at hres HX1
    obtain ⟨rfl, hp6⟩ := hres
    have HP6 := Lib.hid hp6
    clear hp6
    go_wp2_with fail
    go_ret
    rw [hX.out, HX1.out]
    exact ⟨HB6.out, rfl, HP6.out⟩
  | ok x ns =>
    rw [hcp] at hres HX1
    obtain ⟨rfl, hp6⟩ := hres
    have HP6 := Lib.hid hp6
    clear hp6
    go_wp2_with fail
    go_ret
    rw [hX.out, HX1.out]
    exact ⟨HB6.out, rfl, HP6.out⟩
 by_cases h3 : tk = 3
 ·subst h3
  obtain ⟨a, ha⟩ : ∃ a, Hid (accB kd 1 = a) := ⟨_, Lib.hid rfl⟩
  have HA := Lib.hid (fun w => acc_is kd 1 a ha w)
  cases a with
  | false =>
    have HX : Hid (X = .no (⟨3, tn, ts, tp⟩ :: q)) := Lib.hid (by rw [← hX.out]; unfold subP; simp only [show ((3 : Int) = 1) = False by decide, show ((3 : Int) = 2) = False by decide, if_false, true_and]; rw [ha.out]; rfl)
    go_wp2_with fail
    ((with_reducible refine (HA.out _).mono ?_))
    rintro e wa ⟨rfl, rfl⟩
    have HF := Lib.hid (fail_any m E B b W2 _ _ H2.out (by first | omega | (simp only [List.length_cons]; omega)))
    go_wp2_with fail
    ((with_reducible refine HF.out.mono ?_))
    rintro e wf ⟨rfl, hbad, hbf⟩
    have HBF : Hid (Below B w wf) := Lib.hid (HB2.out.trans hbf)
    have HBAD := Lib.hid hbad
    clear hbad hbf
    go_wp2_with fail
    go_ret
    rw [hX.out, HX.out]
    exact ⟨HBF.out, rfl, HBAD.out⟩
  | true =>
    have HX : Hid (X = .ok q [⟨1, tn, [], 0⟩]) := Lib.hid (by rw [← hX.out]; unfold subP; simp only [show ((3 : Int) = 1) = False by decide, show ((3 : Int) = 2) = False by decide, if_false, true_and]; rw [ha.out]; rfl)
    have HSK := Lib.hid (skip_set m E B b W2 ⟨3, tn, ts, tp⟩ q o H2.out (by omega))
    go_wp2_with fail
    ((with_reducible refine (HA.out _).mono ?_))
    rintro e wa ⟨rfl, rfl⟩
    go_wp2_with fail
    ((with_reducible refine HSK.out.mono ?_))
    rintro e w4 ⟨rfl, h4, hb4, u4, hw4⟩
    have HB4 : Hid (Below B w w4) := Lib.hid (HB2.out.trans hb4)
    have hg4 : w4.heap[w.heap.size]? = some (.cells #[.int .i64 3, .int .u64 tn, .string ⟨ts.toArray⟩, .int .i64 tp] 37 (0, 0)) := by rw [hw4]; exact blk_other HBX0.out _ _ HBN.out
    obtain ⟨g0, g1, g2, g3⟩ := cells4 hg4
    have HAD := Lib.hid (add_any m E B b 1 tn 0 [] w4 q o h4 (by omega))
    unfold tokV at HAD
    clear h4 hb4 HSK e0 e1 e2 e3 hg4 hw4
    go_wp2_with fail
    ((with_reducible refine HAD.out.mono ?_))
    rintro e w6 ⟨rfl, h6, hb6⟩
    have HB6 : Hid (Below B w w6) := Lib.hid (HB4.out.trans hb6)
    have H6 := Lib.hid h6
    clear h6 hb6
    go_wp2_with fail
    go_ret
    rw [hX.out, HX.out]
    exact ⟨HB6.out, rfl, H6.out⟩
 by_cases h4 : tk = 4
 ·subst h4
  obtain ⟨a, ha⟩ : ∃ a, Hid (accB kd 2 = a) := ⟨_, Lib.hid rfl⟩
  have HA := Lib.hid (fun w => acc_is kd 2 a ha w)
  cases a with
  | false =>
    have HX : Hid (X = .no (⟨4, tn, ts, tp⟩ :: q)) := Lib.hid (by rw [← hX.out]; unfold subP; simp only [show ((4 : Int) = 1) = False by decide, show ((4 : Int) = 2) = False by decide, show ((4 : Int) = 3) = False by decide, if_false, true_and, false_and]; rw [ha.out]; rfl)
    go_wp2_with fail
    ((with_reducible refine (HA.out _).mono ?_))
    rintro e wa ⟨rfl, rfl⟩
    have HF := Lib.hid (fail_any m E B b W2 _ _ H2.out (by first | omega | (simp only [List.length_cons]; omega)))
    go_wp2_with fail
    ((with_reducible refine HF.out.mono ?_))
    rintro e wf ⟨rfl, hbad, hbf⟩
    have HBF : Hid (Below B w wf) := Lib.hid (HB2.out.trans hbf)
    have HBAD := Lib.hid hbad
    clear hbad hbf
    go_wp2_with fail
    go_ret
    rw [hX.out, HX.out]
    exact ⟨HBF.out, rfl, HBAD.out⟩
  | true =>
    have HX : Hid (X = .ok q [⟨2, 0, ts, 0⟩]) := Lib.hid (by rw [← hX.out]; unfold subP; simp only [show ((4 : Int) = 1) = False by decide, show ((4 : Int) = 2) = False by decide, show ((4 : Int) = 3) = False by decide, if_false, true_and, false_and]; rw [ha.out]; rfl)
    have HSK := Lib.hid (skip_set m E B b W2 ⟨4, tn, ts, tp⟩ q o H2.out (by omega))
    go_wp2_with fail
    ((with_reducible refine (HA.out _).mono ?_))
    rintro e wa ⟨rfl, rfl⟩
    go_wp2_with fail
    ((with_reducible refine HSK.out.mono ?_))
    rintro e w4 ⟨rfl, h4, hb4, u4, hw4⟩
    have HB4 : Hid (Below B w w4) := Lib.hid (HB2.out.trans hb4)
    have hg4 : w4.heap[w.heap.size]? = some (.cells #[.int .i64 4, .int .u64 tn, .string ⟨ts.toArray⟩, .int .i64 tp] 37 (0, 0)) := by rw [hw4]; exact blk_other HBX0.out _ _ HBN.out
    obtain ⟨g0, g1, g2, g3⟩ := cells4 hg4
    have HAD := Lib.hid (add_any m E B b 2 0 0 ts w4 q o h4 (by omega))
    unfold tokV at HAD
    clear h4 hb4 HSK e0 e1 e2 e3 hg4 hw4
    go_wp2_with fail
    ((with_reducible refine HAD.out.mono ?_))
    rintro e w6 ⟨rfl, h6, hb6⟩
    have HB6 : Hid (Below B w w6) := Lib.hid (HB4.out.trans hb6)
    have H6 := Lib.hid h6
    clear h6 hb6
    go_wp2_with fail
    go_ret
    rw [hX.out, HX.out]
    exact ⟨HB6.out, rfl, H6.out⟩
 have f1 : (tk == 1) = false := beq_eq_false_iff_ne.2 h1
 have f2 : (tk == 2) = false := beq_eq_false_iff_ne.2 h2
 have f3 : (tk == 3) = false := beq_eq_false_iff_ne.2 h3
 have f4 : (tk == 4) = false := beq_eq_false_iff_ne.2 h4
 have HX : Hid (X = .no (⟨tk, tn, ts, tp⟩ :: q)) := Lib.hid (by rw [← hX.out]; unfold subP; simp only [h1, h2, h3, h4, if_false, false_and])
 clear h1 h2 h3 h4
 have HF := Lib.hid (fail_any m E B b W2 _ _ H2.out (by first | omega | (simp only [List.length_cons]; omega)))
 go_wp2_with fail
 ((with_reducible refine HF.out.mono ?_))
 rintro e wf ⟨rfl, hbad, hbf⟩
 have HBF : Hid (Below B w wf) := Lib.hid (HB2.out.trans hbf)
 have HBAD := Lib.hid hbad
 clear hbad hbf
 go_wp2_with fail
 go_ret
 rw [hX.out, HX.out]
 exact ⟨HBF.out, rfl, HBAD.out⟩
theorem sub_ok (m E : Int) (B b : Nat) : ∀ f, SubOk m E B b (subP f) f
 | 0, kd, r, o, w, h, hr, hl => by
   have : r = [] := List.eq_nil_of_length_eq_zero (by omega)
   subst this
   exact sub_nil m E B b 0 kd o w h
 | f + 1, kd, r, o, w, h, hr, hl => by
   cases r with
   | nil => exact sub_nil m E B b (f + 1) kd o w h
   | cons t q => exact sub_step m E B b f (sub_ok m E B b f) kd t q o w h hr hl
end Go.Proofs.YtnicnfchkdmieaaGreatDoor
