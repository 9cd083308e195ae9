/- Sm -/
import Derived.Test.YtnicnfchkdmieaaGreatDoorZSl
set_option linter.unusedVariables false
set_option linter.unusedSimpArgs false
namespace Go.Proofs.YtnicnfchkdmieaaGreatDoor
open Go.RowKit
attribute [local go_sem] ByteArray.mk_append_mk bs_get bs_cut bs_end run_kids
def KidsPost (w : World) (n : Nd) (e : Ending) (w' : World) : Prop := ∃ ks : List UInt8, e = .returned (.tuple #[.string ⟨ks.toArray⟩, .bool (kidsK n).isSome]) ∧ (∀ x, kidsK n = some x → ks = x) ∧ Below w.heap.size w w'
theorem form_is (op : Int) (xw xk : List UInt8) (H : Hid (formP op = (xw, xk))) (w : World) (m : Int) (hm : SynG m w) : Calls Tryz.prog 81 #[.int .i64 op] w fun e w' => e = .returned (.agg #[.string ⟨xw.toArray⟩, .string ⟨xk.toArray⟩]) ∧ Below w.heap.size w w' := by
 have := form_any op w m hm
 rw [H.out] at this
 exact this
theorem take_es (p : Int) (h0 : 0 ≤ p) (h7 : p ≤ 7) : List.take p.toNat ([101, 101, 101, 101, 101, 101, 101] : List UInt8) = List.replicate p.toNat 101 := by
 have : p = 0 ∨ p = 1 ∨ p = 2 ∨ p = 3 ∨ p = 4 ∨ p = 5 ∨ p = 6 ∨ p = 7 := by omega
 rcases this with rfl | rfl | rfl | rfl | rfl | rfl | rfl | rfl <;> rfl
set_option maxRecDepth 100000 in
set_option maxHeartbeats 4000000 in
theorem kids_any (k n p : Int) (s : List UInt8) (w : World) (m : Int) (hm : SynG m w) : Calls Tryz.prog 75 #[tokV k n s p] w (KidsPost w ⟨k, n, s, p⟩) := by
 obtain ⟨X, hX⟩ : ∃ X, Hid (kidsK ⟨k, n, s, p⟩ = X) := ⟨_, Lib.hid rfl⟩
 have HBA : Hid (∀ o, Below w.heap.size w (w.alloc o)) := Lib.hid (fun o => (Below.refl _ _).alloc (Nat.le_refl _) o)
 obtain ⟨e0, e1, e2, e3⟩ := cells4 (heap_alloc_new w (nObj k n s p))
 have HE := Lib.hid (heap_alloc_new w (nObj k n s p))
 have HG := Lib.hid (hm.below (HBA.out (nObj k n s p)) hm.low)
 clear hm
 unfold tokV KidsPost
 by_cases h5 : k = 5
 ·subst h5
  by_cases h0 : p < 0
  ·have HX : Hid (X = none) := Lib.hid (by rw [← hX.out]; unfold kidsK; simp only [if_true]; rw [if_neg (by omega)])
   go_enter Tryz.func75, Tryz.ntmps75
   go_wp2_with fail
   go_ret2
   rw [hX.out, HX.out]
   exact ⟨_, rfl, fun x hx => (by cases hx), HBA.out _⟩
  by_cases h7 : 7 < p
  ·have HX : Hid (X = none) := Lib.hid (by rw [← hX.out]; unfold kidsK; simp only [if_true]; rw [if_neg (by omega)])
   go_enter Tryz.func75, Tryz.ntmps75
   go_wp2_with fail
   go_ret2
   rw [hX.out, HX.out]
   exact ⟨_, rfl, fun x hx => (by cases hx), HBA.out _⟩
  ·have HX : Hid (X = some (List.replicate p.toNat 101)) := Lib.hid (by rw [← hX.out]; unfold kidsK; simp only [if_true]; rw [if_pos (by omega)])
   have HT := Lib.hid (take_es p (by omega) (by omega))
   have h0' : 0 ≤ p := by omega
   have h7' : p ≤ 7 := by omega
   go_enter Tryz.func75, Tryz.ntmps75
   go_wp2_with fail
   go_ret2
   rw [hX.out, HX.out]
   exact ⟨_, rfl, fun x hx => (by injection hx with hx; rw [← hx]; exact HT.out), HBA.out _⟩
 have f5 : (k == 5) = false := beq_eq_false_iff_ne.2 h5
 by_cases h33 : k = 33
 ·subst h33
  by_cases h0 : p < 0
  ·have HX : Hid (X = none) := Lib.hid (by rw [← hX.out]; unfold kidsK; simp only [show ((33 : Int) = 5) = False by decide, if_false, if_true]; rw [if_neg (by omega)])
   go_enter Tryz.func75, Tryz.ntmps75
   go_wp2_with fail
   go_ret2
   rw [hX.out, HX.out]
   exact ⟨_, rfl, fun x hx => (by cases hx), HBA.out _⟩
  by_cases h7 : 1 < p
  ·have HX : Hid (X = none) := Lib.hid (by rw [← hX.out]; unfold kidsK; simp only [show ((33 : Int) = 5) = False by decide, if_false, if_true]; rw [if_neg (by omega)])
   go_enter Tryz.func75, Tryz.ntmps75
   go_wp2_with fail
   go_ret2
   rw [hX.out, HX.out]
   exact ⟨_, rfl, fun x hx => (by cases hx), HBA.out _⟩
  ·have HX : Hid (X = some (List.replicate p.toNat 101)) := Lib.hid (by rw [← hX.out]; unfold kidsK; simp only [show ((33 : Int) = 5) = False by decide, if_false, if_true]; rw [if_pos (by omega)])
   have HT := Lib.hid (take_es p (by omega) (by omega))
   have h0' : 0 ≤ p := by omega
   have h7' : p ≤ 1 := by omega
   have h7'' : p ≤ 7 := by omega
   go_enter Tryz.func75, Tryz.ntmps75
   go_wp2_with fail
   go_ret2
   rw [hX.out, HX.out]
   exact ⟨_, rfl, fun x hx => (by injection hx with hx; rw [← hx]; exact HT.out), HBA.out _⟩
 have f33 : (k == 33) = false := beq_eq_false_iff_ne.2 h33
 by_cases h31 : k = 31 ∧ p = 3
 ·obtain ⟨rfl, rfl⟩ := h31
  have HX : Hid (X = some [101, 83, 83]) := Lib.hid (by rw [← hX.out]; rfl)
  go_enter Tryz.func75, Tryz.ntmps75
  go_wp2_with fail
  go_ret2
  rw [hX.out, HX.out]
  exact ⟨_, rfl, fun x hx => (by injection hx), HBA.out _⟩
 have HXF : Hid (X = if ((formP k).2.length : Int) = p then some (formP k).2 else none) := Lib.hid (by rw [← hX.out]; unfold kidsK; simp only []; rw [if_neg h5, if_neg h33, if_neg h31])
 obtain ⟨⟨xw, xk⟩, hf⟩ : ∃ x, formP k = x := ⟨_, rfl⟩
 have HF := Lib.hid (fun w hm => form_is k xw xk (Lib.hid hf) w m hm)
 rw [hf] at HXF
 simp only at HXF
 have f31 : k = 31 → (p == 3) = false := fun h => beq_eq_false_iff_ne.2 (fun h2 => h31 ⟨h, h2⟩)
 obtain ⟨L, hL⟩ : ∃ L, xk.length = L := ⟨_, rfl⟩
 have HL := Lib.hid hL
 by_cases hk : k = 31
 ·have f31' := f31 hk
  subst hk
  clear h5 h33 h31 hf f31
  go_enter Tryz.func75, Tryz.ntmps75
  go_wp2_with fail
  ((with_reducible refine (HF.out _ HG.out).mono ?_))
  rintro e w2 ⟨rfl, hb⟩
  have HB2 := Lib.hid (bel_then (HBA.out (nObj 31 n s p)) (by simp) hb)
  have HE2 := Lib.hid (blk_below HE.out hb)
  clear hb e0 e1 e2 e3
  obtain ⟨e0, e1, e2, e3⟩ := cells4 HE2.out
  go_wp2_with fail
  go_quiet (fail)
  go_wp2_with fail
  go_ret2
  rw [hX.out, HXF.out, HL.out]
  refine ⟨xk, ?_, fun x hx => ?_, below_drewN HB2.out _⟩
  ·by_cases hp : (L : Int) = p <;> simp [hp]
  ·split at hx
   ·injection hx
   ·cases hx
 ·have f31' : (k == 31) = false := beq_eq_false_iff_ne.2 hk
  clear h5 h33 h31 hf f31 hk
  go_enter Tryz.func75, Tryz.ntmps75
  go_wp2_with fail
  ((with_reducible refine (HF.out _ HG.out).mono ?_))
  rintro e w2 ⟨rfl, hb⟩
  have HB2 := Lib.hid (bel_then (HBA.out (nObj k n s p)) (by simp) hb)
  have HE2 := Lib.hid (blk_below HE.out hb)
  clear hb e0 e1 e2 e3
  obtain ⟨e0, e1, e2, e3⟩ := cells4 HE2.out
  go_wp2_with fail
  go_quiet (fail)
  go_wp2_with fail
  go_ret2
  rw [hX.out, HXF.out, HL.out]
  refine ⟨xk, ?_, fun x hx => ?_, below_drewN HB2.out _⟩
  ·by_cases hp : (L : Int) = p <;> simp [hp]
  ·split at hx
   ·injection hx
   ·cases hx
def intB (k n : Int) : Bool := if k = 1 then true else if k = 6 then decide (n < 8) else if k = 7 then decide (n < 7) else n == 0
def strB (k : Int) (s : List UInt8) (kd : UInt8) : Bool := if k = 3 ∨ k = 5 then nameB kd s else if k = 2 then decide (s.length ≤ 255) else s == []
theorem fieldsB_is (k n p : Int) (s : List UInt8) (kd : UInt8) : fieldsB ⟨k, n, s, p⟩ kd = (intB k n && strB k s kd) := rfl
set_option maxRecDepth 100000 in
set_option maxHeartbeats 8000000 in
theorem fields_any (k n p : Int) (s : List UInt8) (kd : UInt8) (w : World) (m : Int) (hm : SynG m w) (hs : s.length ≤ 4000000000) (hn : 0 ≤ n) : Calls Tryz.prog 74 #[tokV k n s p, .int .u8 kd.toNat] w fun e w' => e = .returned (.bool (fieldsB ⟨k, n, s, p⟩ kd)) ∧ Below w.heap.size w w' := by
 have HBA : Hid (∀ o, Below w.heap.size w (w.alloc o)) := Lib.hid (fun o => (Below.refl _ _).alloc (Nat.le_refl _) o)
 have HE := Lib.hid (heap_alloc_new w (nObj k n s p))
 have HG := Lib.hid (hm.below (HBA.out (nObj k n s p)) hm.low)
 have HB := Lib.hid (HBA.out (nObj k n s p))
 obtain ⟨e0, e1, e2, e3⟩ := cells4 HE.out
 obtain ⟨X, hX⟩ : ∃ X, Hid (fieldsB ⟨k, n, s, p⟩ kd = X) := ⟨_, Lib.hid rfl⟩
 have HX0 : Hid (X = (intB k n && strB k s kd)) := Lib.hid (by rw [← hX.out, fieldsB_is])
 obtain ⟨P, hP⟩ : ∃ P, w.heap.size = P := ⟨_, rfl⟩
 have HPE := Lib.hid hP
 clear hm HBA
 unfold tokV
 go_enter Tryz.func74, Tryz.ntmps74
 go_upto_region 1 with fail
 generalize w.alloc (nObj k n s p) = W at *
 simp only [hP] at HB HE e0 e1 e2 e3 ⊢
 clear hP
 go_upto_block 0 with fail
 go_cut [12] (fun v wx => Hid (intB k n = true) ∧ W = wx)
 case first =>
  by_cases h1 : k = 1
  ·have f1 : (k == 1) = true := by rw [h1]; rfl
   have HI : Hid (intB k n = true) := Lib.hid (by unfold intB; rw [if_pos h1])
   clear h1
   go_wp2_with fail
   go_meet
   exact ⟨HI, rfl⟩
  have f1 : (k == 1) = false := beq_eq_false_iff_ne.2 h1
  by_cases h6 : k = 6
  ·have f6 : (k == 6) = true := by rw [h6]; rfl
   by_cases h8 : n < 8
   ·have HI : Hid (intB k n = true) := Lib.hid (by unfold intB; rw [if_neg h1, if_pos h6]; exact decide_eq_true h8)
    clear h1 h6
    go_wp2_with fail
    go_meet
    exact ⟨HI, rfl⟩
   ·have HX : Hid (X = false) := Lib.hid (by rw [HX0.out, show intB k n = false by unfold intB; rw [if_neg h1, if_pos h6]; exact decide_eq_false h8]; rfl)
    have h8' : 8 ≤ n := by omega
    clear h1 h6
    go_wp2_with fail
    go_ret
    rw [hX.out, HX.out]
    exact ⟨rfl, by rw [HPE.out]; exact HB.out⟩
  have f6 : (k == 6) = false := beq_eq_false_iff_ne.2 h6
  by_cases h7 : k = 7
  ·have f7 : (k == 7) = true := by rw [h7]; rfl
   by_cases h8 : n < 7
   ·have HI : Hid (intB k n = true) := Lib.hid (by unfold intB; rw [if_neg h1, if_neg h6, if_pos h7]; exact decide_eq_true h8)
    clear h1 h6 h7
    go_wp2_with fail
    go_meet
    exact ⟨HI, rfl⟩
   ·have HX : Hid (X = false) := Lib.hid (by rw [HX0.out, show intB k n = false by unfold intB; rw [if_neg h1, if_neg h6, if_pos h7]; exact decide_eq_false h8]; rfl)
    have h8' : 7 ≤ n := by omega
    clear h1 h6 h7
    go_wp2_with fail
    go_ret
    rw [hX.out, HX.out]
    exact ⟨rfl, by rw [HPE.out]; exact HB.out⟩
  have f7 : (k == 7) = false := beq_eq_false_iff_ne.2 h7
  by_cases h8 : n = 0
  ·have f8 : (n != 0) = false := by rw [h8]; rfl
   have HI : Hid (intB k n = true) := Lib.hid (by unfold intB; rw [if_neg h1, if_neg h6, if_neg h7, h8]; rfl)
   clear h1 h6 h7 h8
   go_wp2_with fail
   go_meet
   exact ⟨HI, rfl⟩
  ·have f8 : (n != 0) = true := bne_iff_ne.2 h8
   have HX : Hid (X = false) := Lib.hid (by rw [HX0.out, show intB k n = false by unfold intB; rw [if_neg h1, if_neg h6, if_neg h7]; exact beq_eq_false_iff_ne.2 h8]; rfl)
   clear h1 h6 h7 h8
   go_wp2_with fail
   go_ret
   rw [hX.out, HX.out]
   exact ⟨rfl, by rw [HPE.out]; exact HB.out⟩
 case rest =>
  obtain ⟨HI, rfl⟩ := hcut
  obtain ⟨W, rfl⟩ : ∃ x : World, x = W := ⟨_, rfl⟩
  have HX1 : Hid (X = strB k s kd) := Lib.hid (by rw [HX0.out, HI.out, Bool.true_and])
  clear HX0 HI
  by_cases h35 : k = 3 ∨ k = 5
  ·have HX2 : Hid (X = nameB kd s) := Lib.hid (by rw [HX1.out]; unfold strB; rw [if_pos h35])
   have HPA := Lib.hid (parse_any s m W HG.out.1 (by omega))
   have hPW : Hid (P ≤ W.heap.size) := Lib.hid (Nat.le_of_lt (lt_of_block HE.out))
   have f35 : (k == 3) = true ∨ ((k == 3) = false ∧ (k == 5) = true) := by
    rcases h35 with h | h
    ·left; rw [h]; rfl
    ·right; rw [h]; exact ⟨rfl, rfl⟩
   clear h35 HX1
   cases hok : parOk s with
   | false =>
     have HX : Hid (X = false) := Lib.hid (by rw [HX2.out]; unfold nameB; rw [hok]; rfl)
     unfold parPost PPost at HPA
     rw [hok] at HPA
     simp only [Bool.false_and, Bool.false_eq_true, if_false] at HPA
     clear hok
     rcases f35 with f3 | ⟨f3, f5⟩
     all_goals
      go_wp2_with fail
      ((with_reducible refine HPA.out.mono ?_))
      rintro e w1 ⟨v, rfl, hv, hb1⟩
      obtain ⟨va, vc, rfl⟩ := own_strs_form hv
      have HB1 : Hid (Below P w w1) := Lib.hid (HB.out.trans (hb1.mono hPW.out))
      have HS1 := Lib.hid hb1.size
      clear hv hb1
      go_wp2_with fail
      go_ret
      rw [hX.out, HX.out]
      exact ⟨rfl, by rw [HPE.out]; exact HB1.out.alloc (Nat.le_trans hPW.out HS1.out) _⟩
   | true =>
     have hsl := parSegs_len hok
     have HSG : Hid (singB s = (!parRoot s && (((parUp s : Nat) : Int) == 0) && (((parSegs s).length : Int) == 1))) := Lib.hid (by
      unfold singB
      congr 1
      ·congr 1
       rw [Bool.eq_iff_iff]; simp <;> omega
      ·rw [Bool.eq_iff_iff]; simp <;> omega)
     have HNB : Hid (X = (kd != 115 || singB s)) := Lib.hid (by rw [HX2.out]; unfold nameB; rw [hok]; rfl)
     unfold parPost PPost at HPA
     rw [hok] at HPA
     obtain ⟨segs, hsegs⟩ : ∃ z, parSegs s = z := ⟨_, rfl⟩
     obtain ⟨root, hroot⟩ : ∃ z, parRoot s = z := ⟨_, rfl⟩
     obtain ⟨up, hup⟩ : ∃ z, ((parUp s : Nat) : Int) = z := ⟨_, rfl⟩
     simp only [Bool.true_and, if_true, hsegs, hroot, hup] at HPA HSG
     rw [hsegs] at hsl
     clear hok hsegs hroot hup HX2
     have hkd : ((kd.toNat : Int) != 115) = (kd != 115) := by rw [bne, bne]; congr 1; exact byte_int kd 115
     obtain ⟨kb, hkb⟩ : ∃ z, (kd != 115) = z := ⟨_, rfl⟩
     rw [hkb] at hkd HNB
     clear hkb
     cases kb with
     | true =>
       have HX : Hid (X = true) := Lib.hid (by rw [HNB.out]; rfl)
       rcases f35 with f3 | ⟨f3, f5⟩
       all_goals
        go_wp2_with fail
        ((with_reducible refine HPA.out.mono ?_))
        rintro e w1 ⟨v, rfl, hv, hb1⟩
        obtain ⟨va, vc, rfl⟩ := own_strs_form hv
        have HB1 : Hid (Below P w w1) := Lib.hid (HB.out.trans (hb1.mono hPW.out))
        have HS1 := Lib.hid hb1.size
        clear hv hb1
        go_wp2_with fail
        go_ret
        rw [hX.out, HX.out]
        exact ⟨rfl, by rw [HPE.out]; exact HB1.out.alloc (Nat.le_trans hPW.out HS1.out) _⟩
     | false =>
       have HX : Hid (X = singB s) := Lib.hid (by rw [HNB.out]; rfl)
       have HSI := Lib.hid (fun va vc w => single_any root up va segs.length vc w (by omega))
       rw [← HSG.out, ← HX.out] at HSI
       rcases f35 with f3 | ⟨f3, f5⟩
       all_goals
        go_wp2_with fail
        ((with_reducible refine HPA.out.mono ?_))
        rintro e w1 ⟨v, rfl, hv, hb1⟩
        obtain ⟨va, vc, rfl⟩ := own_strs_form hv
        have HB1 : Hid (Below P w w1) := Lib.hid (HB.out.trans (hb1.mono hPW.out))
        have HS1 := Lib.hid hb1.size
        obtain ⟨d0, d1, d2⟩ := cells3 (heap_alloc_new w1 (.cells #[.bool root, .int .i64 up, .slice va segs.length vc] 144))
        have HB2 : Hid (Below P w (w1.alloc (.cells #[.bool root, .int .i64 up, .slice va segs.length vc] 144))) := Lib.hid (HB1.out.alloc (Nat.le_trans hPW.out HS1.out) _)
        have HS2 : Hid (P ≤ (w1.alloc (.cells #[.bool root, .int .i64 up, .slice va segs.length vc] 144)).heap.size) := Lib.hid (by simp; have := hPW.out; have := HS1.out; omega)
        clear hv hb1
        go_wp2_with fail
        ((with_reducible refine (HSI.out _ _ _).mono ?_))
        rintro e w3 ⟨rfl, hb3⟩
        have HB3 : Hid (Below P w w3) := Lib.hid (HB2.out.trans (hb3.mono HS2.out))
        clear hb3
        go_wp2_with fail
        go_ret
        rw [hX.out]
        exact ⟨rfl, by rw [HPE.out]; exact HB3.out⟩
  ·have f3 : (k == 3) = false := beq_eq_false_iff_ne.2 (fun h => h35 (.inl h))
   have f5 : (k == 5) = false := beq_eq_false_iff_ne.2 (fun h => h35 (.inr h))
   by_cases h2 : k = 2
   ·have f2 : (k == 2) = true := by rw [h2]; rfl
    have HX : Hid (X = decide (s.length ≤ 255)) := Lib.hid (by rw [HX1.out]; unfold strB; rw [if_neg h35, if_pos h2])
    have hd : decide ((s.length : Int) ≤ 255) = decide (s.length ≤ 255) := by rw [decide_eq_decide]; omega
    clear h2 h35 HX1
    go_wp2_with fail
    all_goals
     go_ret
     rw [hX.out, HX.out]
     exact ⟨by first | rfl | (congr 2; symm; simp; omega) | (congr 2; simp; omega), by rw [HPE.out]; exact HB.out⟩
   ·have f2 : (k == 2) = false := beq_eq_false_iff_ne.2 h2
    have HX : Hid (X = s.isEmpty) := Lib.hid (by rw [HX1.out]; unfold strB; rw [if_neg h35, if_neg h2]; cases s <;> rfl)
    clear h2 h35 HX1
    go_wp2_with fail
    go_ret
    rw [hX.out, HX.out]
    exact ⟨rfl, by rw [HPE.out]; exact HB.out⟩
end Go.Proofs.YtnicnfchkdmieaaGreatDoor
