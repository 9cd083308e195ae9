/- The walk of GpeWake. -/
import Derived.Test.YtdgeocmcmcflfaaDoorLaw5
namespace Go.Proofs.YtdgeocmcmcflfaaDoor
open Go.RowKit

/-- An event after its three calls. -/
def wkEv (s k e : Bool) : Ev := ⟨false, s, s, e, k, false⟩
/-- The events after i rounds. -/
def wkEvs (S K E : Nat) (i : Nat) : List Ev := (List.range 64).map fun j => if j < i then wkEv (S.testBit j) (K.testBit j) (E.testBit j) else newEv false
theorem wkEvs_len (S K E i : Nat) : (wkEvs S K E i).length = 64 := by simp [wkEvs]
theorem wkEvs_get (S K E i j : Nat) (h : j < 64) : (wkEvs S K E i)[j]? = some (if j < i then wkEv (S.testBit j) (K.testBit j) (E.testBit j) else newEv false) := by
  simp [wkEvs, List.getElem?_map, List.getElem?_range h]
theorem wkEvs_step (S K E i : Nat) (h : i < 64) : (wkEvs S K E i).set i (wkEv (S.testBit i) (K.testBit i) (E.testBit i)) = wkEvs S K E (i + 1) := by
  apply List.ext_getElem?
  intro j
  by_cases hj : j < 64
  · rw [wkEvs_get _ _ _ _ _ hj, List.getElem?_set]
    by_cases hij : i = j
    · subst hij; simp [wkEvs_len, h]
    · rw [if_neg hij, wkEvs_get _ _ _ _ _ hj]
      by_cases h1 : j < i
      · simp [h1, show j < i + 1 by omega]
      · simp [h1, show ¬ j < i + 1 by omega]
  · rw [List.getElem?_eq_none (by rw [List.length_set, wkEvs_len]; omega), List.getElem?_eq_none (by rw [wkEvs_len]; omega)]
theorem wkEvs_zero (S K E : Nat) : wkEvs S K E 0 = (List.replicate 64 false).map newEv := by
  apply List.ext_getElem?
  intro j
  by_cases hj : j < 64
  · rw [wkEvs_get _ _ _ _ _ hj, List.getElem?_map, List.getElem?_replicate, if_pos hj]; rfl
  · rw [List.getElem?_eq_none (by rw [wkEvs_len]; omega), List.getElem?_eq_none (by rw [List.length_map, List.length_replicate]; omega)]
theorem wk_word (f : Ev → Bool) (S K E X : Nat) (hX : X < 18446744073709551616) (h : ∀ j, j < 64 → f (wkEv (S.testBit j) (K.testBit j) (E.testBit j)) = X.testBit j) : word f (wkEvs S K E 64) = X := by
  apply Nat.eq_of_testBit_eq
  intro j
  rw [word_bit]
  by_cases hj : j < 64
  · rw [wkEvs_get _ _ _ _ _ hj, if_pos hj]; exact h j hj
  · rw [List.getElem?_eq_none (by rw [wkEvs_len]; omega)]
    have : X < 2 ^ j := Nat.lt_of_lt_of_le hX (by rw [show 18446744073709551616 = 2 ^ 64 from rfl]; exact Nat.pow_le_pow_right (by omega) (by omega))
    rw [Nat.testBit_lt_two_pow this]; rfl
theorem wk_rdy (S K E : Nat) (hS : S < 18446744073709551616) : word rdy (wkEvs S K E 64) = S &&& E :=
  wk_word rdy S K E _ (Nat.lt_of_le_of_lt Nat.and_le_left hS) fun j _ => by simp [rdy, wkEv]
theorem wk_wks (S K E : Nat) (hS : S < 18446744073709551616) : word wks (wkEvs S K E 64) = S &&& K :=
  wk_word wks S K E _ (Nat.lt_of_le_of_lt Nat.and_le_left hS) fun j _ => by simp [wks, wkEv]

theorem bit_test (x : Int) (k : Nat) (h : 0 ≤ x) (h' : x ≤ 18446744073709551615) : (bits .and .u64 (x / 2 ^ k) 1 == 1) = x.toNat.testBit k := by
  obtain ⟨n, rfl⟩ := Int.eq_ofNat_of_zero_le h
  have hd : ((n : Int) / 2 ^ k) = ((n / 2 ^ k : Nat) : Int) := by rw [Int.natCast_ediv, Int.natCast_pow]; rfl
  have hle : n / 2 ^ k ≤ n := Nat.div_le_self _ _
  have e1 : (1 : Int) = ((1 : Nat) : Int) := rfl
  rw [hd, e1, u64_and_nat _ 1 (by omega) (by omega), nat_mask1, Int.toNat_natCast, Nat.testBit_eq_decide_div_mod_eq, Bool.eq_iff_iff]
  simp only [beq_iff_eq, decide_eq_true_eq]
  omega
/-- What the last line asks of the first event. -/
theorem wake_last (x : Nat) (k : Nat) (hx : x < 18446744073709551616) (hk : k < 64) (h : x % 2 ^ (k + 1) = 2 ^ k) :
    (bits .and .u64 (((x : Nat) : Int) / 2 ^ k) 1 == 1) = true ∧ (bits .and .u64 ((x : Nat) : Int) (((2 ^ k : Nat) : Int) - 1) == 0) = true := by
  have hp : 0 < 2 ^ k := Nat.two_pow_pos k
  have hb := bit_lt64 k hk
  constructor
  · rw [bit_test _ k (by omega) (by omega), Int.toNat_natCast, Nat.testBit_eq_decide_div_mod_eq, decide_eq_true_eq]
    have h1 : x % 2 ^ (k + 1) / 2 ^ k = x / 2 ^ k % 2 := by rw [Nat.pow_succ, Nat.mod_mul_right_div_self]
    rw [← h1, h, Nat.div_self hp]
  · have e1 : (((2 ^ k : Nat) : Int) - 1) = ((2 ^ k - 1 : Nat) : Int) := by omega
    rw [e1, u64_and_nat _ _ hx (by omega), Nat.and_two_pow_sub_one_eq_mod]
    have h2 : x % 2 ^ k = 0 := by
      have : x % 2 ^ (k + 1) % 2 ^ k = x % 2 ^ k := Nat.mod_mod_of_dvd _ (Nat.pow_dvd_pow 2 (by omega))
      rw [← this, h, Nat.mod_self]
    rw [h2]; rfl

set_option maxRecDepth 100000 in
set_option maxHeartbeats 2000000 in
theorem law_wake (sx kx ex : Int) (w : World) (hT : Tab w) (h0 : 0 < w.heap.size) (hs : 0 ≤ sx) (hs' : sx ≤ 18446744073709551615) (hk : 0 ≤ kx) (hk' : kx ≤ 18446744073709551615) (he : 0 ≤ ex) (he' : ex ≤ 18446744073709551615) :
    Calls Tryd.prog 7 #[.int .u64 sx, .int .u64 kx, .int .u64 ex] w fun e w' => e = .returned (.bool true) ∧ Below w.heap.size w w' := by
  have HT := Lib.hid hT
  clear hT
  obtain ⟨i0, hi, hz0, hz1, hz2⟩ := info_parts info4
  go_enter Tryd.func7, Tryd.ntmps7
  go_wp2_with (at_make; refine wpList_make_full _ rfl _ _ 27 rfl w.heap.size 4 i0 (.bool false) 1 Tryd.underlying27 hi hz0 hz1 .i64 .i64 _ _ 64 rfl rfl rfl rfl (by rw [hz2]; omega) (by unfold maxLen; omega) (Nat.le_refl _) ?_; intro w1 hown hgrow; have HO := Lib.hid hown; have HG := Lib.hid hgrow; clear hown hgrow)
  have hB1 : Below w.heap.size w w1 := (Below.refl _ _).grown HG.out (Nat.le_refl _) (fun _ h => by cases h)
  have hlt1 : w.heap.size < w1.heap.size := own_lt HO.out
  have HB1 := Lib.hid hB1
  refine (Calls.mono (by
    have h := new_yes w.heap.size 0 (List.replicate 64 false) 64 w1 (bools_made HO.out) hlt1 (by simp) (by simp)
    rw [List.length_replicate] at h
    exact h) ?_)
  rintro e w3 ⟨rfl, hg3, hb3⟩
  have hbel3 := HB1.out.trans (hb3.mono HB1.out.size)
  have HB3 := Lib.hid hbel3
  have hBlt : w1.heap.size < w3.heap.size := hg3.lt
  have hpos0 : 0 < w1.heap.size := by omega
  have HT3 : Hid (Tab w3) := Lib.hid (HT.out.below h0 hbel3)
  have hbase : w.heap.size ≤ w1.heap.size := by omega
  rw [← wkEvs_zero sx.toNat kx.toNat ex.toNat] at hg3
  have HG3 := Lib.hid hg3
  generalize w1.heap.size = B at *
  clear hg3 hb3 HB1 hbel3 hB1 HO HG hlt1 i0 hi hz0 hz1 hz2
  go_wp2_with fail
  refine (awake_any _ HT3.out (by omega)).mono ?_
  rintro e w4 ⟨rfl, hb4⟩
  have HG4 : Hid (GpeAt w4 B (wkEvs sx.toNat kx.toNat ex.toNat 0)) := Lib.hid ⟨(hb4.block B hBlt).trans HG3.out.1, HG3.out.2⟩
  have HT4 : Hid (Tab w4) := Lib.hid (HT3.out.below (by omega) hb4)
  have HB4 : Hid (Below w.heap.size w w4) := Lib.hid (HB3.out.trans (hb4.mono HB3.out.size))
  have hBlt4 : B < w4.heap.size := by have := hb4.size; omega
  clear hb4 HG3 HT3 HB3 hBlt
  go_wp2_with fail
  go_loopw [9] (fun i wr => ∃ k : Nat, k ≤ 64 ∧ i = .int .i64 k ∧ GpeAt wr B (wkEvs sx.toNat kx.toNat ex.toNat k) ∧ w4.grownBy wr (some B)) (fun i _ => 64 - (intOf i).toNat)
  case atStart => exact ⟨0, by omega, rfl, HG4.out, grown_refl _ _⟩
  case round =>
    obtain ⟨k, hk64, rfl, hg, hr⟩ := hrel
    have HG := Lib.hid hg
    have HR := Lib.hid hr
    clear hg hr
    by_cases hlt : k < 64
    · have HE := Lib.hid (wkEvs_get sx.toNat kx.toNat ex.toNat k k hlt)
      rw [if_neg (Nat.lt_irrefl k)] at HE
      have HS := Lib.hid (wkEvs_step sx.toNat kx.toNat ex.toNat k hlt)
      have te := bit_test ex k he he'
      have tk := bit_test kx k hk hk'
      have ts := bit_test sx k hs hs'
      generalize ex.toNat.testBit k = be at *
      generalize kx.toNat.testBit k = bk at *
      generalize sx.toNat.testBit k = bs at *
      go_wp2_with fail
      refine (enable_yes B k _ (newEv false) be _ HG.out HE.out).mono ?_
      rintro e w5 ⟨rfl, hg5, hr5⟩
      have HG5 := Lib.hid hg5
      have HR5 := Lib.hid (grown_trans HR.out hr5)
      clear hg5 hr5
      go_wp2_with fail
      refine (enableWake_yes B k _ { newEv false with enable := be } bk _ HG5.out (get_set HE.out)).mono ?_
      rintro e w6 ⟨rfl, hg6, hr6⟩
      rw [List.set_set] at hg6
      have HG6 := Lib.hid hg6
      have HR6 := Lib.hid (grown_trans HR5.out hr6)
      clear hg6 hr6
      go_wp2_with fail
      refine (set_yes B k _ ⟨false, false, false, be, bk, false⟩ bs _ HG6.out (get_set HE.out)).mono ?_
      rintro e w7 ⟨rfl, hg7, hr7⟩
      rw [List.set_set] at hg7
      have hse : setEv ⟨false, false, false, be, bk, false⟩ bs = wkEv bs bk be := by cases bs <;> rfl
      rw [hse, HS.out] at hg7
      have HG7 := Lib.hid hg7
      have HR7 := Lib.hid (grown_trans HR6.out hr7)
      clear hg7 hr7 hse
      go_wp2_with fail
      go_roundw
      case rel => exact ⟨k + 1, by omega, by go_num, HG7.out, HR7.out⟩
      case measure => simp [intOf]; omega
    · obtain rfl : k = 64 := by omega
      have HTr : Hid (Tab wr) := Lib.hid (HT4.out.grown hpos0 (by omega) HR.out)
      have hS : sx.toNat < 18446744073709551616 := by omega
      have hwr := wk_rdy sx.toNat kx.toNat ex.toNat hS
      have hww := wk_wks sx.toNat kx.toNat ex.toNat hS
      have hse : bits .and .u64 sx ex = (sx.toNat &&& ex.toNat : Nat) := u64_and sx ex hs (by omega) he (by omega)
      have hsk : bits .and .u64 sx kx = (sx.toNat &&& kx.toNat : Nat) := u64_and sx kx hs (by omega) hk (by omega)
      rw [← hwr] at hse
      rw [← hww] at hsk
      have hlt64 := word_lt64 rdy (wkEvs sx.toNat kx.toNat ex.toNat 64) (by rw [wkEvs_len]; omega)
      have HF : ∀ n, Hid (Below w.heap.size w (wr.drewN n)) := fun n => Lib.hid (HB4.out.grown (grown_trans HR.out (grown_drewN _ _ n)) HB4.out.size (fun j hj => by simp at hj; omega))
      clear hwr hww HT4 HB4 HG4
      generalize hl : wkEvs sx.toNat kx.toNat ex.toNat 64 = l at *
      have hll : l.length = 64 := by rw [← hl, wkEvs_len]
      clear hl
      have hk2 : (bits .and .u64 sx kx != 0) = decide (word wks l ≠ 0) := by rw [hsk, Bool.eq_iff_iff]; simp
      obtain ⟨bw, hbw⟩ : ∃ bw, decide (word wks l ≠ 0) = bw := ⟨_, rfl⟩
      rw [hbw] at hk2
      have HBW := Lib.hid hbw
      clear hbw hsk
      cases hf : first rdy l with
      | none =>
        have hz : word rdy l = 0 := (first_none rdy l).1 hf
        have HFN := Lib.hid hf
        have hx2 : (bits .and .u64 sx ex != 0) = false := by rw [hse, hz]; rfl
        clear hf hse hz hlt64 hll
        go_wp2_with fail
        refine (next_none B _ _ HG.out HFN.out).mono ?_
        rintro e w8 ⟨rfl, n8, rfl⟩
        go_wp2_with fail
        refine (Calls.mono (by have h := wakePending_any B l _ (HG.out.drewN n8); rw [HBW.out] at h; exact h) ?_)
        rintro e w9 ⟨rfl, n9, rfl⟩
        go_wp2_with fail
        go_ret
        exact ⟨rfl, by have h := (HF (n8 + n9)).out; exact h⟩
      | some k =>
        obtain ⟨hm, hkl⟩ := first_some rdy l k hf
        have HFN := Lib.hid hf
        obtain ⟨q1, q2⟩ := wake_last (word rdy l) k hlt64 (by omega) hm
        have hx2 : (bits .and .u64 sx ex != 0) = true := by
          rw [hse, bne_iff_ne]
          intro h0
          have : word rdy l = 0 := by omega
          rw [← first_none, hf] at this
          cases this
        rw [← hse] at q1 q2
        have hk64' : k < 64 := by omega
        clear hf hse hm hkl hlt64 hll
        obtain ⟨x, hxe⟩ : ∃ x, bits .and .u64 sx ex = x := ⟨_, rfl⟩
        rw [hxe] at q1 q2 hx2
        obtain ⟨m, hm⟩ : ∃ m : Int, m = (2 ^ k : Nat) := ⟨_, rfl⟩
        rw [← hm] at q2
        have hwm : IntKind.u64.wrap (2 ^ k) = m := by rw [hm]; exact wrap_bit k hk64'
        have hm1 : 1 ≤ m := by rw [hm]; have := Nat.two_pow_pos k; omega
        have hm2 : m ≤ 18446744073709551615 := by rw [hm]; have := bit_lt64 k hk64'; omega
        clear hm
        go_wp2_with fail
        refine (next_some B k _ _ HG.out HTr.out HFN.out).mono ?_
        rintro e w8 ⟨rfl, n8, rfl⟩
        go_wp2_with fail
        refine (Calls.mono (by have h := wakePending_any B l _ (HG.out.drewN n8); rw [HBW.out] at h; exact h) ?_)
        rintro e w9 ⟨rfl, n9, rfl⟩
        go_wp2_with fail
        go_ret
        exact ⟨rfl, by have h := (HF (n8 + n9)).out; exact h⟩
end Go.Proofs.YtdgeocmcmcflfaaDoor
