/- String of the layer and of its reference: the walks. -/
import Derived.Test.YteifmjhkedhomaaDoorVe
namespace Go.Proofs.YteifmjhkedhomaaDoor
open Go.RowKit
attribute [local go_sem] ByteArray.mk_append_mk bs_get bs_cut bs_end conv1 conv2

/-- The first k of sixteen hexadecimal digits. -/
def hexK (n : Nat) : Nat → List UInt8
  | 0 => []
  | k + 1 => hexK n k ++ digC (n / 2 ^ (60 - 4 * k) % 16)
theorem hexK_len (n : Nat) : ∀ k, (hexK n k).length = k
  | 0 => rfl
  | k + 1 => by rw [hexK, List.length_append, hexK_len n k, digC_len _ (Nat.mod_lt _ (by omega))]
def sufK (n : Nat) : Nat → List UInt8
  | 0 => []
  | k + 1 => digC (n / 16 ^ k % 16) ++ sufK n k
theorem suf_go (n : Nat) : ∀ j, j ≤ 16 → digL n 16 16 = digGo 16 (80 - j) (n / 16 ^ j) (16 - j) (sufK n j)
  | 0, _ => by simp [digL, sufK]
  | j + 1, h => by
    rw [suf_go n j (by omega), show 80 - j = (80 - (j + 1)) + 1 by omega, dig_step _ _ _ _ _ (.inr (by omega)), Nat.div_div_eq_div_mul, ← Nat.pow_succ, show 16 - j - 1 = 16 - (j + 1) by omega]
    rfl
theorem digL_hex (n : Nat) (h : n < 2 ^ 64) : digL n 16 16 = hexK n 16 := by
  rw [suf_go n 16 (by omega), show n / 16 ^ 16 = 0 by rw [Nat.div_eq_of_lt]; exact h, show 16 - 16 = 0 from rfl, dig_stop]
  simp [sufK, hexK]
theorem two_dig (c : Nat) (h : c < 256) : digL c 16 2 = digC (c / 16) ++ digC (c % 16) := by
  unfold digL
  rw [dig_step _ _ _ _ _ (.inr (by omega)), dig_step _ _ _ _ _ (.inr (by omega))]
  rw [show c / 16 / 16 = 0 by omega, show c / 16 % 16 = c / 16 by omega, show (2 - 1 - 1 : Nat) = 0 from rfl, dig_stop, List.append_nil]
/-- What String returns. -/
def strOfV (k n : Int) (s : List UInt8) : List UInt8 × Int := if validV k s = false then ([], 1) else if k = 2 then (s, 0) else if k = 1 then (hexK n.toNat 16, 0) else if k = 3 then limV (joinL (fun c => digC (c.toNat / 16) ++ digC (c.toNat % 16)) [32] s) else ([], 10)
def StrPost (w : World) (r : List UInt8 × Int) (e : Ending) (w' : World) : Prop := e = .returned (.tuple #[.string ⟨r.1.toArray⟩, .int .i64 r.2]) ∧ Below w.heap.size w w'
theorem joinL_congr {g g' : UInt8 → List UInt8} (h : ∀ c, g c = g' c) (sep s : List UInt8) : joinL g sep s = joinL g' sep s := by rw [show g = g' from funext h]
theorem digits_16 (m : Nat) (w : World) (HN : Hid (m < 2 ^ 64)) : Calls Tryd.prog 59 #[.int .u64 m, .int .u64 16, .int .i64 16] w fun e w' => ∃ l : List UInt8, Hid (l = digL m 16 16) ∧ l.length ≤ 80 ∧ e = .returned (.string ⟨l.toArray⟩) ∧ w = w' := digits_any m 16 16 w HN (by omega) (by omega) (by omega)
theorem rlist_16 (s front sep : List UInt8) (w : World) (hs : s.length ≤ 255) (hf : front.length ≤ 2) (hsep : sep.length ≤ 1) : Calls Tryd.prog 60 #[.string ⟨s.toArray⟩, .string ⟨front.toArray⟩, .string ⟨sep.toArray⟩, .int .u64 16, .int .i64 2] w fun e w' => ∃ l : List UInt8, Hid (l = joinL (fun c => front ++ digL c.toNat 16 2) sep s) ∧ l.length ≤ 21165 ∧ e = .returned (.string ⟨l.toArray⟩) ∧ w = w' := rlist_any s front sep 16 2 w hs hf hsep (by omega) (by omega) (by omega)
set_option maxRecDepth 100000 in
set_option maxHeartbeats 2000000 in
theorem rstring_any (k n o : Int) (s : List UInt8) (w : World) (hs : s.length ≤ 9223372036854775000) (hn0 : 0 ≤ n) (HN : Hid (n.toNat < 2 ^ 64)) : Calls Tryd.prog 56 #[valV k n s o] w (StrPost w (strOfV k n s)) := by
  have HB0 := Lib.hid (VBox.start w k n s o)
  obtain ⟨c0, c1, c2, c3⟩ := HB0.out.cells
  cases hv : validV k s
  · have HV := Lib.hid hv
    have HR : Hid (strOfV k n s = ([], 1)) := Lib.hid (by unfold strOfV; rw [if_pos hv])
    clear hv
    go_enter Tryd.func56, Tryd.ntmps56
    go_wp2_with fail
    ((with_reducible refine (rvalid_is k n o s false HV _ hs).mono ?_))
    rintro e w1 ⟨rfl, hb1⟩
    have HB1 := Lib.hid (HB0.out.below hb1)
    clear hb1
    go_wp2_with fail
    go_ret2
    exact ⟨by rw [HR.out]; rfl, HB1.out.2⟩
  · have HV := Lib.hid hv
    have hk06 : 0 ≤ k ∧ k ≤ 6 ∧ ((k ≠ 2 ∧ k ≠ 3) ∨ s.length ≤ 255) := by unfold validV at hv; exact of_decide_eq_true hv
    have HS0 : Hid (strOfV k n s = if k = 2 then (s, 0) else if k = 1 then (hexK n.toNat 16, 0) else if k = 3 then limV (joinL (fun c => digC (c.toNat / 16) ++ digC (c.toNat % 16)) [32] s) else ([], 10)) := Lib.hid (by unfold strOfV; rw [if_neg (by rw [hv]; decide)])
    go_enter Tryd.func56, Tryd.ntmps56
    go_wp2_with fail
    ((with_reducible refine (rvalid_is k n o s true HV _ hs).mono ?_))
    rintro e w1 ⟨rfl, hb1⟩
    have HB1 := Lib.hid (HB0.out.below hb1)
    clear hb1 c0 c1 c2 c3 HB0
    obtain ⟨c0, c1, c2, c3⟩ := HB1.out.cells
    by_cases h2 : k = 2
    · subst h2
      clear hv hk06
      go_wp2_with fail
      go_ret2
      exact ⟨by rw [HS0.out]; rfl, HB1.out.2⟩
    · by_cases h1 : k = 1
      · subst h1
        clear hv hk06
        obtain ⟨m, rfl⟩ := Int.eq_ofNat_of_zero_le hn0
        rw [Int.toNat_natCast] at HN HS0
        go_wp2_with fail
        ((with_reducible refine (digits_16 m _ HN).mono ?_))
        rintro e w2 ⟨l, HL, hl80, rfl, rfl⟩
        go_wp2_with fail
        go_ret2
        exact ⟨by rw [HS0.out, HL.out, digL_hex m HN.out]; rfl, HB1.out.2⟩
      · by_cases h3 : k = 3
        · subst h3
          have hl : s.length ≤ 255 := by omega
          clear hv hk06
          go_wp2_with fail
          ((with_reducible refine (rlist_16 s [] [32] _ hl (by simp) (by simp)).mono ?_))
          rintro e w2 ⟨l, HL, hlb, rfl, rfl⟩
          go_wp2_with fail
          ((with_reducible refine (bounded_any l _ (by omega)).mono ?_))
          rintro e w3 ⟨rfl, rfl⟩
          go_wp2_with fail
          go_ret2
          exact ⟨by rw [HS0.out, HL.out, joinL_congr (fun c => by rw [List.nil_append, two_dig c.toNat c.toNat_lt])]; rfl, HB1.out.2⟩
        · have e1 : (k == 1) = false := by rw [beq_eq_false_iff_ne]; exact h1
          have e2 : (k == 2) = false := by rw [beq_eq_false_iff_ne]; exact h2
          have e3 : (k == 3) = false := by rw [beq_eq_false_iff_ne]; exact h3
          have HS1 : Hid (strOfV k n s = ([], 10)) := Lib.hid (by rw [HS0.out, if_neg h2, if_neg h1, if_neg h3])
          clear hv hk06 h1 h2 h3 HS0
          go_wp2_with fail
          go_ret2
          exact ⟨by rw [HS1.out]; rfl, HB1.out.2⟩
theorem u64_and15 (m k : Nat) : bits .and .u64 ((m : Int) / 2 ^ k) 15 = ((m / 2 ^ k % 16 : Nat) : Int) := by
  have e : ((m : Int) / 2 ^ k) = ((m / 2 ^ k : Nat) : Int) := by rw [Int.natCast_ediv, Int.natCast_pow]; rfl
  rw [e]
  generalize m / 2 ^ k = x
  have h15 : (BitVec.ofInt 64 15).toNat = 2 ^ 4 - 1 := by decide
  have key : (BitVec.ofInt 64 (x : Int) &&& BitVec.ofInt 64 15).toNat = ((x : Int) % ((2 ^ 64 : Nat) : Int)).toNat % 2 ^ 4 := by
    rw [BitVec.toNat_and, BitVec.toNat_ofInt, h15, Nat.and_two_pow_sub_one_eq_mod]
  show IntKind.u64.wrap ((BitVec.ofInt 64 (x : Int) &&& BitVec.ofInt 64 15).toNat : Nat) = _
  rw [key]
  rw [IntWalk.u64_in _ ⟨by omega, by omega⟩]
  omega
set_option maxRecDepth 100000 in
set_option maxHeartbeats 2000000 in
theorem string_int (m : Nat) (s : List UInt8) (o : Int) (w : World) (hs : s.length ≤ 9223372036854775000) : Calls Tryd.prog 12 #[valV 1 m s o] w (StrPost w (hexK m 16, 0)) := by
  have HB0 := Lib.hid (VBox.start w 1 m s o)
  obtain ⟨c0, c1, c2, c3⟩ := HB0.out.cells
  have HV : Hid (validV 1 s = true) := Lib.hid (by simp [validV])
  have hmk : ∀ wx, (Instr.makeSlice 58 (.int .i64 16) (.int .i64 16)).run Tryd.prog wx = .ok (.slice (some ⟨wx.heap.size, 0, none⟩) 16 16) (wx.alloc (.cells #[.int .u8 0, .int .u8 0, .int .u8 0, .int .u8 0, .int .u8 0, .int .u8 0, .int .u8 0, .int .u8 0, .int .u8 0, .int .u8 0, .int .u8 0, .int .u8 0, .int .u8 0, .int .u8 0, .int .u8 0, .int .u8 0] 5)) := fun _ => by kernel_rfl
  go_enter Tryd.func12, Tryd.ntmps12
  go_wp2_with fail
  ((with_reducible refine (valid_is 1 m o s true HV _ hs).mono ?_))
  rintro e w1 ⟨rfl, hb1⟩
  have HB1 := Lib.hid (HB0.out.below hb1)
  clear hb1 c0 c1 c2 c3 HB0
  obtain ⟨c0, c1, c2, c3⟩ := HB1.out.cells
  have hlt1 := lt_of_block HB1.out.1
  go_wp2_with fail
  go_loopw [20] (fun i wr => ∃ j : Nat, j ≤ 16 ∧ i = .int .i64 j ∧ wr.ownsRow w1.heap.size 5 1 (.slice (some ⟨w1.heap.size, 0, none⟩) 16 16) 16 (bytesV (hexK m j) ++ List.replicate (16 - j) (.int .u8 0)) ∧ Hid (VBox w wr 1 m s o)) (fun i _ => 16 - (intOf i).toNat)
  case atStart =>
    exact ⟨0, Nat.zero_le _, rfl, ⟨rfl, .inr ⟨w1.heap.size, 16, _, rfl, Nat.le_refl _, heap_alloc_new w1 _, by omega, by unfold maxLen; omega, rfl, rfl⟩⟩, Lib.hid (HB1.out.below ((Below.refl _ _).alloc (Nat.le_refl _) _))⟩
  case round =>
    obtain ⟨j, hj, rfl, ho, HBX⟩ := hrel
    clear hmk c0 c1 c2 c3
    obtain ⟨c0, c1, c2, c3⟩ := HBX.out.cells
    have HO := Lib.hid ho
    by_cases hlt : j < 16
    · have hcell : wr.cell? ⟨w1.heap.size, j, none⟩ = some (.int .u8 0) := by
        rw [ho.cellAt j (by omega), List.getElem?_append_right (by simp [bytesV, hexK_len])]
        simp only [bytesV, List.length_map, hexK_len, Nat.sub_self]
        rw [show 16 - j = (16 - j - 1) + 1 by omega, List.replicate_succ]; rfl
      have hfz := ho.frozenAt j
      obtain ⟨q, hq⟩ : ∃ q, q = m / 2 ^ (60 - 4 * j) % 16 := ⟨_, rfl⟩
      have hq16 : q < 16 := by rw [hq]; exact Nat.mod_lt _ (by omega)
      have hq16' : (q : Int) < 16 := by omega
      have hq0 : (0 : Int) ≤ (q : Int) := by omega
      have hbit : bits .and .u64 ((m : Int) / 2 ^ (60 - 4 * j)) 15 = (q : Int) := by rw [hq]; exact u64_and15 m _
      have HS : Hid (∀ u : Value, u = .int .u8 ((digTab[q]'(by simpa [digTab] using hq16)).toNat : Int) → (bytesV (hexK m j) ++ List.replicate (16 - j) (Value.int .u8 0)).set j u = bytesV (hexK m (j + 1)) ++ List.replicate (16 - (j + 1)) (Value.int .u8 0)) := Lib.hid (by
        intro u hu
        rw [show 16 - j = (16 - (j + 1)) + 1 by omega, set_at _ j _ _ _ (by simp [bytesV, hexK_len])]
        rw [hexK, bytesV, bytesV, List.map_append, hu, ← hq, get_dig q hq16]; rfl)
      clear ho hq
      go_wp2_with fail
      go_roundw
      case rel =>
        have h1 := HO.out.stored j (Value.int IntKind.u8 ((digTab[q]'(by simpa [digTab] using hq16)).toNat : Int))
        rw [HS.out _ rfl] at h1
        exact ⟨j + 1, by omega, by go_num, h1.1, Lib.hid ⟨blk_other HBX.out.1 _ _ (by simp; omega), HBX.out.2.setCell (by simp; omega) _⟩⟩
      case measure => simp [intOf]; omega
    · clear ho
      obtain rfl : j = 16 := by omega
      have hcv := conv_row wr ⟨w1.heap.size, 0, none⟩ 16 16 (hexK m 16) (hexK_len m 16) (by
        intro i u hi
        have hlt : i < 16 := by
          have := (List.getElem?_eq_some_iff.1 hi).1
          simpa [bytesV, hexK_len] using this
        have h1 := HO.out.cellAt i (by omega)
        rw [List.getElem?_append_left (by simpa [bytesV, hexK_len] using hlt), hi] at h1
        by_cases h0 : i = 0
        · subst h0; simpa [Addr.add] using h1
        · simpa [Addr.add, h0] using h1)
      go_wp2_with fail
      go_ret2
      exact ⟨rfl, HBX.out.2⟩
theorem two_len (c : UInt8) : (digC (c.toNat / 16) ++ digC (c.toNat % 16)).length ≤ 80 := by
  have := c.toNat_lt
  rw [List.length_append, digC_len _ (by omega), digC_len _ (by omega)]; omega
set_option maxRecDepth 100000 in
set_option maxHeartbeats 2000000 in
theorem string_any (k n o : Int) (s : List UInt8) (w : World) (hs : s.length ≤ 9223372036854775000) (hn0 : 0 ≤ n) : Calls Tryd.prog 12 #[valV k n s o] w (StrPost w (strOfV k n s)) := by
  have HB0 := Lib.hid (VBox.start w k n s o)
  obtain ⟨c0, c1, c2, c3⟩ := HB0.out.cells
  cases hv : validV k s
  · have HV := Lib.hid hv
    have HR : Hid (strOfV k n s = ([], 1)) := Lib.hid (by unfold strOfV; rw [if_pos hv])
    clear hv
    go_enter Tryd.func12, Tryd.ntmps12
    go_wp2_with fail
    ((with_reducible refine (valid_is k n o s false HV _ hs).mono ?_))
    rintro e w1 ⟨rfl, hb1⟩
    have HB1 := Lib.hid (HB0.out.below hb1)
    clear hb1
    go_wp2_with fail
    go_ret2
    exact ⟨by rw [HR.out]; rfl, HB1.out.2⟩
  · have HV := Lib.hid hv
    have hk06 : 0 ≤ k ∧ k ≤ 6 ∧ ((k ≠ 2 ∧ k ≠ 3) ∨ s.length ≤ 255) := by unfold validV at hv; exact of_decide_eq_true hv
    have HS0 : Hid (strOfV k n s = if k = 2 then (s, 0) else if k = 1 then (hexK n.toNat 16, 0) else if k = 3 then limV (joinL (fun c => digC (c.toNat / 16) ++ digC (c.toNat % 16)) [32] s) else ([], 10)) := Lib.hid (by unfold strOfV; rw [if_neg (by rw [hv]; decide)])
    by_cases h1 : k = 1
    · subst h1
      obtain ⟨m, rfl⟩ := Int.eq_ofNat_of_zero_le hn0
      rw [HS0.out, if_neg (by decide), if_pos rfl, Int.toNat_natCast]
      exact string_int m s o w hs
    · go_enter Tryd.func12, Tryd.ntmps12
      go_wp2_with fail
      ((with_reducible refine (valid_is k n o s true HV _ hs).mono ?_))
      rintro e w1 ⟨rfl, hb1⟩
      have HB1 := Lib.hid (HB0.out.below hb1)
      clear hb1 c0 c1 c2 c3 HB0
      obtain ⟨c0, c1, c2, c3⟩ := HB1.out.cells
      by_cases h2 : k = 2
      · subst h2
        clear hv hk06
        go_wp2_with fail
        go_ret2
        exact ⟨by rw [HS0.out]; rfl, HB1.out.2⟩
      · by_cases h3 : k = 3
        · subst h3
          have hl : s.length ≤ 255 := by omega
          clear hv hk06
          go_wp2_with fail
          ((with_reducible refine (list_two s [32] (fun c => digC (c.toNat / 16) ++ digC (c.toNat % 16)) (fun c w => twoDigits_any c w) two_len _ hl (by simp)).mono ?_))
          rintro e w2 ⟨rfl, hb2⟩
          have HB2 := Lib.hid (HB1.out.below hb2)
          clear hb2
          go_wp2_with fail
          go_ret2
          exact ⟨by rw [HS0.out]; rfl, HB2.out.2⟩
        · have e1 : (k == 1) = false := by rw [beq_eq_false_iff_ne]; exact h1
          have e2 : (k == 2) = false := by rw [beq_eq_false_iff_ne]; exact h2
          have e3 : (k == 3) = false := by rw [beq_eq_false_iff_ne]; exact h3
          have HS1 : Hid (strOfV k n s = ([], 10)) := Lib.hid (by rw [HS0.out, if_neg h2, if_neg h1, if_neg h3])
          clear hv hk06 h1 h2 h3 HS0
          go_wp2_with fail
          go_ret2
          exact ⟨by rw [HS1.out]; rfl, HB1.out.2⟩
/-- What Buffer returns. -/
def bufV (k n : Int) (s : List UInt8) : List UInt8 × Int := if validV k s = false then ([], 1) else if k = 3 then (s, 0) else if k = 1 then (little n.toNat 8, 0) else if k = 2 then limV (s ++ [0]) else ([], 10)
set_option maxRecDepth 100000 in
set_option maxHeartbeats 2000000 in
theorem buffer_any (k n o : Int) (s : List UInt8) (w : World) (hs : s.length ≤ 9223372036854774000) (hn0 : 0 ≤ n) : Calls Tryd.prog 13 #[valV k n s o] w (StrPost w (bufV k n s)) := by
  have HB0 := Lib.hid (VBox.start w k n s o)
  obtain ⟨c0, c1, c2, c3⟩ := HB0.out.cells
  cases hv : validV k s
  · have HV := Lib.hid hv
    have HR : Hid (bufV k n s = ([], 1)) := Lib.hid (by unfold bufV; rw [if_pos hv])
    clear hv
    go_enter Tryd.func13, Tryd.ntmps13
    go_wp2_with fail
    ((with_reducible refine (valid_is k n o s false HV _ (by omega)).mono ?_))
    rintro e w1 ⟨rfl, hb1⟩
    have HB1 := Lib.hid (HB0.out.below hb1)
    clear hb1
    go_wp2_with fail
    go_ret2
    exact ⟨by rw [HR.out]; rfl, HB1.out.2⟩
  · have HV := Lib.hid hv
    have HS0 : Hid (bufV k n s = if k = 3 then (s, 0) else if k = 1 then (little n.toNat 8, 0) else if k = 2 then limV (s ++ [0]) else ([], 10)) := Lib.hid (by unfold bufV; rw [if_neg (by rw [hv]; decide)])
    clear hv
    go_enter Tryd.func13, Tryd.ntmps13
    go_wp2_with fail
    ((with_reducible refine (valid_is k n o s true HV _ (by omega)).mono ?_))
    rintro e w1 ⟨rfl, hb1⟩
    have HB1 := Lib.hid (HB0.out.below hb1)
    clear hb1 c0 c1 c2 c3 HB0
    obtain ⟨c0, c1, c2, c3⟩ := HB1.out.cells
    by_cases h3 : k = 3
    · subst h3
      go_wp2_with fail
      go_ret2
      exact ⟨by rw [HS0.out]; rfl, HB1.out.2⟩
    · by_cases h1 : k = 1
      · subst h1
        go_wp2_with fail
        ((with_reducible refine (intBytes_any n _ hn0).mono ?_))
        rintro e w2 ⟨l, HL, hl8, rfl, hb2⟩
        have HB2 := Lib.hid (HB1.out.below hb2)
        have HL8 := Lib.hid hl8
        clear hb2 hl8
        go_wp2_with fail
        go_ret2
        exact ⟨by rw [HS0.out, ← HL.out]; rfl, HB2.out.2⟩
      · by_cases h2 : k = 2
        · subst h2
          go_wp2_with fail
          ((with_reducible refine (limited_any (s ++ [0]) _ (by rw [List.length_append]; simp; omega)).mono ?_))
          rintro e w2 ⟨rfl, rfl⟩
          go_wp2_with fail
          go_ret2
          exact ⟨by rw [HS0.out]; rfl, HB1.out.2⟩
        · have e1 : (k == 1) = false := by rw [beq_eq_false_iff_ne]; exact h1
          have e2 : (k == 2) = false := by rw [beq_eq_false_iff_ne]; exact h2
          have e3 : (k == 3) = false := by rw [beq_eq_false_iff_ne]; exact h3
          have HS1 : Hid (bufV k n s = ([], 10)) := Lib.hid (by rw [HS0.out, if_neg h3, if_neg h1, if_neg h2])
          clear h1 h2 h3 HS0
          go_wp2_with fail
          go_ret2
          exact ⟨by rw [HS1.out]; rfl, HB1.out.2⟩
set_option maxRecDepth 100000 in
set_option maxHeartbeats 2000000 in
theorem rbuffer_any (k n o : Int) (s : List UInt8) (w : World) (hs : s.length ≤ 9223372036854774000) (hn0 : 0 ≤ n) : Calls Tryd.prog 57 #[valV k n s o] w (StrPost w (bufV k n s)) := by
  have HB0 := Lib.hid (VBox.start w k n s o)
  obtain ⟨c0, c1, c2, c3⟩ := HB0.out.cells
  cases hv : validV k s
  · have HV := Lib.hid hv
    have HR : Hid (bufV k n s = ([], 1)) := Lib.hid (by unfold bufV; rw [if_pos hv])
    clear hv
    go_enter Tryd.func57, Tryd.ntmps57
    go_wp2_with fail
    ((with_reducible refine (rvalid_is k n o s false HV _ (by omega)).mono ?_))
    rintro e w1 ⟨rfl, hb1⟩
    have HB1 := Lib.hid (HB0.out.below hb1)
    clear hb1
    go_wp2_with fail
    go_ret2
    exact ⟨by rw [HR.out]; rfl, HB1.out.2⟩
  · have HV := Lib.hid hv
    have HS0 : Hid (bufV k n s = if k = 3 then (s, 0) else if k = 1 then (little n.toNat 8, 0) else if k = 2 then limV (s ++ [0]) else ([], 10)) := Lib.hid (by unfold bufV; rw [if_neg (by rw [hv]; decide)])
    clear hv
    go_enter Tryd.func57, Tryd.ntmps57
    go_wp2_with fail
    ((with_reducible refine (rvalid_is k n o s true HV _ (by omega)).mono ?_))
    rintro e w1 ⟨rfl, hb1⟩
    have HB1 := Lib.hid (HB0.out.below hb1)
    clear hb1 c0 c1 c2 c3 HB0
    obtain ⟨c0, c1, c2, c3⟩ := HB1.out.cells
    by_cases h3 : k = 3
    · subst h3
      go_wp2_with fail
      go_ret2
      exact ⟨by rw [HS0.out]; rfl, HB1.out.2⟩
    · by_cases h1 : k = 1
      · subst h1
        go_wp2_with fail
        ((with_reducible refine (rlittle_any n _ hn0).mono ?_))
        rintro e w2 ⟨l, HL, hl8, rfl, hb2⟩
        have HB2 := Lib.hid (HB1.out.below hb2)
        have HL8 := Lib.hid hl8
        clear hb2 hl8
        go_wp2_with fail
        go_ret2
        exact ⟨by rw [HS0.out, ← HL.out]; rfl, HB2.out.2⟩
      · by_cases h2 : k = 2
        · subst h2
          go_wp2_with fail
          ((with_reducible refine (bounded_any (s ++ [0]) _ (by rw [List.length_append]; simp; omega)).mono ?_))
          rintro e w2 ⟨rfl, rfl⟩
          go_wp2_with fail
          go_ret2
          exact ⟨by rw [HS0.out]; rfl, HB1.out.2⟩
        · have e1 : (k == 1) = false := by rw [beq_eq_false_iff_ne]; exact h1
          have e2 : (k == 2) = false := by rw [beq_eq_false_iff_ne]; exact h2
          have e3 : (k == 3) = false := by rw [beq_eq_false_iff_ne]; exact h3
          have HS1 : Hid (bufV k n s = ([], 10)) := Lib.hid (by rw [HS0.out, if_neg h3, if_neg h1, if_neg h2])
          clear h1 h2 h3 HS0
          go_wp2_with fail
          go_ret2
          exact ⟨by rw [HS1.out]; rfl, HB1.out.2⟩
end Go.Proofs.YteifmjhkedhomaaDoor
