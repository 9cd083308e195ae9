/- AppendString, String and their references; the walk of BytecodeStrings. -/
import Derived.Test.YtihfhkpglfobfaaAwake
namespace Go.Proofs.Ytihfhkpglfobfaa
open Go.RowKit
attribute [local go_sem] conv1 conv2 ByteArray.mk_append_mk get_mk cut_mk

/-- What String returns: the string, the length of its encoding, the error. -/
def rdStr : List UInt8 → List UInt8 × Nat × Nat
  | [] => ([], 0, 4)
  | [c] => if c.toNat = 13 then ([], 0, 4) else ([], 0, 3)
  | c :: d :: r => if c.toNat = 13 then (if r.length < d.toNat then ([], 0, 4) else (r.take d.toNat, 2 + d.toNat, 0)) else ([], 0, 3)

def resS (x : List UInt8 × Nat × Nat) : Value := .tuple #[.string ⟨x.1.toArray⟩, .int .i64 x.2.1, .int .i64 x.2.2]

theorem resS_is {x : List UInt8 × Nat × Nat} {l : List UInt8} {b c : Int} (h : x = (l, b.toNat, c.toNat)) (hb : 0 ≤ b) (hc : 0 ≤ c) : Ending.returned (.tuple #[.string ⟨l.toArray⟩, .int .i64 b, .int .i64 c]) = .returned (resS x) := by
  subst h
  simp only [resS, Int.toNat_of_nonneg hb, Int.toNat_of_nonneg hc]

theorem rdStr_bad (c : UInt8) (r : List UInt8) (h : ((c.toNat : Int) != 13) = true) : rdStr (c :: r) = ([], 0, 3) := by
  have h' : ¬ c.toNat = 13 := by simp only [bne_iff_ne, ne_eq] at h; omega
  cases r <;> rw [rdStr, if_neg h']
theorem rdStr_short (d : UInt8) (r : List UInt8) (h : (r.length : Int) < d.toNat) : rdStr (13 :: d :: r) = ([], 0, 4) := by
  rw [rdStr, if_pos (by decide), if_pos (by omega)]
theorem rdStr_good (d : UInt8) (r : List UInt8) (h : ¬ (r.length : Int) < d.toNat) : rdStr (13 :: d :: r) = (r.take d.toNat, 2 + d.toNat, 0) := by
  rw [rdStr, if_pos (by decide), if_neg (by omega)]

set_option maxHeartbeats 1000000 in
theorem string_any (s : List UInt8) (w : World) (hm : s.length ≤ 9223372036854775000) :
    Calls Try.prog 16 #[.string ⟨s.toArray⟩] w fun e w' => e = .returned (resS (rdStr s)) ∧ w = w' := by
  match s, hm with
  | [], hm =>
    go_enter Try.func16, Try.ntmps16
    go_wp2_with fail
    go_ret3
    exact ⟨rfl, rfl⟩
  | c :: r, hm =>
    simp only [List.length_cons] at hm
    by_cases hc : c = 13
    · subst hc
      cases r with
      | nil =>
        go_enter Try.func16, Try.ntmps16
        go_wp2_with fail
        go_ret3
        exact ⟨rfl, rfl⟩
      | cons d r =>
        simp only [List.length_cons] at hm
        have hd := d.toNat_lt
        by_cases hr : (r.length : Int) < d.toNat
        · have HO := Lib.hid (rdStr_short d r hr)
          go_enter Try.func16, Try.ntmps16
          go_wp2_with fail
          go_ret3
          exact ⟨by rw [HO.out]; rfl, rfl⟩
        · have HO := Lib.hid (rdStr_good d r hr)
          go_enter Try.func16, Try.ntmps16
          go_wp2_with fail
          go_ret3
          exact ⟨by rw [HO.out]; exact resS_is (by simp only [Prod.mk.injEq, true_and]; omega) (by omega) (by omega), rfl⟩
    · have hc' : ((c.toNat : Int) != 13) = true := by
        simp only [bne_iff_ne, ne_eq]
        intro h; apply hc; apply UInt8.toNat_inj.1; simpa using (by omega : c.toNat = 13)
      have HO := Lib.hid (rdStr_bad c r hc')
      go_enter Try.func16, Try.ntmps16
      go_wp2_with fail
      go_ret3
      exact ⟨by rw [HO.out]; rfl, rfl⟩

set_option maxHeartbeats 1000000 in
theorem readString_any (s : List UInt8) (w : World) (hm : s.length ≤ 9223372036854775000) :
    Calls Try.prog 18 #[.string ⟨s.toArray⟩] w fun e w' => e = .returned (resS (rdStr s)) ∧ Below w.heap.size w w' := by
  match s, hm with
  | [], hm =>
    go_enter Try.func18, Try.ntmps18
    go_wp2_with fail
    go_ret3
    exact ⟨rfl, Below.refl _ _⟩
  | c :: r, hm =>
    simp only [List.length_cons] at hm
    by_cases hc : c = 13
    · subst hc
      cases r with
      | nil =>
        go_enter Try.func18, Try.ntmps18
        go_wp2_with fail
        go_ret3
        exact ⟨rfl, Below.refl _ _⟩
      | cons d r =>
        simp only [List.length_cons] at hm
        have hd := d.toNat_lt
        by_cases hr : (r.length : Int) < d.toNat
        · have HO := Lib.hid (rdStr_short d r hr)
          go_enter Try.func18, Try.ntmps18
          go_wp2_with fail
          go_ret3
          exact ⟨by rw [HO.out]; rfl, Below.refl _ _⟩
        · have HO := Lib.hid (rdStr_good d r hr)
          go_enter Try.func18, Try.ntmps18
          go_wp2_with fail
          refine wp_region_grows (by kernel_rfl) (by kernel_rfl) ?_
          repeat (go_big_quiet_step (fail))
          refine wpQuiet_nil ?_
          intro w1 hg
          go_wp2_with fail
          go_ret3
          exact ⟨by rw [HO.out]; exact resS_is (by rw [show 2 + d.toNat - 2 = d.toNat by omega, show (2 + (d.toNat : Int)).toNat = 2 + d.toNat by omega]; rfl) (by omega) (by omega), hg⟩
    · have hc' : ((c.toNat : Int) != 13) = true := by
        simp only [bne_iff_ne, ne_eq]
        intro h; apply hc; apply UInt8.toNat_inj.1; simpa using (by omega : c.toNat = 13)
      have HO := Lib.hid (rdStr_bad c r hc')
      go_enter Try.func18, Try.ntmps18
      go_wp2_with fail
      go_ret3
      exact ⟨by rw [HO.out]; rfl, Below.refl _ _⟩

/-- The encoding of a string of at most 255 bytes. -/
def encStr (v : List UInt8) : List UInt8 := 13 :: UInt8.ofNat v.length :: v

theorem appendString_no (b v : List UInt8) (w : World) (hv : 255 < v.length) (hv' : v.length ≤ 140737488355328) :
    Calls Try.prog 15 #[.string ⟨b.toArray⟩, .string ⟨v.toArray⟩] w fun e w' => e = .returned (.string ⟨b.toArray⟩) ∧ w = w' := by
  go_enter Try.func15, Try.ntmps15
  go_wp2_with fail
  go_ret
  exact ⟨rfl, rfl⟩
theorem appendString_any (b v : List UInt8) (w : World) (hb : b.length ≤ 140737488355328) (hv : v.length ≤ 255) :
    Calls Try.prog 15 #[.string ⟨b.toArray⟩, .string ⟨v.toArray⟩] w fun e w' => e = .returned (.string ⟨(b ++ encStr v).toArray⟩) ∧ Below w.heap.size w w' := by
  go_enter Try.func15, Try.ntmps15
  go_wp2_with fail
  go_ret
  exact ⟨rfl, (Below.refl _ _).alloc (Nat.le_refl _) _⟩
theorem refString_any (v : List UInt8) (w : World) (hv : v.length ≤ 255) :
    Calls Try.prog 17 #[.string ⟨v.toArray⟩] w fun e w' => e = .returned (.string ⟨(encStr v).toArray⟩) ∧ Below w.heap.size w w' := by
  go_enter Try.func17, Try.ntmps17
  go_wp2_with fail
  refine (little_i _ _ _ (by omega) (by omega) (by omega)).mono ?_
  rintro e w1 ⟨l, HL, hl, rfl, hb⟩
  go_wp2_with fail
  go_ret
  have e : l = [UInt8.ofNat v.length] := by rw [HL.out, Int.toNat_natCast, show Int.toNat 1 = 1 from rfl, little_one]
  exact ⟨by rw [e]; rfl, hb⟩

theorem rdStr_enc (v t : List UInt8) (hv : v.length ≤ 255) : rdStr (encStr v ++ t) = (v, v.length + 2, 0) := by
  have hn : (UInt8.ofNat v.length).toNat = v.length := by rw [UInt8.toNat_ofNat']; omega
  rw [encStr, List.cons_append, List.cons_append, rdStr_good _ _ (by rw [hn, List.length_append]; omega), hn]
  rw [List.take_append_of_le_length (Nat.le_refl _), List.take_of_length_le (Nat.le_refl _), Nat.add_comm]

theorem string_enc (v l t : List UInt8) (w : World) (HL : Hid (l = encStr v)) (hv : v.length ≤ 255) (ht : t.length ≤ 9223372036854770000) :
    Calls Try.prog 16 #[.string ⟨(l ++ t).toArray⟩] w fun e w' => e = .returned (.tuple #[.string ⟨v.toArray⟩, .int .i64 ((v.length : Int) + 2), .int .i64 0]) ∧ w = w' := by
  refine (string_any (l ++ t) w (by rw [HL.out, encStr]; simp; omega)).mono fun e w' ⟨he, hw⟩ => ⟨?_, hw⟩
  rw [he, HL.out, rdStr_enc _ _ hv]
  rfl
theorem string_e (s : List UInt8) (w : World) (hm : s.length ≤ 9223372036854775000) :
    Calls Try.prog 16 #[.string ⟨s.toArray⟩] w fun e w' => e = .returned (.tuple #[.string ⟨(rdStr s).1.toArray⟩, .int .i64 (rdStr s).2.1, .int .i64 (rdStr s).2.2]) ∧ w = w' := string_any s w hm
theorem readString_e (s : List UInt8) (w : World) (hm : s.length ≤ 9223372036854775000) :
    Calls Try.prog 18 #[.string ⟨s.toArray⟩] w fun e w' => e = .returned (.tuple #[.string ⟨(rdStr s).1.toArray⟩, .int .i64 (rdStr s).2.1, .int .i64 (rdStr s).2.2]) ∧ Below w.heap.size w w' := readString_any s w hm
theorem refString_v (v : List UInt8) (w : World) (hv : v.length ≤ 255) :
    Calls Try.prog 17 #[.string ⟨v.toArray⟩] w fun e w' => ∃ l : List UInt8, Hid (l = encStr v) ∧ l.length ≤ 257 ∧ e = .returned (.string ⟨l.toArray⟩) ∧ Below w.heap.size w w' :=
  (refString_any v w hv).mono fun _ _ ⟨he, hw⟩ => ⟨_, Lib.hid rfl, by rw [encStr]; simp; omega, he, hw⟩

set_option maxRecDepth 100000 in
set_option maxHeartbeats 2000000 in
theorem law_strings (b v s : List UInt8) (n : Int) (w : World) (hb : b.length ≤ 140737488355328) (hv : v.length ≤ 140737488355328) (hs : s.length ≤ 140737488355328) (_hn : 0 ≤ n) (_hn' : n ≤ 255) :
    Calls Try.prog 5 #[.string ⟨b.toArray⟩, .string ⟨v.toArray⟩, .string ⟨s.toArray⟩, .int .u8 n] w fun e w' => e = .returned (.bool true) ∧ Below w.heap.size w w' := by
  by_cases h : 255 < v.length
  · go_enter Try.func5, Try.ntmps5
    go_wp2_with fail
    refine (appendString_no b v _ h hv).mono ?_
    rintro e w1 ⟨rfl, rfl⟩
    go_wp2_with fail
    have hu : (List.take 255 v).length ≤ 255 := List.length_take_le _ _
    generalize List.take 255 v = u at *
    refine (refString_v u _ hu).mono ?_
    rintro e w1 ⟨l, HL, hl, rfl, hb1⟩
    go_wp2_with fail
    refine (string_enc u l s _ HL hu (by omega)).mono ?_
    rintro e w2 ⟨rfl, rfl⟩
    go_wp2_with fail
    refine (string_e _ _ (by simp; omega)).mono ?_
    rintro e w2 ⟨rfl, rfl⟩
    go_wp2_with fail
    refine (readString_e _ _ (by simp; omega)).mono ?_
    rintro e w2 ⟨rfl, hb2⟩
    go_wp2_with fail
    refine (awake_any _).mono ?_
    rintro e w3 ⟨rfl, hb3⟩
    go_wp2_with fail
    refine (appendString_any b u _ hb hu).mono ?_
    rintro e w4 ⟨rfl, hb4⟩
    rw [← HL.out]
    go_wp2_with fail
    refine (refString_any u _ hu).mono ?_
    rintro e w5 ⟨rfl, hb5⟩
    rw [← HL.out]
    go_wp2_with fail
    go_ret
    exact ⟨rfl, Grows.trans (Grows.trans (Grows.trans (Grows.trans (Below.alloc hb1 hb1.size _) hb2) hb3) hb4) hb5⟩
  · have hu : v.length ≤ 255 := by omega
    go_enter Try.func5, Try.ntmps5
    go_wp2_with fail
    refine (refString_v v _ hu).mono ?_
    rintro e w1 ⟨l, HL, hl, rfl, hb1⟩
    go_wp2_with fail
    refine (string_enc v l s _ HL hu (by omega)).mono ?_
    rintro e w2 ⟨rfl, rfl⟩
    go_wp2_with fail
    refine (string_e _ _ (by simp; omega)).mono ?_
    rintro e w2 ⟨rfl, rfl⟩
    go_wp2_with fail
    refine (readString_e _ _ (by simp; omega)).mono ?_
    rintro e w2 ⟨rfl, hb2⟩
    go_wp2_with fail
    refine (awake_any _).mono ?_
    rintro e w3 ⟨rfl, hb3⟩
    go_wp2_with fail
    refine (appendString_any b v _ hb hu).mono ?_
    rintro e w4 ⟨rfl, hb4⟩
    rw [← HL.out]
    go_wp2_with fail
    refine (refString_any v _ hu).mono ?_
    rintro e w5 ⟨rfl, hb5⟩
    rw [← HL.out]
    go_wp2_with fail
    go_ret
    exact ⟨rfl, Grows.trans (Grows.trans (Grows.trans (Grows.trans (Below.alloc hb1 hb1.size _) hb2) hb3) hb4) hb5⟩
end Go.Proofs.Ytihfhkpglfobfaa
