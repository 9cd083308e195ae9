/- AppendLength, Length and their references: the walks, each function once. -/
import Derived.Test.YtihfhkpglfobfaaInts
namespace Go.Proofs.Ytihfhkpglfobfaa
open Go.RowKit
attribute [local go_sem] conv1 conv2 ByteArray.mk_append_mk get_mk cut_mk i64_and15 i64_or_64 i64_or_128 i64_or_192 byte_and15 byte_and63 byte_and48

/-- The code of a total length t in k bytes, k from 2 on. -/
def lenCode (t k : Nat) : List UInt8 := UInt8.ofNat ((k - 1) * 64 + t % 16) :: little (t / 16) (k - 1)

/-- The encoding of a package length; empty where there is none. -/
def encLen (n : Int) : List UInt8 :=
  if n < 0 ∨ 268435456 ≤ n then []
  else if n < 63 then [UInt8.ofNat (n + 1).toNat]
  else if n < 4094 then lenCode (n + 2).toNat 2
  else if n < 1048573 then lenCode (n + 3).toNat 3
  else if n < 268435452 then lenCode (n + 4).toNat 4
  else []

theorem limit_1 (w : World) : Calls Try.prog 35 #[.int .i64 1] w fun e w' => e = .returned (.int .i64 64) ∧ w = w' := by
  go_enter Try.func35, Try.ntmps35
  go_wp2
  go_ret
  exact ⟨rfl, rfl⟩
theorem limit_2 (w : World) : Calls Try.prog 35 #[.int .i64 2] w fun e w' => e = .returned (.int .i64 4096) ∧ w = w' := by
  go_enter Try.func35, Try.ntmps35
  go_wp2
  go_ret
  exact ⟨rfl, rfl⟩
theorem limit_3 (w : World) : Calls Try.prog 35 #[.int .i64 3] w fun e w' => e = .returned (.int .i64 1048576) ∧ w = w' := by
  go_enter Try.func35, Try.ntmps35
  go_wp2
  go_ret
  exact ⟨rfl, rfl⟩
theorem limit_4 (w : World) : Calls Try.prog 35 #[.int .i64 4] w fun e w' => e = .returned (.int .i64 268435456) ∧ w = w' := by
  go_enter Try.func35, Try.ntmps35
  go_wp2
  go_ret
  exact ⟨rfl, rfl⟩

theorem len_1 {n : Int} (h0 : 0 ≤ n) (h : n < 63) : [UInt8.ofNat (n + 1).toNat] = encLen n := by
  rw [encLen, if_neg (by omega), if_pos (by omega)]
theorem len_2 {n : Int} (h0 : 63 ≤ n) (h : n < 4094) : UInt8.ofNat (64 + (n + 2) % 16).toNat :: little ((n + 2) / 16).toNat (Int.toNat 1) = encLen n := by
  rw [encLen, if_neg (by omega), if_neg (by omega), if_pos (by omega), lenCode]
  congr 2 <;> omega
theorem len_3 {n : Int} (h0 : 4094 ≤ n) (h : n < 1048573) : UInt8.ofNat (128 + (n + 3) % 16).toNat :: little ((n + 3) / 16).toNat (Int.toNat 2) = encLen n := by
  rw [encLen, if_neg (by omega), if_neg (by omega), if_neg (by omega), if_pos (by omega), lenCode]
  congr 2 <;> omega
theorem len_4 {n : Int} (h0 : 1048573 ≤ n) (h : n < 268435452) : UInt8.ofNat (192 + (n + 4) % 16).toNat :: little ((n + 4) / 16).toNat (Int.toNat 3) = encLen n := by
  rw [encLen, if_neg (by omega), if_neg (by omega), if_neg (by omega), if_neg (by omega), if_pos (by omega), lenCode]
  congr 2 <;> omega
theorem len_5 {n : Int} (h0 : 268435452 ≤ n) : [] = encLen n := by
  rw [encLen]
  by_cases h : n < 0 ∨ 268435456 ≤ n
  · rw [if_pos h]
  · rw [if_neg h, if_neg (by omega), if_neg (by omega), if_neg (by omega), if_neg (by omega)]
theorem len_neg {n : Int} (h0 : n < 0) : [] = encLen n := by
  rw [encLen, if_pos (by omega)]
theorem app_nil {b l : List UInt8} (h : [] = l) : Value.string ⟨b.toArray⟩ = .string ⟨(b ++ l).toArray⟩ := by rw [← h, List.append_nil]

set_option maxHeartbeats 1000000 in
theorem appendLength_any (b : List UInt8) (n : Int) (w : World) (hbl : b.length ≤ 9223372036854770000) (hlo : -9223372036854775808 ≤ n) (hhi : n ≤ 9223372036854775807) :
    Calls Try.prog 20 #[.string ⟨b.toArray⟩, .int .i64 n] w fun e w' => e = .returned (.string ⟨(b ++ encLen n).toArray⟩) ∧ Below w.heap.size w w' := by
  by_cases h0 : n < 0
  · go_enter Try.func20, Try.ntmps20
    go_wp2_with fail
    go_ret
    go_light
    exact ⟨ret_val (app_nil (len_neg h0)), Below.refl _ _⟩
  · by_cases h1 : 268435456 ≤ n
    · go_enter Try.func20, Try.ntmps20
      go_wp2_with (go_at_call 35; refine (limit_4 _).mono ?_; rintro e w' ⟨rfl, rfl⟩)
      go_ret
      go_light
      exact ⟨ret_val (app_nil (len_5 (by omega))), Below.refl _ _⟩
    · go_enter Try.func20, Try.ntmps20
      go_wp2_with (go_at_call 35; refine (limit_4 _).mono ?_; rintro e w' ⟨rfl, rfl⟩)
      go_loopw [5, 6, 0] (fun i _t bb wr => ∃ k : Nat, 1 ≤ k ∧ k ≤ 5 ∧ i = .int .i64 k ∧ bb = .string ⟨b.toArray⟩ ∧ w = wr ∧ (1 < k → 63 ≤ n) ∧ (2 < k → 4094 ≤ n) ∧ (3 < k → 1048573 ≤ n) ∧ (4 < k → 268435452 ≤ n)) (fun i _ _ _ => 5 - (intOf i).toNat)
      case atStart => exact ⟨1, by omega, by omega, rfl, rfl, rfl, by omega, by omega, by omega, by omega⟩
      case round =>
        obtain ⟨k, hk1, hk5, rfl, rfl, rfl, hn1, hn2, hn3, hn4⟩ := hrel
        obtain rfl | rfl | rfl | rfl | rfl : k = 1 ∨ k = 2 ∨ k = 3 ∨ k = 4 ∨ k = 5 := by omega
        · clear hn1 hn2 hn3 hn4
          go_wp2_with (go_at_call 35; refine (limit_1 _).mono ?_; rintro e w' ⟨rfl, rfl⟩)
          · go_roundw
            case rel => exact ⟨2, by omega, by omega, rfl, rfl, trivial, by omega, by omega, by omega, by omega⟩
            case measure => decide
          · go_ret
            go_light
            exact ⟨ret_val (congrArg (fun l : List UInt8 => Value.string ⟨(b ++ l).toArray⟩) (len_1 (by omega) (by omega))), (Below.refl _ _).alloc (Nat.le_refl _) _⟩
        · have hn := hn1 (by omega)
          clear hn1 hn2 hn3 hn4
          go_wp2_with (first | (go_at_call 35; refine (limit_2 _).mono ?_; rintro e w' ⟨rfl, rfl⟩) | (go_at_call 31; refine (appendNumber_i _ _ _ _ (by omega) (by omega) (by omega) (by simp; omega)).mono ?_; rintro e w' ⟨rfl, hb⟩))
          · go_roundw
            case rel => exact ⟨3, by omega, by omega, rfl, rfl, trivial, by omega, by omega, by omega, by omega⟩
            case measure => decide
          · go_ret
            go_light
            exact ⟨ret_val (congrArg (fun l : List UInt8 => Value.string ⟨(b ++ l).toArray⟩) (len_2 (by omega) (by omega))), (Below.trans ((Below.refl _ _).alloc (Nat.le_refl _) _) (hb.mono (by simp)))⟩
        · have hn := hn2 (by omega)
          clear hn1 hn2 hn3 hn4
          go_wp2_with (first | (go_at_call 35; refine (limit_3 _).mono ?_; rintro e w' ⟨rfl, rfl⟩) | (go_at_call 31; refine (appendNumber_i _ _ _ _ (by omega) (by omega) (by omega) (by simp; omega)).mono ?_; rintro e w' ⟨rfl, hb⟩))
          · go_roundw
            case rel => exact ⟨4, by omega, by omega, rfl, rfl, trivial, by omega, by omega, by omega, by omega⟩
            case measure => decide
          · go_ret
            go_light
            exact ⟨ret_val (congrArg (fun l : List UInt8 => Value.string ⟨(b ++ l).toArray⟩) (len_3 (by omega) (by omega))), (Below.trans ((Below.refl _ _).alloc (Nat.le_refl _) _) (hb.mono (by simp)))⟩
        · have hn := hn3 (by omega)
          clear hn1 hn2 hn3 hn4
          go_wp2_with (first | (go_at_call 35; refine (limit_4 _).mono ?_; rintro e w' ⟨rfl, rfl⟩) | (go_at_call 31; refine (appendNumber_i _ _ _ _ (by omega) (by omega) (by omega) (by simp; omega)).mono ?_; rintro e w' ⟨rfl, hb⟩))
          · go_roundw
            case rel => exact ⟨5, by omega, by omega, rfl, rfl, trivial, by omega, by omega, by omega, by omega⟩
            case measure => decide
          · go_ret
            go_light
            exact ⟨ret_val (congrArg (fun l : List UInt8 => Value.string ⟨(b ++ l).toArray⟩) (len_4 (by omega) (by omega))), (Below.trans ((Below.refl _ _).alloc (Nat.le_refl _) _) (hb.mono (by simp)))⟩
        · have hn := hn4 (by omega)
          clear hn1 hn2 hn3 hn4
          go_wp2_with fail
          go_ret
          go_light
          exact ⟨ret_val (app_nil (len_5 (by omega))), Below.refl _ _⟩

theorem little_one (v : Nat) : little v 1 = [UInt8.ofNat v] := by
  simp only [little, List.cons.injEq, and_true]
  apply UInt8.toNat_inj.1
  simp
theorem rlen_1 {n : Int} {l : List UInt8} (HL : Hid (l = little (n + 1).toNat (Int.toNat 1))) (h0 : 0 ≤ n) (h : n < 63) : l = encLen n := by
  rw [HL.out, show Int.toNat 1 = 1 from rfl, little_one]; exact len_1 h0 h
theorem rlen_2 {n : Int} {l m : List UInt8} (HL : Hid (l = little (64 + (n + 2) % 16).toNat (Int.toNat 1))) (HM : Hid (m = little ((n + 2) / 16).toNat (Int.toNat 1))) (h0 : 63 ≤ n) (h : n < 4094) : l ++ m = encLen n := by
  rw [HL.out, HM.out, show Int.toNat 1 = 1 from rfl, little_one]; exact len_2 h0 h
theorem rlen_3 {n : Int} {l m : List UInt8} (HL : Hid (l = little (128 + (n + 3) % 16).toNat (Int.toNat 1))) (HM : Hid (m = little ((n + 3) / 16).toNat (Int.toNat 2))) (h0 : 4094 ≤ n) (h : n < 1048573) : l ++ m = encLen n := by
  rw [HL.out, HM.out, show Int.toNat 1 = 1 from rfl, little_one]; exact len_3 h0 h
theorem rlen_4 {n : Int} {l m : List UInt8} (HL : Hid (l = little (192 + (n + 4) % 16).toNat (Int.toNat 1))) (HM : Hid (m = little ((n + 4) / 16).toNat (Int.toNat 3))) (h0 : 1048573 ≤ n) (h : n < 268435452) : l ++ m = encLen n := by
  rw [HL.out, HM.out, show Int.toNat 1 = 1 from rfl, little_one]; exact len_4 h0 h

set_option maxHeartbeats 1000000 in
theorem refLength_any (n : Int) (w : World) (hlo : -9223372036854775808 ≤ n) (hhi : n ≤ 9223372036854775807) :
    Calls Try.prog 19 #[.int .i64 n] w fun e w' => e = .returned (.string ⟨(encLen n).toArray⟩) ∧ Below w.heap.size w w' := by
  by_cases h0 : n < 0
  · go_enter Try.func19, Try.ntmps19
    go_wp2_with fail
    go_loopw [3] (fun i wr => i = .int .i64 1 ∧ w = wr) (fun _ _ => 0)
    case atStart => exact ⟨rfl, rfl⟩
    case round =>
      obtain ⟨rfl, rfl⟩ := hrel
      go_wp2_with fail
      go_ret
      go_light
      exact ⟨ret_val (app_nil (b := []) (len_neg h0)), Below.refl _ _⟩
  · by_cases h1 : 268435456 ≤ n
    · go_enter Try.func19, Try.ntmps19
      go_wp2_with fail
      go_loopw [3] (fun i wr => i = .int .i64 1 ∧ w = wr) (fun _ _ => 0)
      case atStart => exact ⟨rfl, rfl⟩
      case round =>
        obtain ⟨rfl, rfl⟩ := hrel
        go_wp2_with fail
        go_ret
        go_light
        exact ⟨ret_val (app_nil (b := []) (len_5 (by omega))), Below.refl _ _⟩
    · go_enter Try.func19, Try.ntmps19
      go_wp2_with fail
      go_loopw [3, 4] (fun i _t wr => ∃ k : Nat, 1 ≤ k ∧ k ≤ 5 ∧ i = .int .i64 k ∧ w = wr ∧ (1 < k → 63 ≤ n) ∧ (2 < k → 4094 ≤ n) ∧ (3 < k → 1048573 ≤ n) ∧ (4 < k → 268435452 ≤ n)) (fun i _ _ => 5 - (intOf i).toNat)
      case atStart => exact ⟨1, by omega, by omega, rfl, rfl, by omega, by omega, by omega, by omega⟩
      case round =>
        obtain ⟨k, hk1, hk5, rfl, rfl, hn1, hn2, hn3, hn4⟩ := hrel
        obtain rfl | rfl | rfl | rfl | rfl : k = 1 ∨ k = 2 ∨ k = 3 ∨ k = 4 ∨ k = 5 := by omega
        · clear hn1 hn2 hn3 hn4
          go_wp2_with fail
          · refine (little_i _ _ _ (by omega) (by omega) (by omega)).mono ?_
            rintro e w1 ⟨l, HL, hl, rfl, hb⟩
            go_wp2_with fail
            go_ret
            go_light
            exact ⟨ret_val (congrArg (fun l : List UInt8 => Value.string ⟨l.toArray⟩) (rlen_1 HL (by omega) (by omega))), hb⟩
          · go_roundw
            case rel => exact ⟨2, by omega, by omega, rfl, trivial, by omega, by omega, by omega, by omega⟩
            case measure => decide
        · have hn := hn1 (by omega)
          clear hn1 hn2 hn3 hn4
          go_wp2_with fail
          · refine (little_i _ _ _ (by omega) (by omega) (by omega)).mono ?_
            rintro e w1 ⟨l, HL, hl, rfl, hb⟩
            go_wp2_with fail
            refine (little_i _ _ _ (by omega) (by omega) (by omega)).mono ?_
            rintro e w2 ⟨m, HM, hm, rfl, hc⟩
            go_wp2_with fail
            go_ret
            go_light
            exact ⟨ret_val (congrArg (fun l : List UInt8 => Value.string ⟨l.toArray⟩) (rlen_2 HL HM (by omega) (by omega))), hb.trans (hc.mono hb.size)⟩
          · go_roundw
            case rel => exact ⟨3, by omega, by omega, rfl, trivial, by omega, by omega, by omega, by omega⟩
            case measure => decide
        · have hn := hn2 (by omega)
          clear hn1 hn2 hn3 hn4
          go_wp2_with fail
          · refine (little_i _ _ _ (by omega) (by omega) (by omega)).mono ?_
            rintro e w1 ⟨l, HL, hl, rfl, hb⟩
            go_wp2_with fail
            refine (little_i _ _ _ (by omega) (by omega) (by omega)).mono ?_
            rintro e w2 ⟨m, HM, hm, rfl, hc⟩
            go_wp2_with fail
            go_ret
            go_light
            exact ⟨ret_val (congrArg (fun l : List UInt8 => Value.string ⟨l.toArray⟩) (rlen_3 HL HM (by omega) (by omega))), hb.trans (hc.mono hb.size)⟩
          · go_roundw
            case rel => exact ⟨4, by omega, by omega, rfl, trivial, by omega, by omega, by omega, by omega⟩
            case measure => decide
        · have hn := hn3 (by omega)
          clear hn1 hn2 hn3 hn4
          go_wp2_with fail
          · refine (little_i _ _ _ (by omega) (by omega) (by omega)).mono ?_
            rintro e w1 ⟨l, HL, hl, rfl, hb⟩
            go_wp2_with fail
            refine (little_i _ _ _ (by omega) (by omega) (by omega)).mono ?_
            rintro e w2 ⟨m, HM, hm, rfl, hc⟩
            go_wp2_with fail
            go_ret
            go_light
            exact ⟨ret_val (congrArg (fun l : List UInt8 => Value.string ⟨l.toArray⟩) (rlen_4 HL HM (by omega) (by omega))), hb.trans (hc.mono hb.size)⟩
          · go_roundw
            case rel => exact ⟨5, by omega, by omega, rfl, trivial, by omega, by omega, by omega, by omega⟩
            case measure => decide
        · have hn := hn4 (by omega)
          clear hn1 hn2 hn3 hn4
          go_wp2_with fail
          go_ret
          go_light
          exact ⟨ret_val (app_nil (b := []) (len_5 (by omega))), Below.refl _ _⟩
end Go.Proofs.Ytihfhkpglfobfaa
