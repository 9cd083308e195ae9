/- FormatTokens of the reference at one token: the walk. -/
import Derived.Test.YtebmkalgdbkijaaTld
import Derived.Test.YtebmkalgdbkijaaTlf
namespace Go.Proofs.Ytebmkalgdbkijaa
open Go.RowKit
set_option linter.unusedVariables false
set_option linter.unusedSimpArgs false
attribute [local go_sem] ByteArray.mk_append_mk bs_get bs_cut bs_end

def punC (k : Int) : List UInt8 := if k = 5 then [40] else if k = 6 then [41] else if k = 7 then [123] else if k = 8 then [125] else [44]
/-- The text of a valid token. -/
def fmtT (t : TokI) : List UInt8 := if t.kind = 1 ∨ t.kind = 2 then t.str else if t.kind = 3 then fmtI t.num.toNat else if t.kind = 4 then quoL t.str else punC t.kind
theorem quoK_len (v : List UInt8) : ∀ k : Nat, k ≤ v.length → (quoK v k).length ≤ 19 * k + 1 := by
  intro k
  induction k with
  | zero => intro _; simp [quoK]
  | succ k ih =>
    intro h
    rw [quoK_succ (by omega), List.length_append]
    have := ih (by omega)
    have := quoC_len v[k]
    omega
theorem quoL_len {v : List UInt8} (h : v.length ≤ 255) : (quoL v).length ≤ 4847 := by
  unfold quoL
  rw [List.length_append]
  have := quoK_len v v.length (Nat.le_refl _)
  simp; omega
theorem TSl.one {w : World} {v : Value} {t : TokI} (h : TSl w v [t]) : ∃ b off cap, v = .slice (some ⟨b, off, none⟩) 1 cap ∧ ∀ w', Below w.heap.size w w' → TAt w' b off t := by
  obtain ⟨a, cap, hv, hc⟩ := h
  obtain ⟨b, off, rfl, hk⟩ := hc (by simp)
  refine ⟨b, off, cap, hv, fun w' hb => ?_⟩
  have := (hk 0 (by simp)).below hb
  simpa using this
set_option maxRecDepth 100000 in
set_option maxHeartbeats 8000000 in
theorem fmt_1 (v : Value) (n p : Int) (s : List UInt8) (w : World) (hv0 : TSl w v [⟨1, n, s, p⟩]) (hs : s.length ≤ 9223372036854770000) (hv : nameB s = true) : Calls Try.prog 11 #[v] w fun e w' => e = .returned (.string ⟨(s).toArray⟩) ∧ Below w.heap.size w w' := by
  have hvt : validT ⟨1, n, s, p⟩ = true := by unfold validT; rw [if_pos rfl]; exact hv
  have KV := Lib.hid (fun w => valid_any ⟨1, n, s, p⟩ w hs)
  rw [hvt] at KV
  unfold TokI.val at KV
  simp only [tokV] at KV
  obtain ⟨b, off, cap, rfl, ht⟩ := hv0.one
  have HT := Lib.hid ht
  clear hvt ht hv0 hv
  go_enter Try.func11, Try.ntmps11
  go_wp2_with fail
  go_loopw [3, 4] (fun z i wr => ∃ k : Nat, k ≤ 1 ∧ i = .int .i64 k ∧ z = .string ⟨(if k = 0 then [] else s : List UInt8).toArray⟩ ∧ Hid (Below w.heap.size w wr)) (fun _ i _ => 1 - (intOf i).toNat)
  case atStart => exact ⟨0, by omega, rfl, rfl, Lib.hid (Below.refl _ _)⟩
  case round =>
    obtain ⟨k, hk, rfl, rfl, HB⟩ := hrel
    obtain ⟨w1, rfl⟩ : ∃ y : World, y = wr := ⟨_, rfl⟩
    by_cases h0k : k = 0
    · subst h0k
      obtain ⟨c0, c1, c2, c3⟩ := HT.out _ HB.out
      simp only [if_true] at *
      go_wp2_with fail
      ((with_reducible refine (KV.out _).mono ?_))
      rintro e w2 ⟨rfl, hb⟩
      have HB2 := Lib.hid (bel_then HB.out (Nat.le_refl _) hb)
      clear hb KV c0 c1 c2 c3
      obtain ⟨c0, c1, c2, c3⟩ := HT.out _ HB2.out
      go_wp2_with fail
      go_roundw
      case rel => exact ⟨1, by omega, by go_num, by simp, HB2⟩
      case measure => simp [intOf]
    · obtain rfl : k = 1 := by omega
      go_wp2_with fail
      go_ret
      exact ⟨rfl, HB.out⟩
set_option maxRecDepth 100000 in
set_option maxHeartbeats 8000000 in
theorem fmt_2 (v : Value) (n p : Int) (s : List UInt8) (w : World) (hv0 : TSl w v [⟨2, n, s, p⟩]) (hs : s.length ≤ 9223372036854770000) (hv : kwB s = true) : Calls Try.prog 11 #[v] w fun e w' => e = .returned (.string ⟨(s).toArray⟩) ∧ Below w.heap.size w w' := by
  have hvt : validT ⟨2, n, s, p⟩ = true := by unfold validT; exact hv
  have KV := Lib.hid (fun w => valid_any ⟨2, n, s, p⟩ w hs)
  rw [hvt] at KV
  unfold TokI.val at KV
  simp only [tokV] at KV
  obtain ⟨b, off, cap, rfl, ht⟩ := hv0.one
  have HT := Lib.hid ht
  clear hvt ht hv0 hv
  go_enter Try.func11, Try.ntmps11
  go_wp2_with fail
  go_loopw [3, 4] (fun z i wr => ∃ k : Nat, k ≤ 1 ∧ i = .int .i64 k ∧ z = .string ⟨(if k = 0 then [] else s : List UInt8).toArray⟩ ∧ Hid (Below w.heap.size w wr)) (fun _ i _ => 1 - (intOf i).toNat)
  case atStart => exact ⟨0, by omega, rfl, rfl, Lib.hid (Below.refl _ _)⟩
  case round =>
    obtain ⟨k, hk, rfl, rfl, HB⟩ := hrel
    obtain ⟨w1, rfl⟩ : ∃ y : World, y = wr := ⟨_, rfl⟩
    by_cases h0k : k = 0
    · subst h0k
      obtain ⟨c0, c1, c2, c3⟩ := HT.out _ HB.out
      simp only [if_true] at *
      go_wp2_with fail
      ((with_reducible refine (KV.out _).mono ?_))
      rintro e w2 ⟨rfl, hb⟩
      have HB2 := Lib.hid (bel_then HB.out (Nat.le_refl _) hb)
      clear hb KV c0 c1 c2 c3
      obtain ⟨c0, c1, c2, c3⟩ := HT.out _ HB2.out
      go_wp2_with fail
      go_roundw
      case rel => exact ⟨1, by omega, by go_num, by simp, HB2⟩
      case measure => simp [intOf]
    · obtain rfl : k = 1 := by omega
      go_wp2_with fail
      go_ret
      exact ⟨rfl, HB.out⟩
set_option maxRecDepth 100000 in
set_option maxHeartbeats 8000000 in
theorem fmt_3 (v : Value) (n p : Int) (s : List UInt8) (w : World) (hv0 : TSl w v [⟨3, n, s, p⟩]) (hs : s.length ≤ 9223372036854770000) (h0 : 0 ≤ n) (h1 : n ≤ 18446744073709551615) : Calls Try.prog 11 #[v] w fun e w' => e = .returned (.string ⟨(fmtI n.toNat).toArray⟩) ∧ Below w.heap.size w w' := by
  have hvt : validT ⟨3, n, s, p⟩ = true := by unfold validT; rfl
  have KV := Lib.hid (fun w => valid_any ⟨3, n, s, p⟩ w hs)
  rw [hvt] at KV
  unfold TokI.val at KV
  simp only [tokV] at KV
  obtain ⟨b, off, cap, rfl, ht⟩ := hv0.one
  have HT := Lib.hid ht
  clear hvt ht hv0
  obtain ⟨N, rfl⟩ := Int.eq_ofNat_of_zero_le h0
  rw [Int.toNat_natCast]
  have KF := Lib.hid (fun w => fmtI_any N w (Lib.hid (by omega)))
  have hxl := fmtI_len (v := N) (by omega)
  obtain ⟨X, hX⟩ : ∃ X, fmtI N = X := ⟨_, rfl⟩
  rw [hX] at KF hxl ⊢
  clear hX h0 h1
  go_enter Try.func11, Try.ntmps11
  go_wp2_with fail
  go_loopw [3, 4] (fun z i wr => ∃ k : Nat, k ≤ 1 ∧ i = .int .i64 k ∧ z = .string ⟨(if k = 0 then [] else X : List UInt8).toArray⟩ ∧ Hid (Below w.heap.size w wr)) (fun _ i _ => 1 - (intOf i).toNat)
  case atStart => exact ⟨0, by omega, rfl, rfl, Lib.hid (Below.refl _ _)⟩
  case round =>
    obtain ⟨k, hk, rfl, rfl, HB⟩ := hrel
    obtain ⟨w1, rfl⟩ : ∃ y : World, y = wr := ⟨_, rfl⟩
    by_cases h0k : k = 0
    · subst h0k
      obtain ⟨c0, c1, c2, c3⟩ := HT.out _ HB.out
      simp only [if_true] at *
      go_wp2_with fail
      ((with_reducible refine (KV.out _).mono ?_))
      rintro e w2 ⟨rfl, hb⟩
      have HB2 := Lib.hid (bel_then HB.out (Nat.le_refl _) hb)
      clear hb KV c0 c1 c2 c3
      obtain ⟨c0, c1, c2, c3⟩ := HT.out _ HB2.out
      go_wp2_with fail
      ((with_reducible refine (KF.out _).mono ?_))
      rintro e w3 ⟨rfl, rfl⟩
      go_wp2_with fail
      go_roundw
      case rel => exact ⟨1, by omega, by go_num, by simp, HB2⟩
      case measure => simp [intOf]
    · obtain rfl : k = 1 := by omega
      go_wp2_with fail
      go_ret
      exact ⟨rfl, HB.out⟩
set_option maxRecDepth 100000 in
set_option maxHeartbeats 8000000 in
theorem fmt_4 (v : Value) (n p : Int) (s : List UInt8) (w : World) (hv0 : TSl w v [⟨4, n, s, p⟩]) (hs : s.length ≤ 9223372036854770000) (hv : s.length ≤ 255) : Calls Try.prog 11 #[v] w fun e w' => e = .returned (.string ⟨(quoL s).toArray⟩) ∧ Below w.heap.size w w' := by
  have hvt : validT ⟨4, n, s, p⟩ = true := by unfold validT; simp [hv]
  have KV := Lib.hid (fun w => valid_any ⟨4, n, s, p⟩ w hs)
  rw [hvt] at KV
  unfold TokI.val at KV
  simp only [tokV] at KV
  obtain ⟨b, off, cap, rfl, ht⟩ := hv0.one
  have HT := Lib.hid ht
  clear hvt ht hv0
  have KF := Lib.hid (fun w => quo_any s w (by omega))
  have hxl := quoL_len hv
  obtain ⟨X, hX⟩ : ∃ X, quoL s = X := ⟨_, rfl⟩
  rw [hX] at KF hxl ⊢
  clear hX
  go_enter Try.func11, Try.ntmps11
  go_wp2_with fail
  go_loopw [3, 4] (fun z i wr => ∃ k : Nat, k ≤ 1 ∧ i = .int .i64 k ∧ z = .string ⟨(if k = 0 then [] else X : List UInt8).toArray⟩ ∧ Hid (Below w.heap.size w wr)) (fun _ i _ => 1 - (intOf i).toNat)
  case atStart => exact ⟨0, by omega, rfl, rfl, Lib.hid (Below.refl _ _)⟩
  case round =>
    obtain ⟨k, hk, rfl, rfl, HB⟩ := hrel
    obtain ⟨w1, rfl⟩ : ∃ y : World, y = wr := ⟨_, rfl⟩
    by_cases h0k : k = 0
    · subst h0k
      obtain ⟨c0, c1, c2, c3⟩ := HT.out _ HB.out
      simp only [if_true] at *
      go_wp2_with fail
      ((with_reducible refine (KV.out _).mono ?_))
      rintro e w2 ⟨rfl, hb⟩
      have HB2 := Lib.hid (bel_then HB.out (Nat.le_refl _) hb)
      clear hb KV c0 c1 c2 c3
      obtain ⟨c0, c1, c2, c3⟩ := HT.out _ HB2.out
      go_wp2_with fail
      ((with_reducible refine (KF.out _).mono ?_))
      rintro e w3 ⟨rfl, rfl⟩
      go_wp2_with fail
      go_roundw
      case rel => exact ⟨1, by omega, by go_num, by simp, HB2⟩
      case measure => simp [intOf]
    · obtain rfl : k = 1 := by omega
      go_wp2_with fail
      go_ret
      exact ⟨rfl, HB.out⟩
set_option maxRecDepth 100000 in
set_option maxHeartbeats 8000000 in
theorem fmt_5 (v : Value) (n p : Int) (s : List UInt8) (w : World) (hv0 : TSl w v [⟨5, n, s, p⟩]) (hs : s.length ≤ 9223372036854770000) : Calls Try.prog 11 #[v] w fun e w' => e = .returned (.string ⟨([40]).toArray⟩) ∧ Below w.heap.size w w' := by
  have hvt : validT ⟨5, n, s, p⟩ = true := by unfold validT; rfl
  have KV := Lib.hid (fun w => valid_any ⟨5, n, s, p⟩ w hs)
  rw [hvt] at KV
  unfold TokI.val at KV
  simp only [tokV] at KV
  obtain ⟨b, off, cap, rfl, ht⟩ := hv0.one
  have HT := Lib.hid ht
  clear hvt ht hv0
  go_enter Try.func11, Try.ntmps11
  go_wp2_with fail
  go_loopw [3, 4] (fun z i wr => ∃ k : Nat, k ≤ 1 ∧ i = .int .i64 k ∧ z = .string ⟨(if k = 0 then [] else [40] : List UInt8).toArray⟩ ∧ Hid (Below w.heap.size w wr)) (fun _ i _ => 1 - (intOf i).toNat)
  case atStart => exact ⟨0, by omega, rfl, rfl, Lib.hid (Below.refl _ _)⟩
  case round =>
    obtain ⟨k, hk, rfl, rfl, HB⟩ := hrel
    obtain ⟨w1, rfl⟩ : ∃ y : World, y = wr := ⟨_, rfl⟩
    by_cases h0k : k = 0
    · subst h0k
      obtain ⟨c0, c1, c2, c3⟩ := HT.out _ HB.out
      simp only [if_true] at *
      go_wp2_with fail
      ((with_reducible refine (KV.out _).mono ?_))
      rintro e w2 ⟨rfl, hb⟩
      have HB2 := Lib.hid (bel_then HB.out (Nat.le_refl _) hb)
      clear hb KV c0 c1 c2 c3
      obtain ⟨c0, c1, c2, c3⟩ := HT.out _ HB2.out
      go_wp2_with fail
      go_quiet (fail)
      go_wp2_with fail
      go_roundw
      case rel => exact ⟨1, by omega, by go_num, by simp, Lib.hid (below_drewN HB2.out _)⟩
      case measure => simp [intOf]
    · obtain rfl : k = 1 := by omega
      go_wp2_with fail
      go_ret
      exact ⟨rfl, HB.out⟩
set_option maxRecDepth 100000 in
set_option maxHeartbeats 8000000 in
theorem fmt_6 (v : Value) (n p : Int) (s : List UInt8) (w : World) (hv0 : TSl w v [⟨6, n, s, p⟩]) (hs : s.length ≤ 9223372036854770000) : Calls Try.prog 11 #[v] w fun e w' => e = .returned (.string ⟨([41]).toArray⟩) ∧ Below w.heap.size w w' := by
  have hvt : validT ⟨6, n, s, p⟩ = true := by unfold validT; rfl
  have KV := Lib.hid (fun w => valid_any ⟨6, n, s, p⟩ w hs)
  rw [hvt] at KV
  unfold TokI.val at KV
  simp only [tokV] at KV
  obtain ⟨b, off, cap, rfl, ht⟩ := hv0.one
  have HT := Lib.hid ht
  clear hvt ht hv0
  go_enter Try.func11, Try.ntmps11
  go_wp2_with fail
  go_loopw [3, 4] (fun z i wr => ∃ k : Nat, k ≤ 1 ∧ i = .int .i64 k ∧ z = .string ⟨(if k = 0 then [] else [41] : List UInt8).toArray⟩ ∧ Hid (Below w.heap.size w wr)) (fun _ i _ => 1 - (intOf i).toNat)
  case atStart => exact ⟨0, by omega, rfl, rfl, Lib.hid (Below.refl _ _)⟩
  case round =>
    obtain ⟨k, hk, rfl, rfl, HB⟩ := hrel
    obtain ⟨w1, rfl⟩ : ∃ y : World, y = wr := ⟨_, rfl⟩
    by_cases h0k : k = 0
    · subst h0k
      obtain ⟨c0, c1, c2, c3⟩ := HT.out _ HB.out
      simp only [if_true] at *
      go_wp2_with fail
      ((with_reducible refine (KV.out _).mono ?_))
      rintro e w2 ⟨rfl, hb⟩
      have HB2 := Lib.hid (bel_then HB.out (Nat.le_refl _) hb)
      clear hb KV c0 c1 c2 c3
      obtain ⟨c0, c1, c2, c3⟩ := HT.out _ HB2.out
      go_wp2_with fail
      go_quiet (fail)
      go_wp2_with fail
      go_roundw
      case rel => exact ⟨1, by omega, by go_num, by simp, Lib.hid (below_drewN HB2.out _)⟩
      case measure => simp [intOf]
    · obtain rfl : k = 1 := by omega
      go_wp2_with fail
      go_ret
      exact ⟨rfl, HB.out⟩
set_option maxRecDepth 100000 in
set_option maxHeartbeats 8000000 in
theorem fmt_7 (v : Value) (n p : Int) (s : List UInt8) (w : World) (hv0 : TSl w v [⟨7, n, s, p⟩]) (hs : s.length ≤ 9223372036854770000) : Calls Try.prog 11 #[v] w fun e w' => e = .returned (.string ⟨([123]).toArray⟩) ∧ Below w.heap.size w w' := by
  have hvt : validT ⟨7, n, s, p⟩ = true := by unfold validT; rfl
  have KV := Lib.hid (fun w => valid_any ⟨7, n, s, p⟩ w hs)
  rw [hvt] at KV
  unfold TokI.val at KV
  simp only [tokV] at KV
  obtain ⟨b, off, cap, rfl, ht⟩ := hv0.one
  have HT := Lib.hid ht
  clear hvt ht hv0
  go_enter Try.func11, Try.ntmps11
  go_wp2_with fail
  go_loopw [3, 4] (fun z i wr => ∃ k : Nat, k ≤ 1 ∧ i = .int .i64 k ∧ z = .string ⟨(if k = 0 then [] else [123] : List UInt8).toArray⟩ ∧ Hid (Below w.heap.size w wr)) (fun _ i _ => 1 - (intOf i).toNat)
  case atStart => exact ⟨0, by omega, rfl, rfl, Lib.hid (Below.refl _ _)⟩
  case round =>
    obtain ⟨k, hk, rfl, rfl, HB⟩ := hrel
    obtain ⟨w1, rfl⟩ : ∃ y : World, y = wr := ⟨_, rfl⟩
    by_cases h0k : k = 0
    · subst h0k
      obtain ⟨c0, c1, c2, c3⟩ := HT.out _ HB.out
      simp only [if_true] at *
      go_wp2_with fail
      ((with_reducible refine (KV.out _).mono ?_))
      rintro e w2 ⟨rfl, hb⟩
      have HB2 := Lib.hid (bel_then HB.out (Nat.le_refl _) hb)
      clear hb KV c0 c1 c2 c3
      obtain ⟨c0, c1, c2, c3⟩ := HT.out _ HB2.out
      go_wp2_with fail
      go_quiet (fail)
      go_wp2_with fail
      go_roundw
      case rel => exact ⟨1, by omega, by go_num, by simp, Lib.hid (below_drewN HB2.out _)⟩
      case measure => simp [intOf]
    · obtain rfl : k = 1 := by omega
      go_wp2_with fail
      go_ret
      exact ⟨rfl, HB.out⟩
set_option maxRecDepth 100000 in
set_option maxHeartbeats 8000000 in
theorem fmt_8 (v : Value) (n p : Int) (s : List UInt8) (w : World) (hv0 : TSl w v [⟨8, n, s, p⟩]) (hs : s.length ≤ 9223372036854770000) : Calls Try.prog 11 #[v] w fun e w' => e = .returned (.string ⟨([125]).toArray⟩) ∧ Below w.heap.size w w' := by
  have hvt : validT ⟨8, n, s, p⟩ = true := by unfold validT; rfl
  have KV := Lib.hid (fun w => valid_any ⟨8, n, s, p⟩ w hs)
  rw [hvt] at KV
  unfold TokI.val at KV
  simp only [tokV] at KV
  obtain ⟨b, off, cap, rfl, ht⟩ := hv0.one
  have HT := Lib.hid ht
  clear hvt ht hv0
  go_enter Try.func11, Try.ntmps11
  go_wp2_with fail
  go_loopw [3, 4] (fun z i wr => ∃ k : Nat, k ≤ 1 ∧ i = .int .i64 k ∧ z = .string ⟨(if k = 0 then [] else [125] : List UInt8).toArray⟩ ∧ Hid (Below w.heap.size w wr)) (fun _ i _ => 1 - (intOf i).toNat)
  case atStart => exact ⟨0, by omega, rfl, rfl, Lib.hid (Below.refl _ _)⟩
  case round =>
    obtain ⟨k, hk, rfl, rfl, HB⟩ := hrel
    obtain ⟨w1, rfl⟩ : ∃ y : World, y = wr := ⟨_, rfl⟩
    by_cases h0k : k = 0
    · subst h0k
      obtain ⟨c0, c1, c2, c3⟩ := HT.out _ HB.out
      simp only [if_true] at *
      go_wp2_with fail
      ((with_reducible refine (KV.out _).mono ?_))
      rintro e w2 ⟨rfl, hb⟩
      have HB2 := Lib.hid (bel_then HB.out (Nat.le_refl _) hb)
      clear hb KV c0 c1 c2 c3
      obtain ⟨c0, c1, c2, c3⟩ := HT.out _ HB2.out
      go_wp2_with fail
      go_quiet (fail)
      go_wp2_with fail
      go_roundw
      case rel => exact ⟨1, by omega, by go_num, by simp, Lib.hid (below_drewN HB2.out _)⟩
      case measure => simp [intOf]
    · obtain rfl : k = 1 := by omega
      go_wp2_with fail
      go_ret
      exact ⟨rfl, HB.out⟩
set_option maxRecDepth 100000 in
set_option maxHeartbeats 8000000 in
theorem fmt_9 (v : Value) (n p : Int) (s : List UInt8) (w : World) (hv0 : TSl w v [⟨9, n, s, p⟩]) (hs : s.length ≤ 9223372036854770000) : Calls Try.prog 11 #[v] w fun e w' => e = .returned (.string ⟨([44]).toArray⟩) ∧ Below w.heap.size w w' := by
  have hvt : validT ⟨9, n, s, p⟩ = true := by unfold validT; rfl
  have KV := Lib.hid (fun w => valid_any ⟨9, n, s, p⟩ w hs)
  rw [hvt] at KV
  unfold TokI.val at KV
  simp only [tokV] at KV
  obtain ⟨b, off, cap, rfl, ht⟩ := hv0.one
  have HT := Lib.hid ht
  clear hvt ht hv0
  go_enter Try.func11, Try.ntmps11
  go_wp2_with fail
  go_loopw [3, 4] (fun z i wr => ∃ k : Nat, k ≤ 1 ∧ i = .int .i64 k ∧ z = .string ⟨(if k = 0 then [] else [44] : List UInt8).toArray⟩ ∧ Hid (Below w.heap.size w wr)) (fun _ i _ => 1 - (intOf i).toNat)
  case atStart => exact ⟨0, by omega, rfl, rfl, Lib.hid (Below.refl _ _)⟩
  case round =>
    obtain ⟨k, hk, rfl, rfl, HB⟩ := hrel
    obtain ⟨w1, rfl⟩ : ∃ y : World, y = wr := ⟨_, rfl⟩
    by_cases h0k : k = 0
    · subst h0k
      obtain ⟨c0, c1, c2, c3⟩ := HT.out _ HB.out
      simp only [if_true] at *
      go_wp2_with fail
      ((with_reducible refine (KV.out _).mono ?_))
      rintro e w2 ⟨rfl, hb⟩
      have HB2 := Lib.hid (bel_then HB.out (Nat.le_refl _) hb)
      clear hb KV c0 c1 c2 c3
      obtain ⟨c0, c1, c2, c3⟩ := HT.out _ HB2.out
      go_wp2_with fail
      go_quiet (fail)
      go_wp2_with fail
      go_roundw
      case rel => exact ⟨1, by omega, by go_num, by simp, Lib.hid (below_drewN HB2.out _)⟩
      case measure => simp [intOf]
    · obtain rfl : k = 1 := by omega
      go_wp2_with fail
      go_ret
      exact ⟨rfl, HB.out⟩
theorem fmt_any (v : Value) (t : TokI) (w : World) (hv : TSl w v [t]) (hs : t.str.length ≤ 9223372036854770000) (h0 : 0 ≤ t.num) (h1 : t.num ≤ 18446744073709551615) (ht : validT t = true) : Calls Try.prog 11 #[v] w fun e w' => e = .returned (.string ⟨(fmtT t).toArray⟩) ∧ Below w.heap.size w w' := by
  obtain ⟨k, n, s, p⟩ := t
  unfold validT at ht
  unfold fmtT
  simp only at ht hs h0 h1 ⊢
  by_cases e1 : k = 1
  · subst e1; exact fmt_1 v n p s w hv hs (by simpa using ht)
  rw [if_neg e1] at ht
  by_cases e2 : k = 2
  · subst e2; exact fmt_2 v n p s w hv hs (by simpa using ht)
  rw [if_neg e2] at ht
  rw [if_neg (by rintro (h | h); exact e1 h; exact e2 h)]
  by_cases e4 : k = 4
  · subst e4; rw [if_neg (by decide), if_pos rfl]; exact fmt_4 v n p s w hv hs (by simpa using ht)
  rw [if_neg e4, decide_eq_true_eq] at ht
  by_cases e3 : k = 3
  · subst e3; rw [if_pos rfl]; exact fmt_3 v n p s w hv hs h0 h1
  rw [if_neg e3, if_neg e4]
  rcases (by omega : k = 5 ∨ k = 6 ∨ k = 7 ∨ k = 8 ∨ k = 9) with rfl | rfl | rfl | rfl | rfl
  · exact fmt_5 v n p s w hv hs
  · exact fmt_6 v n p s w hv hs
  · exact fmt_7 v n p s w hv hs
  · exact fmt_8 v n p s w hv hs
  · exact fmt_9 v n p s w hv hs
end Go.Proofs.Ytebmkalgdbkijaa
