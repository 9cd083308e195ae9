/- The walk of BytecodeLengths: it returns true and writes nothing that was there. -/
import Derived.Test.YtihfhkpglfobfaaLen2
namespace Go.Proofs.Ytihfhkpglfobfaa
open Go.RowKit
attribute [local go_sem] conv1 conv2 ByteArray.mk_append_mk get_mk cut_mk

theorem rdLenK_code {k lim : Nat} (hf : FormL k lim) (n : Int) (h0 : ¬ n + k - 1 < lim) (h : n + k < 16 * 256 ^ (k - 1)) (hn : 0 ≤ n) (t : List UInt8) (c : UInt8) (l : List UInt8) (hl : lenCode (n + k).toNat k = c :: l) :
    rdLenK c (l ++ t) k lim = (n, k, 0) ∧ c.toNat / 64 = k - 1 := by
  have hkk : 2 ≤ k ∧ k ≤ 4 := by rcases hf with ⟨rfl, rfl⟩ | ⟨rfl, rfl⟩ | ⟨rfl, rfl⟩ <;> omega
  simp only [lenCode, List.cons.injEq] at hl
  obtain ⟨hc, hl⟩ := hl
  have hlen : l.length = k - 1 := by rw [← hl, little_length]
  have hc' : c.toNat = (k - 1) * 64 + (n + k).toNat % 16 := by
    rw [← hc, UInt8.toNat_ofNat']
    rcases hf with ⟨rfl, rfl⟩ | ⟨rfl, rfl⟩ | ⟨rfl, rfl⟩ <;> omega
  have hp : (256 ^ (k - 1) : Int) = ((256 ^ (k - 1) : Nat) : Int) := by rw [Int.natCast_pow]; rfl
  rw [hp] at h
  have hnum : num l = (n + k).toNat / 16 := by
    rw [← hl, num_little, Nat.mod_eq_of_lt]
    omega
  have htk : (l ++ t).take (k - 1) = l := by
    rw [List.take_append_of_le_length (by omega), List.take_of_length_le (by omega)]
  have hdiv : c.toNat / 64 = k - 1 := by
    rcases hf with ⟨rfl, rfl⟩ | ⟨rfl, rfl⟩ | ⟨rfl, rfl⟩ <;> omega
  have h48 : c.toNat / 16 % 4 = 0 := by
    rcases hf with ⟨rfl, rfl⟩ | ⟨rfl, rfl⟩ | ⟨rfl, rfl⟩ <;> omega
  have hmod : c.toNat % 16 = (n + k).toNat % 16 := by
    rcases hf with ⟨rfl, rfl⟩ | ⟨rfl, rfl⟩ | ⟨rfl, rfl⟩ <;> omega
  refine ⟨?_, hdiv⟩
  rw [rdLenK, if_neg (by omega), if_neg (by rw [List.length_append]; omega), htk, hnum, if_neg (by omega)]
  simp only [Prod.mk.injEq, and_true]
  omega

theorem rdLen_enc (n : Int) (t : List UInt8) (hne : encLen n ≠ []) : rdLen (encLen n ++ t) = (n, (encLen n).length, 0) := by
  by_cases h0 : n < 0 ∨ 268435456 ≤ n
  · exact absurd (by rw [encLen, if_pos h0]) hne
  by_cases h1 : n < 63
  · rw [← len_1 (by omega) h1]
    have hc : (UInt8.ofNat (n + 1).toNat).toNat = (n + 1).toNat := by rw [UInt8.toNat_ofNat']; omega
    show rdLen (UInt8.ofNat (n + 1).toNat :: t) = _
    rw [rdLen, hc, if_neg (by omega), if_pos (by omega)]
    simp only [Prod.mk.injEq, and_true, List.length_cons, List.length_nil]
    omega
  have key : ∀ (k lim : Nat), FormL k lim → ¬ n + k - 1 < lim → n + k < 16 * 256 ^ (k - 1) → rdLen (encLen n ++ t) = (n, (encLen n).length, 0) := by
    intro k lim hf ha hb
    have he := encLen_high hf n ha hb
    obtain ⟨c, l, hcl⟩ : ∃ c l, lenCode (n + k).toNat k = c :: l := ⟨_, _, rfl⟩
    have hk := rdLenK_code hf n ha hb (by omega) t c l hcl
    have hlen : (lenCode (n + k).toNat k).length = k := by
      rw [lenCode, List.length_cons, little_length]
      rcases hf with ⟨rfl, rfl⟩ | ⟨rfl, rfl⟩ | ⟨rfl, rfl⟩ <;> rfl
    rw [he, hlen, hcl, List.cons_append, ← hk.1]
    have hcl := c.toNat_lt
    rcases hf with ⟨rfl, rfl⟩ | ⟨rfl, rfl⟩ | ⟨rfl, rfl⟩
    · exact rdLen_k2 (by omega) (by omega)
    · exact rdLen_k3 (by omega) (by omega)
    · exact rdLen_k4 (by omega)
  by_cases h2 : n < 4094
  · exact key 2 64 (.inl ⟨rfl, rfl⟩) (by omega) (by omega)
  by_cases h3 : n < 1048573
  · exact key 3 4096 (.inr (.inl ⟨rfl, rfl⟩)) (by omega) (by omega)
  by_cases h4 : n < 268435452
  · exact key 4 1048576 (.inr (.inr ⟨rfl, rfl⟩)) (by omega) (by omega)
  · exact absurd (len_5 (by omega)).symm hne

theorem encLen_len (n : Int) : (encLen n).length ≤ 4 := by
  unfold encLen
  repeat' split
  all_goals simp [lenCode, little_length]
theorem refLength_v (n : Int) (w : World) (hlo : -9223372036854775808 ≤ n) (hhi : n ≤ 9223372036854775807) :
    Calls Try.prog 19 #[.int .i64 n] w fun e w' => ∃ l : List UInt8, Hid (l = encLen n) ∧ l.length ≤ 4 ∧ e = .returned (.string ⟨l.toArray⟩) ∧ Below w.heap.size w w' :=
  (refLength_any n w hlo hhi).mono fun _ _ ⟨he, hw⟩ => ⟨_, Lib.hid rfl, encLen_len n, he, hw⟩
theorem length_e (s : List UInt8) (w : World) (hm : s.length ≤ 9223372036854774000) :
    Calls Try.prog 21 #[.string ⟨s.toArray⟩] w fun e w' => e = .returned (.tuple #[.int .i64 (rdLen s).1, .int .i64 (rdLen s).2.1, .int .i64 (rdLen s).2.2]) ∧ Below w.heap.size w w' := length_any s w hm
theorem readLength_e (s : List UInt8) (w : World) (hm : s.length ≤ 9223372036854774000) :
    Calls Try.prog 22 #[.string ⟨s.toArray⟩] w fun e w' => e = .returned (.tuple #[.int .i64 (rdLen s).1, .int .i64 (rdLen s).2.1, .int .i64 (rdLen s).2.2]) ∧ Below w.heap.size w w' := readLength_any s w hm
theorem length_enc (n : Int) (l t : List UInt8) (w : World) (HL : Hid (l = encLen n)) (hl : l.length ≤ 4) (hne : l ≠ []) (ht : t.length ≤ 9223372036854770000) :
    Calls Try.prog 21 #[.string ⟨(l ++ t).toArray⟩] w fun e w' => e = .returned (.tuple #[.int .i64 n, .int .i64 l.length, .int .i64 0]) ∧ Below w.heap.size w w' := by
  refine (length_any (l ++ t) w (by rw [List.length_append]; omega)).mono fun e w' ⟨he, hw⟩ => ⟨?_, hw⟩
  rw [he, HL.out, rdLen_enc _ _ (by rw [← HL.out]; exact hne)]
  rfl

set_option maxRecDepth 100000 in
set_option maxHeartbeats 2000000 in
theorem law_lengths (b s : List UInt8) (n sh : Int) (w : World) (hb : b.length ≤ 140737488355328) (hs : s.length ≤ 140737488355328) (hn : -9223372036854775808 ≤ n) (hn' : n ≤ 9223372036854775807) (hsh : 0 ≤ sh) (hsh' : sh ≤ 255) :
    Calls Try.prog 6 #[.string ⟨b.toArray⟩, .int .i64 n, .int .u8 sh, .string ⟨s.toArray⟩] w fun e w' => e = .returned (.bool true) ∧ Below w.heap.size w w' := by
  have hw64 : ∀ y : Int, -9223372036854775808 ≤ wrap64 y ∧ wrap64 y ≤ 9223372036854775807 := fun y => by unfold wrap64; omega
  go_enter Try.func6, Try.ntmps6
  go_wp2_with fail
  obtain ⟨hm, hm'⟩ := hw64 (IntKind.u64.wrap n / 2 ^ (sh % 64).toNat)
  clear hw64
  generalize wrap64 (IntKind.u64.wrap n / 2 ^ (sh % 64).toNat) = small at *
  go_loopw [1, 10] (fun x i wr => ∃ (k : Nat) (m : Int), k ≤ 2 ∧ i = .int .i64 k ∧ x = .int .i64 m ∧ -9223372036854775808 ≤ m ∧ m ≤ 9223372036854775807 ∧ Below w.heap.size w wr) (fun _ i _ => 2 - (intOf i).toNat)
  case atStart => exact ⟨0, n, by omega, rfl, rfl, hn, hn', Below.refl _ _⟩
  case round =>
    obtain ⟨k, m, hk, rfl, rfl, hlo, hhi, hbl⟩ := hrel
    by_cases hlt : k < 2
    · go_wp2_with fail
      refine (refLength_v m _ hlo hhi).mono ?_
      rintro e w1 ⟨l, HL, hl, rfl, hb1⟩
      go_wp2_with fail
      refine (appendLength_any b m _ (by omega) hlo hhi).mono ?_
      rintro e w2 ⟨rfl, hb2⟩
      rw [← HL.out]
      go_wp2_with fail
      by_cases hne : l = []
      · subst hne
        refine (length_e _ _ (by simp; omega)).mono ?_
        rintro e w3 ⟨rfl, hb3⟩
        go_wp2_with fail
        go_roundw
        case rel => exact ⟨k + 1, small, by omega, by go_num, rfl, hm, hm', Grows.trans (Grows.trans (Grows.trans hbl hb1) hb2) hb3⟩
        case measure => simp [intOf]; omega
      · refine (length_enc m l s _ HL hl hne (by omega)).mono ?_
        rintro e w3 ⟨rfl, hb3⟩
        have hne' : (!l.isEmpty) = true := by simpa using hne
        go_wp2_with fail
        go_roundw
        case rel => exact ⟨k + 1, small, by omega, by go_num, rfl, hm, hm', Grows.trans (Grows.trans (Grows.trans hbl hb1) hb2) hb3⟩
        case measure => simp [intOf]; omega
    · go_wp2_with fail
      refine (length_e _ _ (by omega)).mono ?_
      rintro e w3 ⟨rfl, hb3⟩
      go_wp2_with fail
      refine (readLength_e _ _ (by omega)).mono ?_
      rintro e w4 ⟨rfl, hb4⟩
      go_wp2_with fail
      refine (awake_any _).mono ?_
      rintro e w5 ⟨rfl, hb5⟩
      go_wp2_with fail
      go_ret
      exact ⟨rfl, Grows.trans (Grows.trans (Grows.trans hbl hb3) hb4) hb5⟩
end Go.Proofs.Ytihfhkpglfobfaa
