/- token.Format: the walk. -/
import Derived.Test.YtebmkalgdbkijaaDoorTlm
namespace Go.Proofs.YtebmkalgdbkijaaDoor
open Go.RowKit
set_option linter.unusedVariables false
set_option linter.unusedSimpArgs false
attribute [local go_sem] ByteArray.mk_append_mk bs_get bs_cut bs_end

def sepK : Nat → List UInt8
  | 0 => []
  | _ + 1 => [32]
/-- The text of the first k. -/
def textJ (L : List TokI) : Nat → List UInt8
  | 0 => []
  | k + 1 => textJ L k ++ sepK k ++ fmtT (L.getD k ⟨0, 0, [], 0⟩)
def Fine (t : TokI) : Prop := validT t = true ∧ NumI t ∧ Shrt t ∧ t.str.length ≤ 9223372036854770000
theorem textJ_succ {L : List TokI} {k : Nat} (h : k < L.length) : textJ L (k + 1) = textJ L k ++ sepK k ++ fmtT L[k] := by rw [textJ]; simp [List.getD, h]
theorem fine_len {t : TokI} (h : Fine t) : (fmtT t).length ≤ 1022 := by
  obtain ⟨hv, hn, hs, _⟩ := h
  rcases hs with h | ⟨k1, k2, k4⟩
  · exact fmtT_len hv hn.2 h
  · unfold fmtT
    rw [if_neg (by rintro (h | h); exact k1 h; exact k2 h)]
    by_cases k3 : t.kind = 3
    · rw [if_pos k3]
      have := fmtI_len (v := t.num.toNat) (by have := hn.2; omega); omega
    · rw [if_neg k3, if_neg k4]
      unfold punC
      repeat' split
      all_goals simp
theorem sepK_len (k : Nat) : (sepK k).length ≤ 1 := by cases k <;> simp [sepK]
theorem textJ_len {L : List TokI} (hf : ∀ t ∈ L, Fine t) : ∀ k, k ≤ L.length → (textJ L k).length ≤ 1023 * k
  | 0, _ => by simp [textJ]
  | k + 1, h => by
    rw [textJ_succ (by omega), List.length_append, List.length_append]
    have := textJ_len hf k (by omega)
    have := sepK_len k
    have := fine_len (hf _ (List.getElem_mem (show k < L.length by omega)))
    omega
set_option maxRecDepth 100000 in
set_option maxHeartbeats 4000000 in
theorem format_any (v : Value) (L : List TokI) (w : World) (h : TSl w v L) (hf : ∀ t ∈ L, Fine t) (hn : L.length ≤ 1000) (hT : Tz16 w) :
    Calls Tryd.prog 7 #[v] w fun e w' => e = .returned (.string ⟨(textJ L L.length).toArray⟩) ∧ Below w.heap.size w w' := by
  obtain ⟨a, c, rfl, hv⟩ := h
  have HT : Hid (TSl w (.slice a L.length c) L) := Lib.hid ⟨a, c, rfl, hv⟩
  have HF := Lib.hid hf
  have HZ := Lib.hid hT
  have HZB : Hid (6 < w.heap.size) := Lib.hid (World.block_lt_of_cell? w _ hT)
  obtain ⟨X, HR⟩ : ∃ X, Hid (textJ L L.length = X) := ⟨_, Lib.hid rfl⟩
  rw [HR.out]
  clear hv hf hT
  go_enter Tryd.func7, Tryd.ntmps7
  go_wp2_with fail
  go_loopw [10] (fun i wr => ∃ k : Nat, i = .int .i64 k ∧ k ≤ L.length ∧ Hid (Below w.heap.size w wr)) (fun i _ => L.length - (intOf i).toNat)
  case atStart => exact ⟨0, rfl, by omega, Lib.hid (Below.refl _ _)⟩
  case round =>
    obtain ⟨k, rfl, hk, HB⟩ := hrel
    obtain ⟨w1, rfl⟩ : ∃ y : World, y = wr := ⟨_, rfl⟩
    by_cases hlt : k < L.length
    · obtain ⟨b, off, rfl, hcell⟩ := HT.out.at k hlt
      obtain ⟨t, ht⟩ : ∃ t, L[k] = t := ⟨_, rfl⟩
      have hff := HF.out _ (List.getElem_mem hlt)
      rw [ht] at hff hcell
      obtain ⟨c0, c1, c2, c3⟩ := hcell.below HB.out
      have KV := Lib.hid (fun w => tvalid_any t w hff.2.2.2)
      rw [hff.1] at KV
      clear hff hcell ht
      obtain ⟨tk, tn, ts, td⟩ := t
      unfold TokI.val at KV
      simp only [tokV] at KV c0 c1 c2 c3
      go_wp2_with fail
      ((with_reducible refine (KV.out _).mono ?_))
      rintro e w2 ⟨rfl, hb⟩
      have HB2 := Lib.hid (bel_then (HB.out.alloc HB.out.size _) (Nat.le_refl _) hb)
      clear hb HB
      go_wp2_with fail
      go_roundw
      case rel => exact ⟨k + 1, by go_num, by omega, HB2⟩
      case measure => simp [intOf]; omega
    · go_wp2_with fail
      have HBK := Lib.hid (BldK.fresh w1)
      have HB2 := Lib.hid (HB.out.alloc HB.out.size (.cells #[.pointer none, .slice none 0 0] 46))
      go_loopw [20] (fun i wr => ∃ k : Nat, i = .int .i64 k ∧ k ≤ L.length ∧ Hid (BldK wr w1.heap.size w1.heap.size (textJ L k)) ∧ Hid (Below w1.heap.size w1 wr)) (fun i _ => L.length - (intOf i).toNat)
      case atStart => exact ⟨0, rfl, by omega, HBK, Lib.hid ((Below.refl _ _).alloc (Nat.le_refl _) _)⟩
      case round =>
        clear HBK HB2
        obtain ⟨j, rfl, hj, HK, HW⟩ := hrel
        obtain ⟨w3, rfl⟩ : ∃ y : World, y = wr := ⟨_, rfl⟩
        by_cases hlj : j < L.length
        · obtain ⟨b, off, rfl, hcell⟩ := HT.out.at j hlj
          obtain ⟨t, ht⟩ : ∃ t, L[j] = t := ⟨_, rfl⟩
          have hff := HF.out _ (List.getElem_mem hlj)
          have hsucc := textJ_succ hlj
          rw [ht] at hff hcell hsucc
          have HS := Lib.hid hsucc
          obtain ⟨c0, c1, c2, c3⟩ := hcell.below (HB.out.trans (HW.out.mono HB.out.size))
          have HFF := Lib.hid hff
          clear hff hcell ht hsucc
          obtain ⟨tk, tn, ts, td⟩ := t
          simp only [tokV] at c0 c1 c2 c3
          have HTX := Lib.hid (textJ_len HF.out j hj)
          have HFX := Lib.hid (fine_len HFF.out)
          have HAB := Lib.hid (HW.out.alloc HW.out.size (tObj tk tn ts td))
          have HAK := Lib.hid (HK.out.alloc (tObj tk tn ts td))
          have HBN : Hid (w3.heap.size ≠ w1.heap.size) := Lib.hid (by have := HK.out.lt; omega)
          have HNL := Lib.hid (heap_alloc_new w3 (tObj tk tn ts td))
          have HTZ : Hid (∀ w', Below w1.heap.size w1 w' → Tz16 w') := Lib.hid (fun w' h => HZ.out.below (HB.out.trans (h.mono HB.out.size)) HZB.out)
          have HTOK : Hid (∀ w' l, BldK w' w1.heap.size w1.heap.size l → l.length ≤ 1000000000 → Below w1.heap.size w1 w' → Calls Tryd.prog 20 #[.pointer (some ⟨w1.heap.size, 0, none⟩), .agg #[.int .i64 tk, .int .u64 tn, .string ⟨ts.toArray⟩, .int .i64 td]] w' (WrPost w' w1.heap.size w1.heap.size (l ++ fmtT ⟨tk, tn, ts, td⟩))) := Lib.hid (fun w' l h1 h2 h3 => wtok_any _ _ l ⟨tk, tn, ts, td⟩ w' h1 h2 HFF.out.1 HFF.out.2.1.1 HFF.out.2.1.2 HFF.out.2.2.1 (HTZ.out _ h3))
          obtain ⟨F, hF⟩ : ∃ F, fmtT ⟨tk, tn, ts, td⟩ = F := ⟨_, rfl⟩
          rw [hF] at HS HFX HTOK
          obtain ⟨x, hx⟩ : ∃ x, textJ L j = x := ⟨_, rfl⟩
          rw [hx] at HS HTX HAK
          clear hF hx HFF HK HTZ
          by_cases h0 : 0 < j
          · have HS2 : Hid (textJ L (j + 1) = x ++ [32] ++ F) := Lib.hid (by rw [HS.out]; cases j with
              | zero => omega
              | succ j => rfl)
            clear HS
            go_wp2_with fail
            ((with_reducible refine (blk_lit w1.heap.size w1.heap.size x 32 32 rfl _ HAK.out (by have := HTX.out; omega)).mono ?_))
            rintro e w4 ⟨rfl, hb, hw, hkk⟩
            have HB4 := Lib.hid hb
            have HW4 := Lib.hid (HAB.out.trans hw)
            have HN4 := Lib.hid (hkk.blk HNL.out HBN.out (by decide))
            clear hb hw hkk HAK HAB HNL c0 c1 c2 c3
            obtain ⟨c0, c1, c2, c3⟩ := cells4 HN4.out
            go_wp2_with fail
            ((with_reducible refine (HTOK.out _ _ HB4.out (by rw [List.length_append]; have := HTX.out; simp; omega) HW4.out).mono ?_))
            rintro e w5 ⟨rfl, hb, hw, hkk⟩
            have HB5 := Lib.hid hb
            have HW5 := Lib.hid (HW4.out.trans hw)
            clear hb hw hkk HB4 HW4 c0 c1 c2 c3
            go_wp2_with fail
            go_roundw
            case rel => exact ⟨j + 1, by go_num, by omega, by rw [HS2.out]; exact HB5, HW5⟩
            case measure => simp [intOf]; omega
          · have hj0 : j = 0 := by omega
            have HS2 : Hid (textJ L (j + 1) = x ++ F) := Lib.hid (by rw [HS.out, hj0]; show x ++ [] ++ F = _; rw [List.append_nil])
            clear HS hj0
            go_wp2_with fail
            ((with_reducible refine (HTOK.out _ _ HAK.out (by have := HTX.out; omega) HAB.out).mono ?_))
            rintro e w5 ⟨rfl, hb, hw, hkk⟩
            have HB5 := Lib.hid hb
            have HW5 := Lib.hid (HAB.out.trans hw)
            clear hb hw hkk HAK HAB c0 c1 c2 c3
            go_wp2_with fail
            go_roundw
            case rel => exact ⟨j + 1, by go_num, by omega, by rw [HS2.out]; exact HB5, HW5⟩
            case measure => simp [intOf]; omega
        · have hjj : j = L.length := by omega
          rw [hjj, HR.out] at HK
          clear hjj
          go_wp2_with fail
          ((with_reducible refine (blk_string w1.heap.size w1.heap.size X _ HK.out).mono ?_))
          rintro e w4 ⟨rfl, hw⟩
          have HW4 := Lib.hid (HW.out.trans hw)
          clear hw
          go_wp2_with fail
          go_ret
          exact ⟨rfl, HB.out.trans (HW4.out.mono HB.out.size)⟩
end Go.Proofs.YtebmkalgdbkijaaDoor
