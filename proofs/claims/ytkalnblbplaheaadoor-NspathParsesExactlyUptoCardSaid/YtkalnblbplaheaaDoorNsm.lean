/- seg: the walk. -/
import Derived.Test.YtkalnblbplaheaaDoorNsb
namespace Go.Proofs.YtkalnblbplaheaaDoor
open Go.RowKit
set_option linter.unusedVariables false
set_option linter.unusedSimpArgs false
attribute [local go_sem] ByteArray.mk_append_mk bs_get bs_cut bs_end

def segT (s : List UInt8) : List (List UInt8) := [[65], [95, 83, 66], [69, 67, 48], [65, 66, 67, 68], [65, 49], [95], [80, 67, 73, 48], [65, 66, 67, 68, 69], [97], [49, 65], [], s]
def segN (s : List UInt8) : Nat := (s.length + (match s with | [] => 0 | c :: _ => c.toNat)) % 12
theorem segN_lt (s : List UInt8) : segN s < (segT s).length := Nat.mod_lt _ (by decide)
def segV (s : List UInt8) : List UInt8 := (segT s)[segN s]'(segN_lt s)
theorem seg_cell (w : World) (s : List UInt8) (k : Nat) (hk : k < (segT s).length) : (w.alloc (.cells ((segT s).map strV).toArray 9)).cell? ⟨w.heap.size, k, none⟩ = some (strV (segT s)[k]) := by
  rw [cell_of_row _ _ k _ 9 (0, 0) (heap_alloc_new _ _)]
  simp [hk]
theorem segV_len (s : List UInt8) : (segV s).length ≤ s.length + 5 := by
  unfold segV
  have h : ∀ x ∈ segT s, x.length ≤ s.length + 5 := by
    intro x hx
    simp only [segT, List.mem_cons, List.not_mem_nil, or_false] at hx
    rcases hx with rfl | rfl | rfl | rfl | rfl | rfl | rfl | rfl | rfl | rfl | rfl | rfl <;> simp <;> omega
  exact h _ (List.getElem_mem _)
theorem seg_pick (s : List UInt8) (k : Nat) (h : k < 12) (hk : k = segN s) : ([.string ⟨#[65]⟩, .string ⟨#[95, 83, 66]⟩, .string ⟨#[69, 67, 48]⟩, .string ⟨#[65, 66, 67, 68]⟩, .string ⟨#[65, 49]⟩, .string ⟨#[95]⟩, .string ⟨#[80, 67, 73, 48]⟩, .string ⟨#[65, 66, 67, 68, 69]⟩, .string ⟨#[97]⟩, .string ⟨#[49, 65]⟩, .string ⟨#[]⟩, .string ⟨s.toArray⟩] : List Value)[k]'h = strV (segV s) := by
  subst hk
  have e : ((segT s).map strV)[segN s]'(by simpa using segN_lt s) = strV (segV s) := by rw [List.getElem_map]; rfl
  exact e
theorem seg_num (c : UInt8) (r : List UInt8) (hs : (c :: r).length ≤ 9223372036854775000) : (wrap64 ((r.length : Int) + 1 + wrap64 (c.toNat : Int))).tmod 12 = ((segN (c :: r) : Nat) : Int) := by
  have h0 : c.toNat < 256 := c.toNat_lt
  rw [List.length_cons] at hs
  rw [IntWalk.wrap64_in (c.toNat : Int) ⟨by omega, by omega⟩, IntWalk.wrap64_in _ ⟨by omega, by omega⟩]
  unfold segN
  simp only [List.length_cons]
  rw [Int.tmod_eq_emod_of_nonneg (by omega)]
  omega
theorem segV_nil : segV [] = [65] := rfl
set_option maxHeartbeats 1000000 in
theorem seg_nil (w : World) : Calls Tryd.prog 26 #[.string ⟨#[]⟩] w fun e w' => e = .returned (strV (segV [])) ∧ Below w.heap.size w w' := by
  have HB : Hid (∀ o, Below w.heap.size w (w.alloc o)) := Lib.hid (fun o => (Below.refl _ _).alloc (Nat.le_refl _) _)
  rw [segV_nil]
  go_enter Tryd.func26, Tryd.ntmps26
  go_wp2_with fail
  go_ret
  exact ⟨rfl, HB.out _⟩
set_option maxHeartbeats 1000000 in
theorem seg_cons (c : UInt8) (r : List UInt8) (w : World) (hs : (c :: r).length ≤ 9223372036854775000) : Calls Tryd.prog 26 #[.string ⟨(c :: r).toArray⟩] w fun e w' => e = .returned (strV (segV (c :: r))) ∧ Below w.heap.size w w' := by
  have HB : Hid (∀ o, Below w.heap.size w (w.alloc o)) := Lib.hid (fun o => (Below.refl _ _).alloc (Nat.le_refl _) _)
  have HK := Lib.hid (seg_num c r hs)
  have HL : Hid (segN (c :: r) < 12) := Lib.hid (segN_lt (c :: r))
  have HC : Hid ((w.alloc (.cells ((segT (c :: r)).map strV).toArray 9)).cell? ⟨w.heap.size, segN (c :: r), none⟩ = some (strV (segV (c :: r)))) := Lib.hid (seg_cell w (c :: r) _ (segN_lt (c :: r)))
  obtain ⟨V, hV⟩ : ∃ V, Hid (segV (c :: r) = V) := ⟨_, Lib.hid rfl⟩
  rw [hV.out] at HC ⊢
  obtain ⟨K, hK⟩ : ∃ K, Hid (segN (c :: r) = K) := ⟨_, Lib.hid rfl⟩
  rw [hK.out] at HK HL HC
  unfold segT at HC
  simp only [List.map_cons, List.map_nil, strV] at HC
  have HS : Hid ((c :: r).length ≤ 9223372036854775000) := Lib.hid hs
  have hs1 : (r.length : Int) + 1 ≤ 9223372036854775000 := by rw [List.length_cons] at hs; omega
  clear hs
  go_enter Tryd.func26, Tryd.ntmps26
  go_upto_region 4 with fail
  generalize (wrap64 ((r.length : Int) + 1 + wrap64 (c.toNat : Int))) = N at *
  have hk := HK.out
  have hl := HL.out
  have hc := HC.out
  have hl2 : (0 : Int) ≤ (K : Int) ∧ (K : Int) < 12 := ⟨by omega, by omega⟩
  clear HK hV hK HS
  go_wp2_with fail
  go_ret
  exact ⟨rfl, HB.out _⟩
theorem seg_any (s : List UInt8) (w : World) (hs : s.length ≤ 9223372036854775000) : Calls Tryd.prog 26 #[.string ⟨s.toArray⟩] w fun e w' => e = .returned (strV (segV s)) ∧ Below w.heap.size w w' := by
  cases s with
  | nil => exact seg_nil w
  | cons c r => exact seg_cons c r w hs
end Go.Proofs.YtkalnblbplaheaaDoor
