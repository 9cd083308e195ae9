/- The walks of the smallest functions of the layer 'bytecode' and of its reference: the numbers that bytes denote and the bytes of a number. -/
import Derived.Test.YtihfhkpglfobfaaProg
import Derived.Test.YtihfhkpglfobfaaMath
import Derived.WalkKit
import Derived.WalkLawsBesides
import Derived.WalkSpells
import Derived.Lib.Hide
namespace Go.Proofs.Ytihfhkpglfobfaa
open Go.RowKit

/-- 'string([]byte{x})' -/
theorem conv1 (w : World) (x : Int) : Sem.run Try.prog (convert 35 9 (.slice (some ⟨w.heap.size, 0, none⟩) 1 1)) (w.alloc (.cells #[.int .u8 x] 5)) = .ok (.string ⟨[UInt8.ofNat x.toNat].toArray⟩) (w.alloc (.cells #[.int .u8 x] 5)) := by
  rw [run_convert_bytes_string _ 35 9 5 _ _ _ Try.underlying35 Try.underlying5 Try.underlying9]
  rw [run_bytesToString _ _ 1 1 [x] (by simp [loadCells, go_sem])]
  rfl
/-- 'string([]byte{x, y})' -/
theorem conv2 (w : World) (x y : Int) : Sem.run Try.prog (convert 35 9 (.slice (some ⟨w.heap.size, 0, none⟩) 2 2)) (w.alloc (.cells #[.int .u8 x, .int .u8 y] 5)) = .ok (.string ⟨[UInt8.ofNat x.toNat, UInt8.ofNat y.toNat].toArray⟩) (w.alloc (.cells #[.int .u8 x, .int .u8 y] 5)) := by
  rw [run_convert_bytes_string _ 35 9 5 _ _ _ Try.underlying35 Try.underlying5 Try.underlying9]
  rw [run_bytesToString _ _ 2 2 [x, y] (by simp [loadCells, go_sem])]
  rfl

theorem take_snoc (s : List UInt8) (k : Nat) (h : k < s.length) : s.take (k + 1) = s.take k ++ [s[k]] := by
  rw [List.take_succ_eq_append_getElem h]

theorem ret_val {a b : Value} (h : a = b) : Ending.returned a = .returned b := by rw [h]

set_option maxHeartbeats 400000 in
theorem number_any (s : List UInt8) (w : World) (hs : s.length ≤ 8) :
    Calls Try.prog 32 #[.string ⟨s.toArray⟩] w fun e w' => e = .returned (.int .u64 (num s)) ∧ w = w' := by
  go_enter Try.func32, Try.ntmps32
  go_wp2
  go_loop [3, 7] (fun n i => ∃ k : Nat, k ≤ s.length ∧ i = .int .i64 k ∧ n = .int .u64 (num (s.take k))) (fun _ i => s.length - (intOf i).toNat)
  case atStart => exact ⟨0, Nat.zero_le _, rfl, rfl⟩
  case round =>
    obtain ⟨k, hk, rfl, rfl⟩ := hrel
    by_cases hlt : k < s.length
    · have HS : Hid (bits .or .u64 (num (s.take k) : Int) (IntKind.u64.wrap (IntKind.u64.wrap (s[k].toNat : Int) * 2 ^ (8 * k))) = (num (s.take (k + 1)) : Nat)) := by
        have h := or_step (s.take k) s[k] (by rw [List.length_take]; omega)
        rw [List.length_take, Nat.min_eq_left (by omega)] at h
        rw [take_snoc s k hlt]; exact h
      go_wp2
      go_round
      case rel => exact ⟨k + 1, by omega, by go_num, by exact congrArg (Value.int .u64) HS.out⟩
      case measure => simp [intOf]; omega
    · go_wp2
      go_ret
      have e : s.take k = s := List.take_of_length_le (by omega)
      exact ⟨ret_val (congrArg (fun x : List UInt8 => Value.int .u64 (num x)) e), rfl⟩

set_option maxHeartbeats 400000 in
theorem rnumber_any (s : List UInt8) (w : World) (hs : s.length ≤ 8) :
    Calls Try.prog 34 #[.string ⟨s.toArray⟩] w fun e w' => e = .returned (.int .u64 (num s)) ∧ w = w' := by
  go_enter Try.func34, Try.ntmps34
  go_wp2
  go_loop [3, 4] (fun n i => ∃ k : Nat, k ≤ s.length ∧ i = .int .i64 ((k : Int) - 1) ∧ n = .int .u64 (num (s.drop k))) (fun _ i => (intOf i + 1).toNat)
  case atStart => exact ⟨s.length, Nat.le_refl _, rfl, by simp [num]⟩
  case round =>
    obtain ⟨k, hk, rfl, rfl⟩ := hrel
    by_cases hlt : 0 < k
    · obtain ⟨j, rfl⟩ : ∃ j, k = j + 1 := ⟨k - 1, by omega⟩
      have hj : j < s.length := by omega
      have HS : Hid (bits .or .u64 (IntKind.u64.wrap ((num (s.drop (j + 1)) : Int) * 256)) (IntKind.u64.wrap (s[j].toNat : Int)) = (num (s.drop j) : Nat)) := by
        have h := or_step_back s[j] (s.drop (j + 1)) (by simp; omega)
        rw [List.drop_eq_getElem_cons hj]; exact h
      go_wp2
      go_round
      case rel => exact ⟨j, by omega, rfl, by exact congrArg (Value.int .u64) HS.out⟩
      case measure => simp [intOf]
    · obtain rfl : k = 0 := by omega
      go_wp2
      go_ret
      exact ⟨rfl, rfl⟩

attribute [local go_sem] conv1 conv2 ByteArray.mk_append_mk

theorem byte_of (v : Nat) : UInt8.ofNat ((v : Int) % 256).toNat = UInt8.ofNat (v % 256) := by
  congr 1

set_option maxHeartbeats 400000 in
theorem little_any (v n : Nat) (w : World) (hn : n ≤ 8) :
    Calls Try.prog 33 #[.int .u64 v, .int .i64 n] w fun e w' => e = .returned (.string ⟨(little v n).toArray⟩) ∧ Below w.heap.size w w' := by
  go_enter Try.func33, Try.ntmps33
  go_wp2
  go_loopw [0, 5, 6] (fun x s i wr => ∃ k : Nat, ∃ y : Nat, ∃ l : List UInt8, k ≤ n ∧ i = .int .i64 k ∧ x = .int .u64 y ∧ s = .string ⟨l.toArray⟩ ∧ l.length = k ∧ l ++ little y (n - k) = little v n ∧ Below w.heap.size w wr) (fun _ _ i _ => n - (intOf i).toNat)
  case atStart => exact ⟨0, v, [], by omega, rfl, rfl, rfl, rfl, rfl, Below.refl _ _⟩
  case round =>
    obtain ⟨k, y, l, hk, rfl, rfl, rfl, hl, hr, hb⟩ := hrel
    have HL := Lib.hid hl
    have HR := Lib.hid hr
    have hl' : l.length ≤ n := by omega
    clear hl hr
    by_cases hlt : k < n
    · have HN : Hid ((l ++ [UInt8.ofNat (y % 256)]) ++ little (y / 256) (n - (k + 1)) = little v n) := by
        have e : n - k = (n - (k + 1)) + 1 := by omega
        have h := HR.out
        rw [e, little] at h
        rw [List.append_assoc]; exact h
      go_wp2
      go_roundw
      case rel => exact ⟨k + 1, y / 256, l ++ [UInt8.ofNat (y % 256)], by omega, by go_num, by go_num, rfl, by simp [HL.out], HN.out, hb.alloc (hb.size) _⟩
      case measure => simp [intOf]; omega
    · go_wp2
      go_ret
      obtain rfl : k = n := by omega
      have e : l = little v k := by have := HR.out; rw [Nat.sub_self, little, List.append_nil] at this; exact this
      exact ⟨ret_val (congrArg (fun x : List UInt8 => Value.string ⟨x.toArray⟩) e), hb⟩

theorem info5 : (Try.prog.info? 5).map (fun i => (i.zero, i.size, i.bytes)) = some (some (.int .u8 0), 1, 1) := by kernel_rfl

/-- Bytes as they lie in cells. -/
def bytesV (l : List UInt8) : List Value := l.map fun b => .int .u8 b.toNat

/-- 'string(b)' of a slice of bytes whose cells are known. -/
theorem conv_row (w : World) (a : Addr) (n c : Nat) (l : List UInt8) (hn : l.length = n) (h : ∀ j v, (bytesV l)[j]? = some v → w.cell? (a.add j) = some v) :
    Sem.run Try.prog (convert 35 9 (.slice (some a) n c)) w = .ok (.string ⟨l.toArray⟩) w := by
  rw [run_convert_bytes_string _ 35 9 5 _ _ _ Try.underlying35 Try.underlying5 Try.underlying9]
  have hl := run_loadCells_list (P := Try.prog) w a ((l.map (fun b => (b.toNat : Int))).map (Value.int .u8)) (by
    intro j v hj; apply h; simpa [bytesV, List.map_map] using hj)
  rw [List.length_map, List.length_map, hn] at hl
  rw [run_bytesToString _ _ n c _ hl]
  have key : ∀ (l : List UInt8) (r : ByteArray), (l.map (fun b => (b.toNat : Int))).foldl (fun r n => r.push (UInt8.ofNat n.toNat)) r = r ++ ⟨l.toArray⟩ := by
    intro l
    induction l with
    | nil => intro r; simp; apply ByteArray.ext; simp [ByteArray.data_append]
    | cons x l ih =>
      intro r
      simp only [List.map_cons, List.foldl_cons, ih]
      apply ByteArray.ext
      simp [ByteArray.data_append, ByteArray.data_push]
  rw [key]
  congr 2

theorem set_at (A : List Value) (k : Nat) (z u : Value) (m : Nat) (h : A.length = k) : (A ++ List.replicate (m + 1) z).set k u = (A ++ [u]) ++ List.replicate m z := by
  subst h
  rw [List.set_append_right _ _ (Nat.le_refl _), Nat.sub_self, List.replicate_succ, List.set_cons_zero, List.append_assoc]; rfl

set_option maxHeartbeats 400000 in
theorem appendNumber_any (b : List UInt8) (v n : Nat) (w : World) (hn : n ≤ 8) (hbl : b.length ≤ 9223372036854775000) :
    Calls Try.prog 31 #[.string ⟨b.toArray⟩, .int .u64 v, .int .i64 n] w fun e w' => e = .returned (.string ⟨(b ++ little v n).toArray⟩) ∧ Below w.heap.size w w' := by
  obtain ⟨i0, hi, hz0, hz1, hz2⟩ := info_parts info5
  go_enter Try.func31, Try.ntmps31
  go_wp2_with (at_make; refine wpList_make_full _ rfl _ _ 35 rfl w.heap.size 5 i0 (.int .u8 0) 1 Try.underlying35 hi hz0 hz1 .i64 .i64 _ _ n rfl rfl rfl rfl (by rw [hz2]; omega) (by unfold maxLen; omega) (Nat.le_refl _) ?_; intro w1 hown hgrow)
  go_loopw [12] (fun i wr => ∃ k : Nat, k ≤ n ∧ i = .int .i64 k ∧ wr.ownsRow w.heap.size 5 1 (.slice (some ⟨w.heap.size, 0, none⟩) n n) n (bytesV (little v k) ++ List.replicate (n - k) (.int .u8 0)) ∧ Below w.heap.size w wr) (fun i _ => n - (intOf i).toNat)
  case atStart => 
    refine ⟨0, Nat.zero_le _, rfl, ?_, (Below.refl _ _).grown hgrow (Nat.le_refl _) (fun _ h => by cases h)⟩
    have e : (madeCells (Value.int IntKind.u8 0).cells (n * 1)).toList = List.replicate n (.int .u8 0) := by
      rw [Nat.mul_one]; exact toList_madeCells_one _ _
    rw [e] at hown; exact hown
  case round =>
    obtain ⟨k, hk, rfl, ho, hb⟩ := hrel
    clear hown hgrow
    have HO := Lib.hid ho
    by_cases hlt : k < n
    · have hcell : wr.cell? ⟨w.heap.size, k, none⟩ = some (.int .u8 0) := by
        rw [ho.cellAt k (by omega), List.getElem?_append_right (by simp [bytesV, little_length])]
        simp only [bytesV, List.length_map, little_length, Nat.sub_self]
        rw [show n - k = (n - k - 1) + 1 by omega, List.replicate_succ]; rfl
      have hfz := ho.frozenAt k
      have HS : Hid (∀ u : Value, u = .int .u8 ((v : Int) / 2 ^ (8 * k) % 256) → (bytesV (little v k) ++ List.replicate (n - k) (Value.int .u8 0)).set k u = bytesV (little v (k + 1)) ++ List.replicate (n - (k + 1)) (Value.int .u8 0)) := by
        intro u hu
        rw [show n - k = (n - (k + 1)) + 1 by omega, set_at _ k _ _ _ (by simp [bytesV, little_length])]
        rw [little_snoc, bytesV, bytesV, List.map_append, hu]
        have e : ((v : Int) / 2 ^ (8 * k) % 256) = ((UInt8.ofNat (v / 256 ^ k % 256)).toNat : Nat) := by
          rw [UInt8.toNat_ofNat', Nat.mod_eq_of_lt (by omega), pow256, Int.natCast_emod, Int.natCast_ediv, Int.natCast_pow]; rfl
        rw [e]; rfl
      clear ho
      go_wp2
      go_roundw
      case rel =>
        have h1 := HO.out.stored k (Value.int IntKind.u8 ((v : Int) / 2 ^ (8 * k) % 256))
        rw [HS.out _ rfl] at h1
        exact ⟨k + 1, by omega, by go_num, h1.1, hb.setCell (Nat.le_refl _) _⟩
      case measure => simp [intOf]; omega
    · clear ho
      obtain rfl : k = n := by omega
      have hcv := conv_row wr ⟨w.heap.size, 0, none⟩ k k (little v k) (little_length v k) (by
        intro j u hj
        have hlt : j < k := by
          have := (List.getElem?_eq_some_iff.1 hj).1
          simpa [bytesV, little_length] using this
        have h1 := HO.out.cellAt j (by omega)
        rw [List.getElem?_append_left (by simpa [bytesV, little_length] using hlt), hj] at h1
        by_cases h0 : j = 0
        · subst h0; simpa [Addr.add] using h1
        · simpa [Addr.add, h0] using h1)
      have hll : (little v k).length ≤ 8 := by rw [little_length]; exact hn
      go_wp2
      go_ret
      exact ⟨rfl, hb⟩
end Go.Proofs.Ytihfhkpglfobfaa
