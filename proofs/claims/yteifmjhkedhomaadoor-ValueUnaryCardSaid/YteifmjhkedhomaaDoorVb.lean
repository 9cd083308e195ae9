/- integerBytes and little: the walks. -/
import Derived.Test.YteifmjhkedhomaaDoorVa
import Derived.Test.YteifmjhkedhomaaDoorMath
namespace Go.Proofs.YteifmjhkedhomaaDoor
open Go.RowKit
attribute [local go_sem] ByteArray.mk_append_mk bs_get bs_cut bs_end

/-- 'string([]byte{x})' -/
theorem conv1 (w : World) (x : Int) : Sem.run Tryd.prog (convert 58 9 (.slice (some ⟨w.heap.size, 0, none⟩) 1 1)) (w.alloc (.cells #[.int .u8 x] 5)) = .ok (.string ⟨[UInt8.ofNat x.toNat].toArray⟩) (w.alloc (.cells #[.int .u8 x] 5)) := by
  rw [run_convert_bytes_string _ 58 9 5 _ _ _ Tryd.underlying58 Tryd.underlying5 Tryd.underlying9]
  rw [run_bytesToString _ _ 1 1 [x] (by simp [loadCells, go_sem])]
  rfl
/-- 'string([]byte{x, y})' -/
theorem conv2 (w : World) (x y : Int) : Sem.run Tryd.prog (convert 58 9 (.slice (some ⟨w.heap.size, 0, none⟩) 2 2)) (w.alloc (.cells #[.int .u8 x, .int .u8 y] 5)) = .ok (.string ⟨[UInt8.ofNat x.toNat, UInt8.ofNat y.toNat].toArray⟩) (w.alloc (.cells #[.int .u8 x, .int .u8 y] 5)) := by
  rw [run_convert_bytes_string _ 58 9 5 _ _ _ Tryd.underlying58 Tryd.underlying5 Tryd.underlying9]
  rw [run_bytesToString _ _ 2 2 [x, y] (by simp [loadCells, go_sem])]
  rfl
theorem infoU8 : (Tryd.prog.info? 5).map (fun i => (i.zero, i.size, i.bytes)) = some (some (.int .u8 0), 1, 1) := by kernel_rfl
/-- Bytes as they lie in cells. -/
def bytesV (l : List UInt8) : List Value := l.map fun b => .int .u8 b.toNat
/-- 'string(b)' of a slice of bytes whose cells are known. -/
theorem conv_row (w : World) (a : Addr) (n c : Nat) (l : List UInt8) (hn : l.length = n) (h : ∀ j v, (bytesV l)[j]? = some v → w.cell? (a.add j) = some v) :
    Sem.run Tryd.prog (convert 58 9 (.slice (some a) n c)) w = .ok (.string ⟨l.toArray⟩) w := by
  rw [run_convert_bytes_string _ 58 9 5 _ _ _ Tryd.underlying58 Tryd.underlying5 Tryd.underlying9]
  have hl := run_loadCells_list (P := Tryd.prog) w a ((l.map (fun b => (b.toNat : Int))).map (Value.int .u8)) (by
    intro j v hj; apply h; simpa [bytesV, List.map_map] using hj)
  rw [List.length_map, List.length_map, hn] at hl
  rw [run_bytesToString _ _ n c _ hl]
  have key : ∀ (l : List UInt8) (r : ByteArray), (l.map (fun b => (b.toNat : Int))).foldl (fun r n => r.push (UInt8.ofNat n.toNat)) r = r ++ ⟨l.toArray⟩ := by
    intro l
    induction l with
    | nil => intro r; simp; apply ByteArray.ext; simp [ByteArray.data_append]
    | cons x l ih =>
      intro r
      simp only [List.map_cons, List.foldl_cons, ih]
      apply ByteArray.ext
      simp [ByteArray.data_append, ByteArray.data_push]
  rw [key]
  congr 2
theorem set_at (A : List Value) (k : Nat) (z u : Value) (m : Nat) (h : A.length = k) : (A ++ List.replicate (m + 1) z).set k u = (A ++ [u]) ++ List.replicate m z := by
  subst h
  rw [List.set_append_right _ _ (Nat.le_refl _), Nat.sub_self, List.replicate_succ, List.set_cons_zero, List.append_assoc]; rfl

set_option maxHeartbeats 400000 in
theorem intBytes_n (v : Nat) (w : World) :
    Calls Tryd.prog 38 #[.int .u64 v] w fun e w' => e = .returned (.string ⟨(little v 8).toArray⟩) ∧ Below w.heap.size w w' := by
  have hmk : ∀ wx, (Instr.makeSlice 58 (.int .i64 8) (.int .i64 8)).run Tryd.prog wx = .ok (.slice (some ⟨wx.heap.size, 0, none⟩) 8 8) (wx.alloc (.cells #[.int .u8 0, .int .u8 0, .int .u8 0, .int .u8 0, .int .u8 0, .int .u8 0, .int .u8 0, .int .u8 0] 5)) := fun _ => by kernel_rfl
  go_enter Tryd.func38, Tryd.ntmps38
  go_wp2_with fail
  go_loopw [8] (fun i wr => ∃ k : Nat, k ≤ 8 ∧ i = .int .i64 k ∧ wr.ownsRow w.heap.size 5 1 (.slice (some ⟨w.heap.size, 0, none⟩) 8 8) 8 (bytesV (little v k) ++ List.replicate (8 - k) (.int .u8 0)) ∧ Below w.heap.size w wr) (fun i _ => 8 - (intOf i).toNat)
  case atStart =>
    refine ⟨0, Nat.zero_le _, rfl, ⟨rfl, .inr ⟨w.heap.size, 8, _, rfl, Nat.le_refl _, heap_alloc_new w _, by omega, by unfold maxLen; omega, rfl, rfl⟩⟩, (Below.refl _ _).alloc (Nat.le_refl _) _⟩
  case round =>
    obtain ⟨k, hk, rfl, ho, hb⟩ := hrel
    clear hmk
    have HO := Lib.hid ho
    by_cases hlt : k < 8
    · have hcell : wr.cell? ⟨w.heap.size, k, none⟩ = some (.int .u8 0) := by
        rw [ho.cellAt k (by omega), List.getElem?_append_right (by simp [bytesV, little_length])]
        simp only [bytesV, List.length_map, little_length, Nat.sub_self]
        rw [show 8 - k = (8 - k - 1) + 1 by omega, List.replicate_succ]; rfl
      have hfz := ho.frozenAt k
      have HS : Hid (∀ u : Value, u = .int .u8 ((v : Int) / 2 ^ (8 * k) % 256) → (bytesV (little v k) ++ List.replicate (8 - k) (Value.int .u8 0)).set k u = bytesV (little v (k + 1)) ++ List.replicate (8 - (k + 1)) (Value.int .u8 0)) := by
        intro u hu
        rw [show 8 - k = (8 - (k + 1)) + 1 by omega, set_at _ k _ _ _ (by simp [bytesV, little_length])]
        rw [little_snoc, bytesV, bytesV, List.map_append, hu]
        have e : ((v : Int) / 2 ^ (8 * k) % 256) = ((UInt8.ofNat (v / 256 ^ k % 256)).toNat : Nat) := by
          rw [UInt8.toNat_ofNat', Nat.mod_eq_of_lt (by omega), pow256, Int.natCast_emod, Int.natCast_ediv, Int.natCast_pow]; rfl
        rw [e]; rfl
      clear ho
      go_wp2_with fail
      go_roundw
      case rel =>
        have h1 := HO.out.stored k (Value.int IntKind.u8 ((v : Int) / 2 ^ (8 * k) % 256))
        rw [HS.out _ rfl] at h1
        exact ⟨k + 1, by omega, by go_num, h1.1, hb.setCell (Nat.le_refl _) _⟩
      case measure => simp [intOf]; omega
    · clear ho
      obtain rfl : k = 8 := by omega
      have hcv := conv_row wr ⟨w.heap.size, 0, none⟩ 8 8 (little v 8) (little_length v 8) (by
        intro j u hj
        have hlt : j < 8 := by
          have := (List.getElem?_eq_some_iff.1 hj).1
          simpa [bytesV, little_length] using this
        have h1 := HO.out.cellAt j (by omega)
        rw [List.getElem?_append_left (by simpa [bytesV, little_length] using hlt), hj] at h1
        by_cases h0 : j = 0
        · subst h0; simpa [Addr.add] using h1
        · simpa [Addr.add, h0] using h1)
      go_wp2_with fail
      go_ret
      exact ⟨rfl, hb⟩
attribute [local go_sem] conv1 conv2
set_option maxHeartbeats 400000 in
theorem rlittle_n (v : Nat) (w : World) :
    Calls Tryd.prog 75 #[.int .u64 v] w fun e w' => e = .returned (.string ⟨(little v 8).toArray⟩) ∧ Below w.heap.size w w' := by
  go_enter Tryd.func75, Tryd.ntmps75
  go_wp2_with fail
  go_loopw [3, 4] (fun s i wr => ∃ (k : Nat) (l : List UInt8), k ≤ 8 ∧ i = .int .i64 k ∧ s = .string ⟨l.toArray⟩ ∧ l.length ≤ 8 ∧ Hid (l = little v k) ∧ Hid (Below w.heap.size w wr)) (fun _ i _ => 8 - (intOf i).toNat)
  case atStart => exact ⟨0, [], by omega, rfl, rfl, by simp, Lib.hid rfl, Lib.hid (Below.refl _ _)⟩
  case round =>
    obtain ⟨k, l, hk, rfl, rfl, hl, HL, HB⟩ := hrel
    by_cases hlt : k < 8
    · have HE : Hid (UInt8.ofNat ((v : Int) / 2 ^ (8 * k) % 256).toNat = UInt8.ofNat (v / 256 ^ k % 256)) := Lib.hid (by
        congr 1
        have e : ((v : Int) / 2 ^ (8 * k) % 256) = ((v / 256 ^ k % 256 : Nat) : Int) := by
          rw [pow256, Int.natCast_emod, Int.natCast_ediv, Int.natCast_pow]; rfl
        rw [e]; rfl)
      have hlk : l.length = k := by rw [HL.out, little_length]
      have hlk8 : l.length + 1 ≤ 8 := by omega
      clear hlk
      go_wp2_with fail
      go_roundw
      case rel => exact ⟨k + 1, l ++ [UInt8.ofNat ((v : Int) / 2 ^ (8 * k) % 256).toNat], by omega, by go_num, rfl, by rw [List.length_append]; exact hlk8, Lib.hid (by rw [HE.out, little_snoc, HL.out]), Lib.hid (HB.out.alloc HB.out.size _)⟩
      case measure => simp [intOf]; omega
    · obtain rfl : k = 8 := by omega
      go_wp2_with fail
      go_ret
      exact ⟨by rw [← HL.out]; rfl, HB.out⟩
theorem intBytes_any (x : Int) (w : World) (hx : 0 ≤ x) : Calls Tryd.prog 38 #[.int .u64 x] w fun e w' => ∃ l : List UInt8, Hid (l = little x.toNat 8) ∧ l.length = 8 ∧ e = .returned (.string ⟨l.toArray⟩) ∧ Below w.heap.size w w' := by
  obtain ⟨v, rfl⟩ := Int.eq_ofNat_of_zero_le hx
  exact (intBytes_n v w).mono fun _ _ ⟨he, hb⟩ => ⟨_, Lib.hid rfl, little_length _ _, he, hb⟩
theorem rlittle_any (x : Int) (w : World) (hx : 0 ≤ x) : Calls Tryd.prog 75 #[.int .u64 x] w fun e w' => ∃ l : List UInt8, Hid (l = little x.toNat 8) ∧ l.length = 8 ∧ e = .returned (.string ⟨l.toArray⟩) ∧ Below w.heap.size w w' := by
  obtain ⟨v, rfl⟩ := Int.eq_ofNat_of_zero_le hx
  exact (rlittle_n v w).mono fun _ _ ⟨he, hb⟩ => ⟨_, Lib.hid rfl, little_length _ _, he, hb⟩
end Go.Proofs.YteifmjhkedhomaaDoor
