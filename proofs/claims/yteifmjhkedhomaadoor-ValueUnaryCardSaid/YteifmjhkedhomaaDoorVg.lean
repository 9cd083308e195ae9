/- arithmetic, of the layer and of its reference: the walks. -/
import Derived.Test.YteifmjhkedhomaaDoorVf
namespace Go.Proofs.YteifmjhkedhomaaDoor
open Go.RowKit
set_option linter.unusedVariables false
attribute [local go_sem] ByteArray.mk_append_mk bs_get bs_cut bs_end conv1 conv2

theorem shl_far (x y : Int) (yk : IntKind) (h : 64 ≤ y) : Op.shift .shl .u64 x yk y = pure (.int .u64 0) := by
  unfold Op.shift
  rw [if_neg (by omega)]
  have hm : min y.toNat IntKind.u64.bits = 64 := by
    have : IntKind.u64.bits = 64 := rfl
    rw [this]; omega
  simp only [hm]
  have hw : IntKind.u64.wrap (x * 2 ^ 64) = 0 := by
    unfold IntKind.wrap
    simp [IntKind.signed, IntKind.bits]
  rw [hw]
theorem shr_far (x y : Int) (yk : IntKind) (h : 64 ≤ y) (hx : 0 ≤ x) (hx2 : x < 2 ^ 64) : Op.shift .shr .u64 x yk y = pure (.int .u64 0) := by
  unfold Op.shift
  rw [if_neg (by omega)]
  have hm : min y.toNat IntKind.u64.bits = 64 := by
    have : IntKind.u64.bits = 64 := rfl
    rw [this]; omega
  simp only [hm]
  have hw : x.fdiv (2 ^ 64) = 0 := by rw [Int.fdiv_eq_ediv_of_nonneg _ (by decide)]; exact Int.ediv_eq_zero_of_lt hx hx2
  rw [hw]
theorem ar_60 (x y : Int) (w : World) (hx : 0 ≤ x) (hx2 : x ≤ 18446744073709551615) (hy : 0 ≤ y) (hy2 : y ≤ 18446744073709551615)  : Calls Tryd.prog 41 #[.int .i64 60, .int .u64 x, .int .u64 y] w fun e w' => e = .returned (.tuple #[valV 1 (IntKind.u64.wrap (x + y)) [] 0, .int .i64 0]) ∧ Below w.heap.size w w' := by
  go_enter Tryd.func41, Tryd.ntmps41
  go_wp2_with fail
  exact bodyPost_ret (v := .tuple #[valV 1 (IntKind.u64.wrap (x + y)) [] 0, .int .i64 0]) (by simp [results, Tryd.results41, go_sem]) rfl ⟨rfl, (Below.refl _ _).alloc (Nat.le_refl _) _⟩
theorem ar_61 (x y : Int) (w : World) (hx : 0 ≤ x) (hx2 : x ≤ 18446744073709551615) (hy : 0 ≤ y) (hy2 : y ≤ 18446744073709551615)  : Calls Tryd.prog 41 #[.int .i64 61, .int .u64 x, .int .u64 y] w fun e w' => e = .returned (.tuple #[valV 1 (IntKind.u64.wrap (x - y)) [] 0, .int .i64 0]) ∧ Below w.heap.size w w' := by
  go_enter Tryd.func41, Tryd.ntmps41
  go_wp2_with fail
  exact bodyPost_ret (v := .tuple #[valV 1 (IntKind.u64.wrap (x - y)) [] 0, .int .i64 0]) (by simp [results, Tryd.results41, go_sem]) rfl ⟨rfl, (Below.refl _ _).alloc (Nat.le_refl _) _⟩
theorem ar_62 (x y : Int) (w : World) (hx : 0 ≤ x) (hx2 : x ≤ 18446744073709551615) (hy : 0 ≤ y) (hy2 : y ≤ 18446744073709551615)  : Calls Tryd.prog 41 #[.int .i64 62, .int .u64 x, .int .u64 y] w fun e w' => e = .returned (.tuple #[valV 1 (IntKind.u64.wrap (x * y)) [] 0, .int .i64 0]) ∧ Below w.heap.size w w' := by
  go_enter Tryd.func41, Tryd.ntmps41
  go_wp2_with fail
  exact bodyPost_ret (v := .tuple #[valV 1 (IntKind.u64.wrap (x * y)) [] 0, .int .i64 0]) (by simp [results, Tryd.results41, go_sem]) rfl ⟨rfl, (Below.refl _ _).alloc (Nat.le_refl _) _⟩
theorem ar_63 (x y : Int) (w : World) (hx : 0 ≤ x) (hx2 : x ≤ 18446744073709551615) (hy : 0 ≤ y) (hy2 : y ≤ 18446744073709551615) (h : 1 ≤ y) : Calls Tryd.prog 41 #[.int .i64 63, .int .u64 x, .int .u64 y] w fun e w' => e = .returned (.tuple #[valV 1 (x / y) [] 0, .int .i64 0]) ∧ Below w.heap.size w w' := by
  go_enter Tryd.func41, Tryd.ntmps41
  go_wp2_with fail
  exact bodyPost_ret (v := .tuple #[valV 1 (x / y) [] 0, .int .i64 0]) (by simp [results, Tryd.results41, go_sem]) rfl ⟨rfl, (Below.refl _ _).alloc (Nat.le_refl _) _⟩
theorem ar_64 (x y : Int) (w : World) (hx : 0 ≤ x) (hx2 : x ≤ 18446744073709551615) (hy : 0 ≤ y) (hy2 : y ≤ 18446744073709551615) (h : 1 ≤ y) : Calls Tryd.prog 41 #[.int .i64 64, .int .u64 x, .int .u64 y] w fun e w' => e = .returned (.tuple #[valV 1 (x % y) [] 0, .int .i64 0]) ∧ Below w.heap.size w w' := by
  go_enter Tryd.func41, Tryd.ntmps41
  go_wp2_with fail
  exact bodyPost_ret (v := .tuple #[valV 1 (x % y) [] 0, .int .i64 0]) (by simp [results, Tryd.results41, go_sem]) rfl ⟨rfl, (Below.refl _ _).alloc (Nat.le_refl _) _⟩
theorem ar_65 (x y : Int) (w : World) (hx : 0 ≤ x) (hx2 : x ≤ 18446744073709551615) (hy : 0 ≤ y) (hy2 : y ≤ 18446744073709551615)  : Calls Tryd.prog 41 #[.int .i64 65, .int .u64 x, .int .u64 y] w fun e w' => e = .returned (.tuple #[valV 1 (bits .and .u64 x y) [] 0, .int .i64 0]) ∧ Below w.heap.size w w' := by
  go_enter Tryd.func41, Tryd.ntmps41
  go_wp2_with fail
  exact bodyPost_ret (v := .tuple #[valV 1 (bits .and .u64 x y) [] 0, .int .i64 0]) (by simp [results, Tryd.results41, go_sem]) rfl ⟨rfl, (Below.refl _ _).alloc (Nat.le_refl _) _⟩
theorem ar_66 (x y : Int) (w : World) (hx : 0 ≤ x) (hx2 : x ≤ 18446744073709551615) (hy : 0 ≤ y) (hy2 : y ≤ 18446744073709551615)  : Calls Tryd.prog 41 #[.int .i64 66, .int .u64 x, .int .u64 y] w fun e w' => e = .returned (.tuple #[valV 1 (bits .or .u64 x y) [] 0, .int .i64 0]) ∧ Below w.heap.size w w' := by
  go_enter Tryd.func41, Tryd.ntmps41
  go_wp2_with fail
  exact bodyPost_ret (v := .tuple #[valV 1 (bits .or .u64 x y) [] 0, .int .i64 0]) (by simp [results, Tryd.results41, go_sem]) rfl ⟨rfl, (Below.refl _ _).alloc (Nat.le_refl _) _⟩
theorem ar_67 (x y : Int) (w : World) (hx : 0 ≤ x) (hx2 : x ≤ 18446744073709551615) (hy : 0 ≤ y) (hy2 : y ≤ 18446744073709551615)  : Calls Tryd.prog 41 #[.int .i64 67, .int .u64 x, .int .u64 y] w fun e w' => e = .returned (.tuple #[valV 1 (bits .xor .u64 x y) [] 0, .int .i64 0]) ∧ Below w.heap.size w w' := by
  go_enter Tryd.func41, Tryd.ntmps41
  go_wp2_with fail
  exact bodyPost_ret (v := .tuple #[valV 1 (bits .xor .u64 x y) [] 0, .int .i64 0]) (by simp [results, Tryd.results41, go_sem]) rfl ⟨rfl, (Below.refl _ _).alloc (Nat.le_refl _) _⟩
theorem ar_68 (x y : Int) (w : World) (hx : 0 ≤ x) (hx2 : x ≤ 18446744073709551615) (hy : 0 ≤ y) (hy2 : y ≤ 18446744073709551615) (h : y < 64) : Calls Tryd.prog 41 #[.int .i64 68, .int .u64 x, .int .u64 y] w fun e w' => e = .returned (.tuple #[valV 1 (IntKind.u64.wrap (x * 2 ^ y.toNat)) [] 0, .int .i64 0]) ∧ Below w.heap.size w w' := by
  go_enter Tryd.func41, Tryd.ntmps41
  go_wp2_with fail
  exact bodyPost_ret (v := .tuple #[valV 1 (IntKind.u64.wrap (x * 2 ^ y.toNat)) [] 0, .int .i64 0]) (by simp [results, Tryd.results41, go_sem]) rfl ⟨rfl, (Below.refl _ _).alloc (Nat.le_refl _) _⟩
theorem ar_69 (x y : Int) (w : World) (hx : 0 ≤ x) (hx2 : x ≤ 18446744073709551615) (hy : 0 ≤ y) (hy2 : y ≤ 18446744073709551615) (h : y < 64) : Calls Tryd.prog 41 #[.int .i64 69, .int .u64 x, .int .u64 y] w fun e w' => e = .returned (.tuple #[valV 1 (x / 2 ^ y.toNat) [] 0, .int .i64 0]) ∧ Below w.heap.size w w' := by
  go_enter Tryd.func41, Tryd.ntmps41
  go_wp2_with fail
  exact bodyPost_ret (v := .tuple #[valV 1 (x / 2 ^ y.toNat) [] 0, .int .i64 0]) (by simp [results, Tryd.results41, go_sem]) rfl ⟨rfl, (Below.refl _ _).alloc (Nat.le_refl _) _⟩
theorem ar_div0 (op x : Int) (w : World) (hop : op = 63 ∨ op = 64) : Calls Tryd.prog 41 #[.int .i64 op, .int .u64 x, .int .u64 0] w fun e w' => e = .returned (.tuple #[valV 0 0 [] 0, .int .i64 12]) ∧ Below w.heap.size w w' := by
  rcases hop with rfl | rfl
  all_goals
    go_enter Tryd.func41, Tryd.ntmps41
    go_wp2_with fail
    exact bodyPost_ret (v := .tuple #[valV 0 0 [] 0, .int .i64 12]) (by simp [results, Tryd.results41, go_sem]) rfl ⟨rfl, (Below.refl _ _).alloc (Nat.le_refl _) _⟩

theorem ar_68f (x y : Int) (w : World) (h : 64 ≤ y) : Calls Tryd.prog 41 #[.int .i64 68, .int .u64 x, .int .u64 y] w fun e w' => e = .returned (.tuple #[valV 1 0 [] 0, .int .i64 0]) ∧ Below w.heap.size w w' := by
  have hsh := shl_far x y .u64 h
  go_enter Tryd.func41, Tryd.ntmps41
  go_wp2_with fail
  exact bodyPost_ret (v := .tuple #[valV 1 0 [] 0, .int .i64 0]) (by simp [results, Tryd.results41, go_sem]) rfl ⟨rfl, (Below.refl _ _).alloc (Nat.le_refl _) _⟩
theorem ar_69f (x y : Int) (w : World) (h : 64 ≤ y) (hx : 0 ≤ x) (hx2 : x ≤ 18446744073709551615) : Calls Tryd.prog 41 #[.int .i64 69, .int .u64 x, .int .u64 y] w fun e w' => e = .returned (.tuple #[valV 1 0 [] 0, .int .i64 0]) ∧ Below w.heap.size w w' := by
  have hsh := shr_far x y .u64 h hx (by omega)
  go_enter Tryd.func41, Tryd.ntmps41
  go_wp2_with fail
  exact bodyPost_ret (v := .tuple #[valV 1 0 [] 0, .int .i64 0]) (by simp [results, Tryd.results41, go_sem]) rfl ⟨rfl, (Below.refl _ _).alloc (Nat.le_refl _) _⟩

theorem ret_ar (tmps : Array Value) (w : World) (b : Nat) (c0 c1 c2 c3 : Value) (h2 : tmps.getD 6 undef = .pointer (some ⟨b, 0, none⟩)) (hb : w.heap[b]? = some (.cells #[c0, c1, c2, c3] 24 (0, 0))) :
    (results Tryd.f41 tmps).run Tryd.prog w = .ok (.tuple #[.agg #[c0, c1, c2, c3], tmps.getD 7 undef]) w := by
  obtain ⟨e0, e1, e2, e3⟩ := cells4 hb
  have h2' : tmps[6]?.getD undef = .pointer (some ⟨b, 0, none⟩) := by rw [← h2]; simp
  simp [results]
  go_simp

theorem ar_70tt (x y : Int) (w : World) (hx : (x != 0) = true) (hy : (y != 0) = true) : Calls Tryd.prog 41 #[.int .i64 70, .int .u64 x, .int .u64 y] w fun e w' => e = .returned (.tuple #[valV 1 18446744073709551615 [] 0, .int .i64 0]) ∧ Below w.heap.size w w' := by
  go_enter Tryd.func41, Tryd.ntmps41
  go_wp2_with fail
  ((with_reducible refine (truth_true _).mono ?_))
  rintro e w1 ⟨rfl, hb⟩
  obtain ⟨hb1, hn⟩ := bel_alloc hb
  clear hb
  have HB := Lib.hid hb1
  have HN := Lib.hid hn
  obtain ⟨c0, c1, c2, c3⟩ := cells4 hn
  have f0 := free3 hn 0
  have f1 := free3 hn 1
  have f2 := free3 hn 2
  have f3 := free3 hn 3
  clear hn hb1
  go_wp2_with fail
  exact bodyPost_ret (ret_ar _ _ _ _ _ _ _ rfl (put4 HN.out _ _ _ _)) rfl ⟨rfl, bel4 HB.out (Nat.le_refl _) _ _ _ _⟩

theorem ar_70f1 (x y : Int) (w : World) (hx : (x != 0) = false) : Calls Tryd.prog 41 #[.int .i64 70, .int .u64 x, .int .u64 y] w fun e w' => e = .returned (.tuple #[valV 1 0 [] 0, .int .i64 0]) ∧ Below w.heap.size w w' := by
  go_enter Tryd.func41, Tryd.ntmps41
  go_wp2_with fail
  ((with_reducible refine (truth_false _).mono ?_))
  rintro e w1 ⟨rfl, hb⟩
  obtain ⟨hb1, hn⟩ := bel_alloc hb
  clear hb
  have HB := Lib.hid hb1
  have HN := Lib.hid hn
  obtain ⟨c0, c1, c2, c3⟩ := cells4 hn
  have f0 := free3 hn 0
  have f1 := free3 hn 1
  have f2 := free3 hn 2
  have f3 := free3 hn 3
  clear hn hb1
  go_wp2_with fail
  exact bodyPost_ret (ret_ar _ _ _ _ _ _ _ rfl (put4 HN.out _ _ _ _)) rfl ⟨rfl, bel4 HB.out (Nat.le_refl _) _ _ _ _⟩

theorem ar_70f2 (x y : Int) (w : World) (hx : (x != 0) = true) (hy : (y != 0) = false) : Calls Tryd.prog 41 #[.int .i64 70, .int .u64 x, .int .u64 y] w fun e w' => e = .returned (.tuple #[valV 1 0 [] 0, .int .i64 0]) ∧ Below w.heap.size w w' := by
  go_enter Tryd.func41, Tryd.ntmps41
  go_wp2_with fail
  ((with_reducible refine (truth_false _).mono ?_))
  rintro e w1 ⟨rfl, hb⟩
  obtain ⟨hb1, hn⟩ := bel_alloc hb
  clear hb
  have HB := Lib.hid hb1
  have HN := Lib.hid hn
  obtain ⟨c0, c1, c2, c3⟩ := cells4 hn
  have f0 := free3 hn 0
  have f1 := free3 hn 1
  have f2 := free3 hn 2
  have f3 := free3 hn 3
  clear hn hb1
  go_wp2_with fail
  exact bodyPost_ret (ret_ar _ _ _ _ _ _ _ rfl (put4 HN.out _ _ _ _)) rfl ⟨rfl, bel4 HB.out (Nat.le_refl _) _ _ _ _⟩

theorem ar_71t1 (x y : Int) (w : World) (hx : (x != 0) = true) : Calls Tryd.prog 41 #[.int .i64 71, .int .u64 x, .int .u64 y] w fun e w' => e = .returned (.tuple #[valV 1 18446744073709551615 [] 0, .int .i64 0]) ∧ Below w.heap.size w w' := by
  go_enter Tryd.func41, Tryd.ntmps41
  go_wp2_with fail
  ((with_reducible refine (truth_true _).mono ?_))
  rintro e w1 ⟨rfl, hb⟩
  obtain ⟨hb1, hn⟩ := bel_alloc hb
  clear hb
  have HB := Lib.hid hb1
  have HN := Lib.hid hn
  obtain ⟨c0, c1, c2, c3⟩ := cells4 hn
  have f0 := free3 hn 0
  have f1 := free3 hn 1
  have f2 := free3 hn 2
  have f3 := free3 hn 3
  clear hn hb1
  go_wp2_with fail
  exact bodyPost_ret (ret_ar _ _ _ _ _ _ _ rfl (put4 HN.out _ _ _ _)) rfl ⟨rfl, bel4 HB.out (Nat.le_refl _) _ _ _ _⟩

theorem ar_71t2 (x y : Int) (w : World) (hx : (x != 0) = false) (hy : (y != 0) = true) : Calls Tryd.prog 41 #[.int .i64 71, .int .u64 x, .int .u64 y] w fun e w' => e = .returned (.tuple #[valV 1 18446744073709551615 [] 0, .int .i64 0]) ∧ Below w.heap.size w w' := by
  go_enter Tryd.func41, Tryd.ntmps41
  go_wp2_with fail
  ((with_reducible refine (truth_true _).mono ?_))
  rintro e w1 ⟨rfl, hb⟩
  obtain ⟨hb1, hn⟩ := bel_alloc hb
  clear hb
  have HB := Lib.hid hb1
  have HN := Lib.hid hn
  obtain ⟨c0, c1, c2, c3⟩ := cells4 hn
  have f0 := free3 hn 0
  have f1 := free3 hn 1
  have f2 := free3 hn 2
  have f3 := free3 hn 3
  clear hn hb1
  go_wp2_with fail
  exact bodyPost_ret (ret_ar _ _ _ _ _ _ _ rfl (put4 HN.out _ _ _ _)) rfl ⟨rfl, bel4 HB.out (Nat.le_refl _) _ _ _ _⟩

theorem ar_71ff (x y : Int) (w : World) (hx : (x != 0) = false) (hy : (y != 0) = false) : Calls Tryd.prog 41 #[.int .i64 71, .int .u64 x, .int .u64 y] w fun e w' => e = .returned (.tuple #[valV 1 0 [] 0, .int .i64 0]) ∧ Below w.heap.size w w' := by
  go_enter Tryd.func41, Tryd.ntmps41
  go_wp2_with fail
  ((with_reducible refine (truth_false _).mono ?_))
  rintro e w1 ⟨rfl, hb⟩
  obtain ⟨hb1, hn⟩ := bel_alloc hb
  clear hb
  have HB := Lib.hid hb1
  have HN := Lib.hid hn
  obtain ⟨c0, c1, c2, c3⟩ := cells4 hn
  have f0 := free3 hn 0
  have f1 := free3 hn 1
  have f2 := free3 hn 2
  have f3 := free3 hn 3
  clear hn hb1
  go_wp2_with fail
  exact bodyPost_ret (ret_ar _ _ _ _ _ _ _ rfl (put4 HN.out _ _ _ _)) rfl ⟨rfl, bel4 HB.out (Nat.le_refl _) _ _ _ _⟩

end Go.Proofs.YteifmjhkedhomaaDoor
