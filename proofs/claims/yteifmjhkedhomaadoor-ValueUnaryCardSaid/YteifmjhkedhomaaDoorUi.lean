/- digitString: the walk (hexadecimal). -/
import Derived.Test.YteifmjhkedhomaaDoorUh
namespace Go.Proofs.YteifmjhkedhomaaDoor
open Go.RowKit
set_option linter.unusedVariables false
set_option linter.unusedSimpArgs false
attribute [local go_sem] ByteArray.mk_append_mk bs_get bs_cut bs_end conv1 conv2

theorem CAt.bel {w wr : World} {k n : Int} {s : List UInt8} {o : Int} (h : CAt w wr k n s o) : Below w.heap.size w wr := h.1.2
theorem ret_ds (tmps : Array Value) (w : World) (b : Nat) (c0 c1 c2 c3 : Value) (h2 : tmps.getD 6 undef = .pointer (some ⟨b, 0, none⟩)) (hb : w.heap[b]? = some (.cells #[c0, c1, c2, c3] 24 (0, 0))) :
    (results Tryd.f22 tmps).run Tryd.prog w = .ok (.tuple #[.agg #[c0, c1, c2, c3], tmps.getD 7 undef]) w := by
  obtain ⟨e0, e1, e2, e3⟩ := cells4 hb
  have h2' : tmps[6]?.getD undef = .pointer (some ⟨b, 0, none⟩) := by rw [← h2]; simp
  simp [results]
  go_simp
set_option maxRecDepth 100000 in
set_option maxHeartbeats 1000000 in
theorem dig_other (F1 F2 : FuncId) (k n o : Int) (s : List UInt8) (w : World) (h1 : k ≠ 1) (h2 : k ≠ 2) (h3 : k ≠ 3) :
    Calls Tryd.prog 22 #[valV k n s o, .func (.func F1) #[] #[], .func (.func F2) #[] #[]] w (CvPost w (badV 10)) := by
  have HA := Lib.hid (CAt.start w k n s o)
  obtain ⟨b0, b1, b2, b3⟩ := HA.out.1.cells
  have e1 : (k == 1) = false := beq_eq_false_iff_ne.2 h1
  have e2 : (k == 2) = false := beq_eq_false_iff_ne.2 h2
  have e3 : (k == 3) = false := beq_eq_false_iff_ne.2 h3
  clear h1 h2 h3
  go_enter Tryd.func22, Tryd.ntmps22
  go_upto_region 1 with fail
  generalize ((w.alloc (.cells #[.int .i64 k, .int .u64 n, .string ⟨s.toArray⟩, .int .i64 o] 24)).alloc (.cells #[.int .i64 0, .int .u64 0, .string ⟨#[]⟩, .int .i64 0] 24)) = W at *
  go_wp2_with fail
  ((with_reducible refine (text_b _ _).mono ?_))
  rintro e w2 ⟨b, rfl, hb2, hc2⟩
  have HA2 := Lib.hid (HA.out.below hb2)
  clear HA b0 b1 b2 b3 hb2
  obtain ⟨b0, b1, b2, b3⟩ := HA2.out.1.cells
  have hn := HA2.out.2
  obtain ⟨c0, c1, c2, c3⟩ := cells4 hn
  have f0 := free3 hn 0
  have f1 := free3 hn 1
  have f2 := free3 hn 2
  have f3 := free3 hn 3
  clear hn
  go_wp2_with fail
  exact bodyPost_ret (ret_ds _ _ _ _ _ _ _ rfl (put4 HA2.out.2 _ _ _ _)) rfl ⟨rfl, bel4 HA2.out.1.2 (by omega) _ _ _ _⟩
set_option maxRecDepth 100000 in
set_option maxHeartbeats 1000000 in
theorem dig_text (F1 F2 : FuncId) (n o : Int) (s : List UInt8) (w : World) :
    Calls Tryd.prog 22 #[valV 2 n s o, .func (.func F1) #[] #[], .func (.func F2) #[] #[]] w (CvPost w (valV 2 0 s 0, 0)) := by
  have HA := Lib.hid (CAt.start w 2 n s o)
  obtain ⟨b0, b1, b2, b3⟩ := HA.out.1.cells
  go_enter Tryd.func22, Tryd.ntmps22
  go_upto_region 1 with fail
  generalize ((w.alloc (.cells #[.int .i64 2, .int .u64 n, .string ⟨s.toArray⟩, .int .i64 o] 24)).alloc (.cells #[.int .i64 0, .int .u64 0, .string ⟨#[]⟩, .int .i64 0] 24)) = W at *
  go_wp2_with fail
  ((with_reducible refine (text_b _ _).mono ?_))
  rintro e w2 ⟨b, rfl, hb2, hc2⟩
  have HA2 := Lib.hid (HA.out.below hb2)
  have HC := Lib.hid hc2
  clear HA b0 b1 b2 b3 hb2 hc2
  obtain ⟨b0, b1, b2, b3⟩ := HA2.out.1.cells
  go_wp2_with fail
  ((with_reducible refine (text1_ok 2 _ _ _ (cell1 HC.out)).mono ?_))
  rintro e w3 ⟨rfl, hb⟩
  have HA3 := Lib.hid (HA2.out.below hb)
  clear HA2 b0 b1 b2 b3 hb
  have hn := HA3.out.2
  obtain ⟨c0, c1, c2, c3⟩ := cells4 hn
  have f0 := free3 hn 0
  have f1 := free3 hn 1
  have f2 := free3 hn 2
  have f3 := free3 hn 3
  clear hn
  go_wp2_with fail
  exact bodyPost_ret (ret_ds _ _ _ _ _ _ _ rfl (put4 HA3.out.2 _ _ _ _)) rfl ⟨rfl, bel4 HA3.out.1.2 (by omega) _ _ _ _⟩
set_option maxRecDepth 100000 in
set_option maxHeartbeats 1000000 in
theorem dig_int_hex (N : Nat) (o : Int) (s : List UInt8) (w : World) (hN : N ≤ 18446744073709551615) (hT : Tz16 w) :
    Calls Tryd.prog 22 #[valV 1 N s o, .func (.func 23) #[] #[], .func (.func 26) #[] #[]] w (CvPost w (valV 2 0 ([48, 120] ++ hexU N) 0, 0)) := by
  have HA := Lib.hid (CAt.start w 1 N s o)
  obtain ⟨b0, b1, b2, b3⟩ := HA.out.1.cells
  have HTZ : Hid (∀ w', Below w.heap.size w w' → Tz16 w') := Lib.hid fun w' h => (h.cell (p := ⟨6, 15, none⟩) (World.block_lt_of_cell? w _ hT)).trans hT
  have KF := Lib.hid (fun w h => u1_any N w hN h)
  have hul := hexU_len hN
  obtain ⟨U, hU⟩ : ∃ U, [48, 120] ++ hexU N = U := ⟨_, rfl⟩
  have HUL : Hid (U.length ≤ 255) := Lib.hid (by rw [← hU, List.length_append]; simp; omega)
  rw [hU] at KF ⊢
  clear hU hul hT hN
  go_enter Tryd.func22, Tryd.ntmps22
  go_upto_region 1 with fail
  generalize ((w.alloc (.cells #[.int .i64 1, .int .u64 (N : Int), .string ⟨s.toArray⟩, .int .i64 o] 24)).alloc (.cells #[.int .i64 0, .int .u64 0, .string ⟨#[]⟩, .int .i64 0] 24)) = W at *
  go_wp2_with fail
  ((with_reducible refine (text_b _ _).mono ?_))
  rintro e w2 ⟨b, rfl, hb2, hc2⟩
  have HA2 := Lib.hid (HA.out.below hb2)
  have HC := Lib.hid hc2
  clear HA b0 b1 b2 b3 hb2 hc2
  obtain ⟨b0, b1, b2, b3⟩ := HA2.out.1.cells
  go_wp2_with fail
  ((with_reducible refine (KF.out _ (HTZ.out _ HA2.out.bel)).mono ?_))
  rintro e w3 ⟨rfl, hb⟩
  have HA3 := Lib.hid (HA2.out.below hb)
  have HC3 := Lib.hid (blk_below HC.out hb)
  clear HA2 HC b0 b1 b2 b3 hb
  obtain ⟨b0, b1, b2, b3⟩ := HA3.out.1.cells
  go_wp2_with fail
  ((with_reducible refine (limited_ok U _ HUL.out).mono ?_))
  rintro e w4 ⟨rfl, rfl⟩
  go_wp2_with fail
  ((with_reducible refine (text1_ok 2 _ _ _ (cell1 HC3.out)).mono ?_))
  rintro e w5 ⟨rfl, hb⟩
  have HA4 := Lib.hid (HA3.out.below hb)
  clear HA3 b0 b1 b2 b3 hb
  have hn := HA4.out.2
  obtain ⟨c0, c1, c2, c3⟩ := cells4 hn
  have f0 := free3 hn 0
  have f1 := free3 hn 1
  have f2 := free3 hn 2
  have f3 := free3 hn 3
  clear hn
  go_wp2_with fail
  exact bodyPost_ret (ret_ds _ _ _ _ _ _ _ rfl (put4 HA4.out.2 _ _ _ _)) rfl ⟨rfl, bel4 HA4.out.1.2 (by omega) _ _ _ _⟩
end Go.Proofs.YteifmjhkedhomaaDoor
