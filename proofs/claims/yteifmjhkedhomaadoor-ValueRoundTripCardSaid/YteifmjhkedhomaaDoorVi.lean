/- compare: the walk. -/
import Derived.Test.YteifmjhkedhomaaDoorVh
namespace Go.Proofs.YteifmjhkedhomaaDoor
open Go.RowKit
attribute [local go_sem] ByteArray.mk_append_mk bs_get bs_cut bs_end conv1 conv2

theorem ret_cmp (tmps : Array Value) (w : World) (b : Nat) (c0 c1 c2 c3 : Value) (h2 : tmps.getD 6 undef = .pointer (some ⟨b, 0, none⟩)) (hb : w.heap[b]? = some (.cells #[c0, c1, c2, c3] 24 (0, 0))) :
    (results Tryd.f44 tmps).run Tryd.prog w = .ok (.agg #[c0, c1, c2, c3]) w := by
  obtain ⟨e0, e1, e2, e3⟩ := cells4 hb
  have h2' : tmps[6]?.getD undef = .pointer (some ⟨b, 0, none⟩) := by rw [← h2]; simp
  simp [results]
  go_simp
def cmpB (op : Int) (L E : Bool) : Bool := if op = 72 then E else if op = 73 then L else (!L && !E)
theorem zero3 (w : World) (o1 o2 : Obj) (o3 : Obj) : ((w.alloc o1).alloc o2 |>.alloc o3).heap[w.heap.size + 1 + 1]? = some o3 ∧ Below w.heap.size w ((w.alloc o1).alloc o2 |>.alloc o3) := by
  refine ⟨?_, (((Below.refl _ _).alloc (Nat.le_refl _) _).alloc (by simp) _).alloc (by simp; omega) _⟩
  have := heap_alloc_new ((w.alloc o1).alloc o2) o3
  simpa using this
set_option maxHeartbeats 2000000 in
theorem compare_any (op k1 n1 o1 n2 o2 k2 : Int) (s1 s2 : List UInt8) (w : World) : Calls Tryd.prog 44 #[.int .i64 op, valV k1 n1 s1 o1, valV k2 n2 s2 o2] w fun e w' => e = .returned (valV 1 (topB (cmpB op (if k1 = 1 then decide (n1 < n2) else Op.bytesLess s1 s2) (if k1 = 1 then n1 == n2 else s1 == s2))) [] 0) ∧ Below w.heap.size w w' := by
  obtain ⟨L, hL⟩ : ∃ L, (if k1 = 1 then decide (n1 < n2) else Op.bytesLess s1 s2) = L := ⟨_, rfl⟩
  obtain ⟨E, hE⟩ : ∃ E, (if k1 = 1 then n1 == n2 else s1 == s2) = E := ⟨_, rfl⟩
  rw [hL, hE]
  have HL := Lib.hid hL
  have HE := Lib.hid hE
  clear hL hE
  have HZ0 := Lib.hid (zero3 w (.cells #[.int .i64 k1, .int .u64 n1, .string ⟨s1.toArray⟩, .int .i64 o1] 24) (.cells #[.int .i64 k2, .int .u64 n2, .string ⟨s2.toArray⟩, .int .i64 o2] 24) (.cells #[.int .i64 0, .int .u64 0, .string ⟨#[]⟩, .int .i64 0] 24))
  go_enter Tryd.func44, Tryd.ntmps44
  go_wp2_with fail
  go_quiet (fail)
  go_upto_if 21 with fail
  go_cut [7, 8] (fun l e wx => l = .bool L ∧ e = .bool E ∧ Hid (wx.heap[w.heap.size + 1 + 1]? = some (.cells #[.int .i64 0, .int .u64 0, .string ⟨#[]⟩, .int .i64 0] 24 (0, 0))) ∧ Hid (Below w.heap.size w wx))
  case first =>
    by_cases h1 : k1 = 1
    · subst h1
      go_wp2_with fail
      go_quiet (fail)
      go_wp2_with fail
      go_meet
      exact ⟨by rw [← HL.out]; rfl, by rw [← HE.out]; rfl, Lib.hid HZ0.out.1, Lib.hid (below_drewN (below_drewN HZ0.out.2 _) _)⟩
    · have e1 : (k1 == 1) = false := by rw [beq_eq_false_iff_ne]; exact h1
      have HI1 : Hid ((if k1 = 1 then decide (n1 < n2) else Op.bytesLess s1 s2) = Op.bytesLess s1 s2) := Lib.hid (if_neg h1)
      have HI2 : Hid ((if k1 = 1 then n1 == n2 else s1 == s2) = (s1 == s2)) := Lib.hid (if_neg h1)
      clear h1
      go_wp2_with fail
      go_meet
      exact ⟨by rw [← HL.out, HI1.out], by rw [← HE.out, HI2.out], Lib.hid HZ0.out.1, Lib.hid (below_drewN HZ0.out.2 _)⟩
  case rest =>
    obtain ⟨rfl, rfl, HZ, HB⟩ := hcut
    obtain ⟨w1, rfl⟩ : ∃ x : World, x = wc := ⟨_, rfl⟩
    clear HZ0
    clear HL HE
    by_cases h72 : op = 72
    · subst h72
      cases E
      · go_wp2_with fail
        ((with_reducible refine (truth_false _).mono ?_))
        rintro e w2 ⟨rfl, hb⟩
        have hn := blk_below HZ.out hb
        have HN := Lib.hid hn
        have HB2 : Hid (Below w.heap.size w w2) := Lib.hid (bel_then HB.out (Nat.le_refl _) hb)
        obtain ⟨c0, c1, c2, c3⟩ := cells4 hn
        have f0 := free3 hn 0
        have f1 := free3 hn 1
        have f2 := free3 hn 2
        have f3 := free3 hn 3
        clear hn hb
        go_wp2_with fail
        exact bodyPost_ret (ret_cmp _ _ _ _ _ _ _ rfl (put4 HN.out _ _ _ _)) rfl ⟨rfl, bel4 HB2.out (by omega) _ _ _ _⟩

      · go_wp2_with fail
        ((with_reducible refine (truth_true _).mono ?_))
        rintro e w2 ⟨rfl, hb⟩
        have hn := blk_below HZ.out hb
        have HN := Lib.hid hn
        have HB2 : Hid (Below w.heap.size w w2) := Lib.hid (bel_then HB.out (Nat.le_refl _) hb)
        obtain ⟨c0, c1, c2, c3⟩ := cells4 hn
        have f0 := free3 hn 0
        have f1 := free3 hn 1
        have f2 := free3 hn 2
        have f3 := free3 hn 3
        clear hn hb
        go_wp2_with fail
        exact bodyPost_ret (ret_cmp _ _ _ _ _ _ _ rfl (put4 HN.out _ _ _ _)) rfl ⟨rfl, bel4 HB2.out (by omega) _ _ _ _⟩

    · by_cases h73 : op = 73
      · subst h73
        cases L
        · go_wp2_with fail
          ((with_reducible refine (truth_false _).mono ?_))
          rintro e w2 ⟨rfl, hb⟩
          have hn := blk_below HZ.out hb
          have HN := Lib.hid hn
          have HB2 : Hid (Below w.heap.size w w2) := Lib.hid (bel_then HB.out (Nat.le_refl _) hb)
          obtain ⟨c0, c1, c2, c3⟩ := cells4 hn
          have f0 := free3 hn 0
          have f1 := free3 hn 1
          have f2 := free3 hn 2
          have f3 := free3 hn 3
          clear hn hb
          go_wp2_with fail
          exact bodyPost_ret (ret_cmp _ _ _ _ _ _ _ rfl (put4 HN.out _ _ _ _)) rfl ⟨rfl, bel4 HB2.out (by omega) _ _ _ _⟩

        · go_wp2_with fail
          ((with_reducible refine (truth_true _).mono ?_))
          rintro e w2 ⟨rfl, hb⟩
          have hn := blk_below HZ.out hb
          have HN := Lib.hid hn
          have HB2 : Hid (Below w.heap.size w w2) := Lib.hid (bel_then HB.out (Nat.le_refl _) hb)
          obtain ⟨c0, c1, c2, c3⟩ := cells4 hn
          have f0 := free3 hn 0
          have f1 := free3 hn 1
          have f2 := free3 hn 2
          have f3 := free3 hn 3
          clear hn hb
          go_wp2_with fail
          exact bodyPost_ret (ret_cmp _ _ _ _ _ _ _ rfl (put4 HN.out _ _ _ _)) rfl ⟨rfl, bel4 HB2.out (by omega) _ _ _ _⟩

      · have e72 : (op == 72) = false := by rw [beq_eq_false_iff_ne]; exact h72
        have e73 : (op == 73) = false := by rw [beq_eq_false_iff_ne]; exact h73
        have HC : Hid (∀ L E, cmpB op L E = (!L && !E)) := Lib.hid (fun L E => by unfold cmpB; rw [if_neg h72, if_neg h73])
        clear h72 h73
        cases L
        · cases E
          · go_wp2_with fail
            ((with_reducible refine (truth_true _).mono ?_))
            rintro e w2 ⟨rfl, hb⟩
            have hn := blk_below HZ.out hb
            have HN := Lib.hid hn
            have HB2 : Hid (Below w.heap.size w w2) := Lib.hid (bel_then HB.out (Nat.le_refl _) hb)
            obtain ⟨c0, c1, c2, c3⟩ := cells4 hn
            have f0 := free3 hn 0
            have f1 := free3 hn 1
            have f2 := free3 hn 2
            have f3 := free3 hn 3
            clear hn hb
            go_wp2_with fail
            exact bodyPost_ret (ret_cmp _ _ _ _ _ _ _ rfl (put4 HN.out _ _ _ _)) rfl ⟨by rw [HC.out]; rfl, bel4 HB2.out (by omega) _ _ _ _⟩

          · go_wp2_with fail
            ((with_reducible refine (truth_false _).mono ?_))
            rintro e w2 ⟨rfl, hb⟩
            have hn := blk_below HZ.out hb
            have HN := Lib.hid hn
            have HB2 : Hid (Below w.heap.size w w2) := Lib.hid (bel_then HB.out (Nat.le_refl _) hb)
            obtain ⟨c0, c1, c2, c3⟩ := cells4 hn
            have f0 := free3 hn 0
            have f1 := free3 hn 1
            have f2 := free3 hn 2
            have f3 := free3 hn 3
            clear hn hb
            go_wp2_with fail
            exact bodyPost_ret (ret_cmp _ _ _ _ _ _ _ rfl (put4 HN.out _ _ _ _)) rfl ⟨by rw [HC.out]; rfl, bel4 HB2.out (by omega) _ _ _ _⟩

        · go_wp2_with fail
          ((with_reducible refine (truth_false _).mono ?_))
          rintro e w2 ⟨rfl, hb⟩
          have hn := blk_below HZ.out hb
          have HN := Lib.hid hn
          have HB2 : Hid (Below w.heap.size w w2) := Lib.hid (bel_then HB.out (Nat.le_refl _) hb)
          obtain ⟨c0, c1, c2, c3⟩ := cells4 hn
          have f0 := free3 hn 0
          have f1 := free3 hn 1
          have f2 := free3 hn 2
          have f3 := free3 hn 3
          clear hn hb
          go_wp2_with fail
          exact bodyPost_ret (ret_cmp _ _ _ _ _ _ _ rfl (put4 HN.out _ _ _ _)) rfl ⟨by rw [HC.out]; rfl, bel4 HB2.out (by omega) _ _ _ _⟩

end Go.Proofs.YteifmjhkedhomaaDoor
