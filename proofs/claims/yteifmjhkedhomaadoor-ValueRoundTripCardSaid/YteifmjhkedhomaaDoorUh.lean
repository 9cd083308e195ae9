/- written of the reference: the walk. -/
import Derived.Test.YteifmjhkedhomaaDoorUg
namespace Go.Proofs.YteifmjhkedhomaaDoor
open Go.RowKit
set_option linter.unusedVariables false
set_option linter.unusedSimpArgs false
attribute [local go_sem] ByteArray.mk_append_mk bs_get bs_cut bs_end conv1 conv2

theorem ret_wr (tmps : Array Value) (w : World) (b : Nat) (c0 c1 c2 c3 : Value) (h2 : tmps.getD 8 undef = .pointer (some ⟨b, 0, none⟩)) (hb : w.heap[b]? = some (.cells #[c0, c1, c2, c3] 24 (0, 0))) :
    (results Tryd.f36 tmps).run Tryd.prog w = .ok (.tuple #[.agg #[c0, c1, c2, c3], tmps.getD 9 undef]) w := by
  obtain ⟨e0, e1, e2, e3⟩ := cells4 hb
  have h2' : tmps[8]?.getD undef = .pointer (some ⟨b, 0, none⟩) := by rw [← h2]; simp
  simp [results]
  go_simp
theorem lim_case (l : List UInt8) : (∃ y, limV l = (y, 0)) ∨ limV l = ([], 11) := by
  unfold limV
  split
  · exact .inl ⟨_, rfl⟩
  · exact .inr rfl
theorem digits_1 (m base : Nat) (w : World) (HN : Hid (m < 2 ^ 64)) (hb : 2 ≤ base) (hb2 : base ≤ 16) : Calls Tryd.prog 59 #[.int .u64 m, .int .u64 base, .int .i64 1] w fun e w' => ∃ l : List UInt8, Hid (l = digL m base 1) ∧ l.length ≤ 80 ∧ e = .returned (.string ⟨l.toArray⟩) ∧ w = w' := digits_any m base 1 w HN hb hb2 (by omega)
set_option maxRecDepth 100000 in
set_option maxHeartbeats 1000000 in
theorem written_any (front : List UInt8) (base least : Nat) (k n o : Int) (s : List UInt8) (w : World) (hf : front.length ≤ 2) (hb : 2 ≤ base) (hb2 : base ≤ 16) (hl : least ≤ 16) (hs : s.length ≤ 9223372036854774000) (hv : validV k s = true) (hn0 : 0 ≤ n) (HN : Hid (n.toNat < 2 ^ 64)) :
    Calls Tryd.prog 36 #[valV k n s o, .string ⟨front.toArray⟩, .int .u64 base, .int .i64 least] w (CvPost w (textE 2 (wrV front base least k n s))) := by
  have HA := Lib.hid (CAt.start w k n s o)
  obtain ⟨b0, b1, b2, b3⟩ := HA.out.1.cells
  have hn := HA.out.2
  obtain ⟨c0, c1, c2, c3⟩ := cells4 hn
  have f0 := free3 hn 0
  have f1 := free3 hn 1
  have f2 := free3 hn 2
  have f3 := free3 hn 3
  clear hn
  have hsv : k = 2 ∨ k = 3 → s.length ≤ 255 := fun h => by
    unfold validV at hv
    rw [decide_eq_true_eq] at hv
    rcases h with rfl | rfl <;> omega
  have HSV := Lib.hid hsv
  clear hsv hv
  by_cases h1 : k = 1
  · subst h1
    obtain ⟨N, rfl⟩ : ∃ N : Nat, n = N := ⟨n.toNat, by omega⟩
    have HX : Hid (textE 2 (wrV front base least 1 (N : Int) s) = textE 2 (limV (front ++ digL N base 1))) := Lib.hid (by unfold wrV; rw [if_pos rfl]; rfl)
    have HN1 : Hid (N < 2 ^ 64) := Lib.hid HN.out
    clear HN
    go_enter Tryd.func36, Tryd.ntmps36
    go_upto_region 1 with fail
    generalize ((w.alloc (.cells #[.int .i64 1, .int .u64 (N : Int), .string ⟨s.toArray⟩, .int .i64 o] 24)).alloc (.cells #[.int .i64 0, .int .u64 0, .string ⟨#[]⟩, .int .i64 0] 24)) = W at *
    go_wp2_with fail
    ((with_reducible refine (digits_1 N base _ HN1 hb hb2).mono ?_))
    rintro e w1 ⟨d, HD, hdl, rfl, rfl⟩
    obtain ⟨r, HL⟩ : ∃ r, Hid (limV (front ++ d) = r) := ⟨_, Lib.hid rfl⟩
    have HBN := Lib.hid (fun w => bounded_any (front ++ d) w (by first | omega | (simp only [List.length_append]; omega)))
    rw [HL.out] at HBN
    rcases lim_case (front ++ d) with ⟨y, hy⟩ | hy
    · obtain rfl : r = (y, 0) := by rw [← HL.out, hy]
      clear hy
      go_wp2_with fail
      ((with_reducible refine (HBN.out _).mono ?_))
      rintro e w2 ⟨rfl, rfl⟩
      go_wp2_with fail
      exact bodyPost_ret (ret_wr _ _ _ _ _ _ _ rfl (put4 HA.out.2 _ _ _ _)) rfl ⟨by rw [HX.out, ← HD.out, HL.out]; rfl, bel4 HA.out.1.2 (by omega) _ _ _ _⟩
    · obtain rfl : r = ([], 11) := by rw [← HL.out, hy]
      clear hy
      go_wp2_with fail
      ((with_reducible refine (HBN.out _).mono ?_))
      rintro e w2 ⟨rfl, rfl⟩
      go_wp2_with fail
      exact bodyPost_ret (ret_wr _ _ _ _ _ _ _ rfl (put4 HA.out.2 _ _ _ _)) rfl ⟨by rw [HX.out, ← HD.out, HL.out]; rfl, bel4 HA.out.1.2 (by omega) _ _ _ _⟩
  · by_cases h3 : k = 3
    · subst h3
      have hs255 := HSV.out (.inr rfl)
      have HX : Hid (textE 2 (wrV front base least 3 n s) = textE 2 (limV (joinL (fun c => front ++ digL c.toNat base least) [44] s))) := Lib.hid (by unfold wrV; rw [if_neg (by decide), if_pos rfl])
      go_enter Tryd.func36, Tryd.ntmps36
      go_upto_region 1 with fail
      generalize ((w.alloc (.cells #[.int .i64 3, .int .u64 n, .string ⟨s.toArray⟩, .int .i64 o] 24)).alloc (.cells #[.int .i64 0, .int .u64 0, .string ⟨#[]⟩, .int .i64 0] 24)) = W at *
      go_wp2_with fail
      ((with_reducible refine (rlist_any s front [44] base least _ hs255 hf (by simp) hb hb2 hl).mono ?_))
      rintro e w1 ⟨d, HD, hdl, rfl, rfl⟩
      obtain ⟨r, HL⟩ : ∃ r, Hid (limV (d) = r) := ⟨_, Lib.hid rfl⟩
      have HBN := Lib.hid (fun w => bounded_any (d) w (by first | omega | (simp only [List.length_append]; omega)))
      rw [HL.out] at HBN
      rcases lim_case (d) with ⟨y, hy⟩ | hy
      · obtain rfl : r = (y, 0) := by rw [← HL.out, hy]
        clear hy
        go_wp2_with fail
        ((with_reducible refine (HBN.out _).mono ?_))
        rintro e w2 ⟨rfl, rfl⟩
        go_wp2_with fail
        exact bodyPost_ret (ret_wr _ _ _ _ _ _ _ rfl (put4 HA.out.2 _ _ _ _)) rfl ⟨by rw [HX.out, ← HD.out, HL.out]; rfl, bel4 HA.out.1.2 (by omega) _ _ _ _⟩
      · obtain rfl : r = ([], 11) := by rw [← HL.out, hy]
        clear hy
        go_wp2_with fail
        ((with_reducible refine (HBN.out _).mono ?_))
        rintro e w2 ⟨rfl, rfl⟩
        go_wp2_with fail
        exact bodyPost_ret (ret_wr _ _ _ _ _ _ _ rfl (put4 HA.out.2 _ _ _ _)) rfl ⟨by rw [HX.out, ← HD.out, HL.out]; rfl, bel4 HA.out.1.2 (by omega) _ _ _ _⟩
    · by_cases h2 : k = 2
      · subst h2
        have hs255 := HSV.out (.inl rfl)
        have HX : Hid (textE 2 (wrV front base least 2 n s) = (valV 2 0 s 0, 0)) := Lib.hid (by unfold wrV; rw [if_neg (by decide), if_neg (by decide), if_pos rfl, limV, if_pos hs255]; rfl)
        go_enter Tryd.func36, Tryd.ntmps36
        go_upto_region 1 with fail
        generalize ((w.alloc (.cells #[.int .i64 2, .int .u64 n, .string ⟨s.toArray⟩, .int .i64 o] 24)).alloc (.cells #[.int .i64 0, .int .u64 0, .string ⟨#[]⟩, .int .i64 0] 24)) = W at *
        go_wp2_with fail
        ((with_reducible refine (bounded_ok s _ hs255).mono ?_))
        rintro e w2 ⟨rfl, rfl⟩
        go_wp2_with fail
        exact bodyPost_ret (ret_wr _ _ _ _ _ _ _ rfl (put4 HA.out.2 _ _ _ _)) rfl ⟨by rw [HX.out]; rfl, bel4 HA.out.1.2 (by omega) _ _ _ _⟩
      · have e1 : (k == 1) = false := beq_eq_false_iff_ne.2 h1
        have e2 : (k == 2) = false := beq_eq_false_iff_ne.2 h2
        have e3 : (k == 3) = false := beq_eq_false_iff_ne.2 h3
        have HX : Hid (textE 2 (wrV front base least k n s) = badV 10) := Lib.hid (by unfold wrV; rw [if_neg h1, if_neg h3, if_neg h2]; rfl)
        clear h1 h2 h3
        go_enter Tryd.func36, Tryd.ntmps36
        go_upto_region 1 with fail
        generalize ((w.alloc (.cells #[.int .i64 k, .int .u64 n, .string ⟨s.toArray⟩, .int .i64 o] 24)).alloc (.cells #[.int .i64 0, .int .u64 0, .string ⟨#[]⟩, .int .i64 0] 24)) = W at *
        go_wp2_with fail
        exact bodyPost_ret (ret_wr _ _ _ _ _ _ _ rfl (put4 HA.out.2 _ _ _ _)) rfl ⟨by rw [HX.out]; rfl, bel4 HA.out.1.2 (by omega) _ _ _ _⟩
end Go.Proofs.YteifmjhkedhomaaDoor
