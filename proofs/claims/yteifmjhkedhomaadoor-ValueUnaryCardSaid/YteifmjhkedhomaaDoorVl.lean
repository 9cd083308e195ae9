/- concatenate: the walk. -/
import Derived.Test.YteifmjhkedhomaaDoorVk
import Derived.Test.YteifmjhkedhomaaDoorPlan
namespace Go.Proofs.YteifmjhkedhomaaDoor
open Go.RowKit
attribute [local go_sem] ByteArray.mk_append_mk bs_get bs_cut bs_end conv1 conv2

/-- A value's block. -/
abbrev vObj (k n : Int) (s : List UInt8) (o : Int) : Obj := .cells #[.int .i64 k, .int .u64 n, .string ⟨s.toArray⟩, .int .i64 o] 24 (0, 0)
/-- Two boxes and the result's block. -/
def B2 (w wr : World) (o1 o2 : Obj) : Prop := (wr.heap[w.heap.size]? = some o1 ∧ wr.heap[w.heap.size + 1]? = some o2 ∧ wr.heap[w.heap.size + 1 + 1]? = some (vObj 0 0 [] 0)) ∧ Below w.heap.size w wr
theorem B2.start (w : World) (o1 o2 : Obj) : B2 w (((w.alloc o1).alloc o2).alloc (vObj 0 0 [] 0)) o1 o2 := by
  have h := zero3 w o1 o2 (vObj 0 0 [] 0)
  refine ⟨⟨?_, ?_, h.1⟩, h.2⟩
  · have e1 := heap_alloc_new w o1
    exact blk_alloc (blk_alloc e1 _) _
  · have e1 := heap_alloc_new (w.alloc o1) o2
    have e2 := blk_alloc e1 (vObj 0 0 [] 0)
    simpa using e2
theorem B2.below {w wr w2 : World} {o1 o2 : Obj} (h : B2 w wr o1 o2) (hb : Below wr.heap.size wr w2) : B2 w w2 o1 o2 :=
  ⟨⟨blk_below h.1.1 hb, blk_below h.1.2.1 hb, blk_below h.1.2.2 hb⟩, bel_then h.2 (Nat.le_refl _) hb⟩
theorem B2.alloc {w wr : World} {o1 o2 : Obj} (h : B2 w wr o1 o2) (o : Obj) : B2 w (wr.alloc o) o1 o2 := h.below ((Below.refl _ _).alloc (Nat.le_refl _) _)
theorem B2.drew {w wr : World} {o1 o2 : Obj} (h : B2 w wr o1 o2) : B2 w wr.drew o1 o2 := ⟨h.1, h.2.drew⟩
theorem B2.drewN {w wr : World} {o1 o2 : Obj} (h : B2 w wr o1 o2) (n : Nat) : B2 w (wr.drewN n) o1 o2 := ⟨h.1, below_drewN h.2 n⟩

theorem ret_cat (tmps : Array Value) (w : World) (b : Nat) (c0 c1 c2 c3 : Value) (h2 : tmps.getD 4 undef = .pointer (some ⟨b, 0, none⟩)) (hb : w.heap[b]? = some (.cells #[c0, c1, c2, c3] 24 (0, 0))) :
    (results Tryd.f43 tmps).run Tryd.prog w = .ok (.tuple #[.agg #[c0, c1, c2, c3], tmps.getD 5 undef]) w := by
  obtain ⟨e0, e1, e2, e3⟩ := cells4 hb
  have h2' : tmps[4]?.getD undef = .pointer (some ⟨b, 0, none⟩) := by rw [← h2]; simp
  simp [results]
  go_simp
/-- What concatenate returns. -/
def catV (k1 n1 : Int) (s1 : List UInt8) (n2 : Int) (s2 : List UInt8) : Value × Int := if k1 = 1 then (valV 3 0 (little n1.toNat 8 ++ little n2.toNat 8) 0, 0) else textE k1 (limV (s1 ++ s2))
set_option maxRecDepth 100000 in
set_option maxHeartbeats 2000000 in
theorem cat_int (n1 o1 n2 o2 k2 : Int) (s1 s2 : List UInt8) (w : World) (h1 : 0 ≤ n1) (h2 : 0 ≤ n2) : Calls Tryd.prog 43 #[valV 1 n1 s1 o1, valV k2 n2 s2 o2] w (CvPost w (valV 3 0 (little n1.toNat 8 ++ little n2.toNat 8) 0, 0)) := by
  have HA0 := Lib.hid (B2.start w (vObj 1 n1 s1 o1) (vObj k2 n2 s2 o2))
  go_enter Tryd.func43, Tryd.ntmps43
  go_upto_region 2 with fail
  have HA := Lib.hid HA0.out.drew
  clear HA0
  obtain ⟨a0, a1, a2, a3⟩ := cells4 HA.out.1.1
  obtain ⟨b0, b1, b2, b3⟩ := cells4 HA.out.1.2.1
  have HL1 : Hid True := Lib.hid trivial
  go_region_with (first
    | (go_at_call 38; ((with_reducible refine (intBytes_any n1 _ h1).mono ?_)); rintro e w2 ⟨l1, HL, hl, rfl, hb2⟩; have hl1 : l1.length ≤ 8 := (by omega); clear hl; clear HL1; have HL1 := HL; clear HL; have HA2 := HA; clear HA; have HA := Lib.hid (HA2.out.below hb2); clear HA2 a0 a1 a2 a3 b0 b1 b2 b3; clear hb2; obtain ⟨a0, a1, a2, a3⟩ := cells4 HA.out.1.1; obtain ⟨b0, b1, b2, b3⟩ := cells4 HA.out.1.2.1)
    | (go_at_call 38; ((with_reducible refine (intBytes_any n2 _ h2).mono ?_)); rintro e w2 ⟨l2, HL2, hl, rfl, hb2⟩; have hl2 : l2.length ≤ 8 := (by omega); clear hl; have HA2 := HA; clear HA; have HA := Lib.hid (HA2.out.below hb2); clear HA2 a0 a1 a2 a3 b0 b1 b2 b3; clear hb2; have hn := HA.out.1.2.2; obtain ⟨c0, c1, c2, c3⟩ := cells4 hn; have f0 := free3 hn 0; have f1 := free3 hn 1; have f2 := free3 hn 2; have f3 := free3 hn 3; clear hn))
  all_goals (go_wp2_with fail; exact bodyPost_ret (ret_cat _ _ _ _ _ _ _ rfl (put4 HA.out.1.2.2 _ _ _ _)) rfl ⟨by rw [← HL1.out, ← HL2.out]; rfl, bel4 HA.out.2 (by omega) _ _ _ _⟩)
set_option maxRecDepth 100000 in
set_option maxHeartbeats 2000000 in
theorem cat_text (k1 n1 o1 n2 o2 k2 : Int) (s1 s2 : List UInt8) (w : World) (hk : k1 ≠ 1) (h1 : s1.length ≤ 1000000) (h2 : s2.length ≤ 1000000) : Calls Tryd.prog 43 #[valV k1 n1 s1 o1, valV k2 n2 s2 o2] w (CvPost w (textE k1 (limV (s1 ++ s2)))) := by
  have HA0 := Lib.hid (B2.start w (vObj k1 n1 s1 o1) (vObj k2 n2 s2 o2))
  have e1 : (k1 == 1) = false := by rw [beq_eq_false_iff_ne]; exact hk
  obtain ⟨⟨x, er⟩, hr⟩ : ∃ r, limV (s1 ++ s2) = r := ⟨_, rfl⟩
  have HI := Lib.hid hr
  clear hr hk
  by_cases he : er = 0
  · subst he
    go_enter Tryd.func43, Tryd.ntmps43
    go_upto_region 3 with fail
    have k0 : ∀ x, Grows _ x → x.cell? ⟨w.heap.size, 0, none⟩ = some (.int .i64 k1) := fun x h => (cells4 (HA0.out.below h).1.1).1
    have k2' : ∀ x, Grows _ x → x.cell? ⟨w.heap.size, 2, none⟩ = some (.string ⟨s1.toArray⟩) := fun x h => (cells4 (HA0.out.below h).1.1).2.2.1
    have k3 : ∀ x, Grows _ x → x.cell? ⟨w.heap.size + 1, 2, none⟩ = some (.string ⟨s2.toArray⟩) := fun x h => (cells4 (HA0.out.below h).1.2.1).2.2.1
    refine wp_region_plan (Grows _) 14 [.reads [0, 1, 3, 4, 5, 6, 7], .act 2, .act 8, .reads [9, 10], .act 11, .reads [12, 13], .act 14, .act 15] (by kernel_rfl) (by kernel_rfl) (by kernel_rfl) (by kernel_rfl) (by kernel_rfl) (fun _ _ d _ _ h => by cases d <;> exact h) (Grows.self _) ?_
    refine wpPlan_reads ?_
    simp only [pickOps, List.drop_succ_cons, List.drop_zero, List.take_succ_cons, List.take_zero, List.cons_append, List.nil_append]
    repeat (go_big_quiet_step (first | (intro hb; rw [k0 _ hb]; exact ⟨rfl, rfl⟩) | (intro hb; rw [k2' _ hb]; exact ⟨rfl, rfl⟩) | (intro hb; rw [k3 _ hb]; exact ⟨rfl, rfl⟩)))
    refine wpQuiet_nil ?_
    clear k0 k2' k3
    refine wpPlan_act rfl ?_
    simp only [pickOps, List.drop_succ_cons, List.drop_zero, List.take_succ_cons, List.take_zero, List.cons_append, List.nil_append]
    go_wp2_with fail
    ((with_reducible refine (text_b _ _).mono ?_))
    rintro e w2 ⟨b, rfl, hb2, hc2⟩
    have HA := Lib.hid (HA0.out.drew.below hb2)
    have HG := Lib.hid ((Grows.self _).trans hb2)
    have HC := Lib.hid hc2
    clear hb2 hc2 HA0
    go_wp2_with fail
    refine ⟨fun _ => HG.out, ?_⟩
    refine wpPlan_act rfl ?_
    simp only [pickOps, List.drop_succ_cons, List.drop_zero, List.take_succ_cons, List.take_zero, List.cons_append, List.nil_append]
    go_wp2_with fail
    ((with_reducible refine (limited_any (s1 ++ s2) _ (by rw [List.length_append]; omega)).mono ?_))
    rintro e w3 ⟨rfl, rfl⟩
    rw [HI.out]
    go_wp2_with fail
    refine ⟨fun _ => HG.out, ?_⟩
    refine wpPlan_reads ?_
    simp only [pickOps, List.drop_succ_cons, List.drop_zero, List.take_succ_cons, List.take_zero, List.cons_append, List.nil_append]
    repeat (go_big_quiet_step (fail))
    refine wpQuiet_nil ?_
    refine wpPlan_act rfl ?_
    simp only [pickOps, List.drop_succ_cons, List.drop_zero, List.take_succ_cons, List.take_zero, List.cons_append, List.nil_append]
    go_wp2_with fail
    ((with_reducible refine (text1_ok k1 x _ _ (cell1 HC.out)).mono ?_))
    rintro e w3 ⟨rfl, hb2⟩
    have HA2 := Lib.hid (HA.out.below hb2)
    have HG2 := Lib.hid (HG.out.trans hb2)
    clear hb2 HA HC
    have hn := HA2.out.1.2.2
    obtain ⟨c0, c1, c2, c3⟩ := cells4 hn
    have f0 := free3 hn 0
    have f1 := free3 hn 1
    have f2 := free3 hn 2
    have f3 := free3 hn 3
    clear hn
    go_wp2_with fail
    refine ⟨fun _ => HG2.out, ?_⟩
    refine wpPlan_reads ?_
    simp only [pickOps, List.drop_succ_cons, List.drop_zero, List.take_succ_cons, List.take_zero, List.cons_append, List.nil_append]
    repeat (go_big_quiet_step (fail))
    refine wpQuiet_nil ?_
    refine wpPlan_act rfl ?_
    simp only [pickOps, List.drop_succ_cons, List.drop_zero, List.take_succ_cons, List.take_zero, List.cons_append, List.nil_append]
    go_wp2_with fail
    refine ⟨fun h => absurd h (by decide), ?_⟩
    refine wpPlan_act rfl ?_
    simp only [pickOps, List.drop_succ_cons, List.drop_zero, List.take_succ_cons, List.take_zero, List.cons_append, List.nil_append]
    go_wp2_with fail
    refine ⟨fun h => absurd h (by decide), wpPlan_nil ?_⟩
    go_wp2_with fail
    exact bodyPost_ret (ret_cat _ _ _ _ _ _ _ rfl (put4 HA2.out.1.2.2 _ _ _ _)) rfl ⟨by rw [HI.out]; rfl, bel4 HA2.out.2 (by omega) _ _ _ _⟩
  · have he' : (er != 0) = true := by rw [bne_iff_ne]; exact he
    have HT : Hid (textE k1 (x, er) = badV er) := Lib.hid (if_neg he)
    clear he
    go_enter Tryd.func43, Tryd.ntmps43
    go_upto_region 3 with fail
    have k0 : ∀ x, Grows _ x → x.cell? ⟨w.heap.size, 0, none⟩ = some (.int .i64 k1) := fun x h => (cells4 (HA0.out.below h).1.1).1
    have k2' : ∀ x, Grows _ x → x.cell? ⟨w.heap.size, 2, none⟩ = some (.string ⟨s1.toArray⟩) := fun x h => (cells4 (HA0.out.below h).1.1).2.2.1
    have k3 : ∀ x, Grows _ x → x.cell? ⟨w.heap.size + 1, 2, none⟩ = some (.string ⟨s2.toArray⟩) := fun x h => (cells4 (HA0.out.below h).1.2.1).2.2.1
    refine wp_region_plan (Grows _) 14 [.reads [0, 1, 3, 4, 5, 6, 7], .act 2, .act 8, .reads [9, 10], .act 11, .reads [12, 13], .act 14, .act 15] (by kernel_rfl) (by kernel_rfl) (by kernel_rfl) (by kernel_rfl) (by kernel_rfl) (fun _ _ d _ _ h => by cases d <;> exact h) (Grows.self _) ?_
    refine wpPlan_reads ?_
    simp only [pickOps, List.drop_succ_cons, List.drop_zero, List.take_succ_cons, List.take_zero, List.cons_append, List.nil_append]
    repeat (go_big_quiet_step (first | (intro hb; rw [k0 _ hb]; exact ⟨rfl, rfl⟩) | (intro hb; rw [k2' _ hb]; exact ⟨rfl, rfl⟩) | (intro hb; rw [k3 _ hb]; exact ⟨rfl, rfl⟩)))
    refine wpQuiet_nil ?_
    clear k0 k2' k3
    refine wpPlan_act rfl ?_
    simp only [pickOps, List.drop_succ_cons, List.drop_zero, List.take_succ_cons, List.take_zero, List.cons_append, List.nil_append]
    go_wp2_with fail
    ((with_reducible refine (text_b _ _).mono ?_))
    rintro e w2 ⟨b, rfl, hb2, hc2⟩
    have HA := Lib.hid (HA0.out.drew.below hb2)
    have HG := Lib.hid ((Grows.self _).trans hb2)
    have HC := Lib.hid hc2
    clear hb2 hc2 HA0
    go_wp2_with fail
    refine ⟨fun _ => HG.out, ?_⟩
    refine wpPlan_act rfl ?_
    simp only [pickOps, List.drop_succ_cons, List.drop_zero, List.take_succ_cons, List.take_zero, List.cons_append, List.nil_append]
    go_wp2_with fail
    ((with_reducible refine (limited_any (s1 ++ s2) _ (by rw [List.length_append]; omega)).mono ?_))
    rintro e w3 ⟨rfl, rfl⟩
    rw [HI.out]
    go_wp2_with fail
    refine ⟨fun _ => HG.out, ?_⟩
    refine wpPlan_reads ?_
    simp only [pickOps, List.drop_succ_cons, List.drop_zero, List.take_succ_cons, List.take_zero, List.cons_append, List.nil_append]
    repeat (go_big_quiet_step (fail))
    refine wpQuiet_nil ?_
    refine wpPlan_act rfl ?_
    simp only [pickOps, List.drop_succ_cons, List.drop_zero, List.take_succ_cons, List.take_zero, List.cons_append, List.nil_append]
    go_wp2_with fail
    ((with_reducible refine (text1_err er x _ _ he').mono ?_))
    rintro e w3 ⟨rfl, hb2⟩
    have HA2 := Lib.hid (HA.out.below hb2)
    have HG2 := Lib.hid (HG.out.trans hb2)
    clear hb2 HA HC
    have hn := HA2.out.1.2.2
    obtain ⟨c0, c1, c2, c3⟩ := cells4 hn
    have f0 := free3 hn 0
    have f1 := free3 hn 1
    have f2 := free3 hn 2
    have f3 := free3 hn 3
    clear hn
    go_wp2_with fail
    refine ⟨fun _ => HG2.out, ?_⟩
    refine wpPlan_reads ?_
    simp only [pickOps, List.drop_succ_cons, List.drop_zero, List.take_succ_cons, List.take_zero, List.cons_append, List.nil_append]
    repeat (go_big_quiet_step (fail))
    refine wpQuiet_nil ?_
    refine wpPlan_act rfl ?_
    simp only [pickOps, List.drop_succ_cons, List.drop_zero, List.take_succ_cons, List.take_zero, List.cons_append, List.nil_append]
    go_wp2_with fail
    refine ⟨fun h => absurd h (by decide), ?_⟩
    refine wpPlan_act rfl ?_
    simp only [pickOps, List.drop_succ_cons, List.drop_zero, List.take_succ_cons, List.take_zero, List.cons_append, List.nil_append]
    go_wp2_with fail
    refine ⟨fun h => absurd h (by decide), wpPlan_nil ?_⟩
    go_wp2_with fail
    exact bodyPost_ret (ret_cat _ _ _ _ _ _ _ rfl (put4 HA2.out.1.2.2 _ _ _ _)) rfl ⟨by rw [HI.out, HT.out]; rfl, bel4 HA2.out.2 (by omega) _ _ _ _⟩
theorem cat_any (k1 n1 o1 n2 o2 k2 : Int) (s1 s2 : List UInt8) (w : World) (h1 : 0 ≤ n1) (h2 : 0 ≤ n2) (hs1 : k1 ≠ 1 → s1.length ≤ 1000000) (hs2 : k1 ≠ 1 → s2.length ≤ 1000000) : Calls Tryd.prog 43 #[valV k1 n1 s1 o1, valV k2 n2 s2 o2] w (CvPost w (catV k1 n1 s1 n2 s2)) := by
  unfold catV
  by_cases h : k1 = 1
  · subst h; rw [if_pos rfl]; exact cat_int n1 o1 n2 o2 k2 s1 s2 w h1 h2
  · rw [if_neg h]; exact cat_text k1 n1 o1 n2 o2 k2 s1 s2 w h (hs1 h) (hs2 h)
end Go.Proofs.YteifmjhkedhomaaDoor
