/- NspathJoins: the walk. -/
import Derived.Test.YtkalnblbplaheaaDoorNss
import Derived.Test.YtkalnblbplaheaaDoorNsq
namespace Go.Proofs.YtkalnblbplaheaaDoor
open Go.RowKit
set_option linter.unusedVariables false
set_option linter.unusedSimpArgs false
attribute [local go_sem] ByteArray.mk_append_mk bs_get bs_cut bs_end

theorem StrsAt.len {w : World} {v : Value} {l : List (List UInt8)} (h : StrsAt w v l) : l.length ≤ 9223372036854775000 := by
  obtain ⟨_, _, _, h, _⟩ := h
  exact h
theorem SegsOk.strs' {w wr : World} {v : Value} {l : List (List UInt8)} (h : SegsOk w wr v l) (hb : Below w.heap.size w wr) (hl : l.length ≤ 9223372036854775000) : StrsAt wr v l := by
  rcases h with h | h
  · exact h _ hb
  · exact StrsAt.of_own h hl
theorem SegsOk.put3 {w wr : World} {v : Value} {l : List (List UInt8)} (h : SegsOk w wr v l) {b : Nat} {cs : Array Value} (hb : wr.heap[b]? = some (.cells cs 24 (0, 0))) (a0 a1 a2 : Value) : SegsOk w (((wr.setCell ⟨b, 0, none⟩ a0).setCell ⟨b, 1, none⟩ a1).setCell ⟨b, 2, none⟩ a2) v l := by
  rcases h with h | h
  · exact .inl h
  · exact .inr (own_put3 h b (own_not h hb) _ _ _)
theorem C2.bel {w wr : World} {o1 o2 : Obj} (h : C2 w wr o1 o2) : Below w.heap.size w wr := h.2.2
/-- The second box is stored. -/
theorem C2.box2 {w wr : World} {c0 c1 c2 : Value} {o1 : Obj} (h : C2 w wr o1 (.cells #[c0, c1, c2] 24 (0, 0))) (a0 a1 a2 : Value) : C2 w (((wr.setCell ⟨w.heap.size + 1, 0, none⟩ a0).setCell ⟨w.heap.size + 1, 1, none⟩ a1).setCell ⟨w.heap.size + 1, 2, none⟩ a2) o1 (.cells #[a0, a1, a2] 24 (0, 0)) :=
  have hn : w.heap.size ≠ w.heap.size + 1 := by omega
  ⟨blk_other (blk_other (blk_other h.1 _ _ hn) _ _ hn) _ _ hn, Go.Proofs.YtkalnblbplaheaaDoor.put3 h.2.1 _ _ _, bel3 h.2.2 (by omega) _ _ _⟩
theorem own_form {w : World} {B e z : Nat} {v : Value} {n : Nat} {xs : List Value} (h : w.ownsRow B e z v n xs) : ∃ (a : Option Addr) (c : Nat), v = .slice a n c := by
  rcases h.2 with ⟨h1, rfl⟩ | ⟨g, cap, cur, h1, _⟩
  · exact ⟨_, _, h1⟩
  · exact ⟨_, _, h1⟩
/-- The two boxes hold paths that read. -/
def JI (w wr : World) (m : Nat) : Prop := ∃ (r1 : Bool) (u1 : Int) (a1 : Option Addr) (c1 : Nat) (l1 : List (List UInt8)) (r2 : Bool) (u2 : Int) (a2 : Option Addr) (c2 : Nat) (l2 : List (List UInt8)), Hid (C2 w wr (pObj r1 u1 (.slice a1 l1.length c1)) (pObj r2 u2 (.slice a2 l2.length c2))) ∧ Hid (SegsOk w wr (.slice a1 l1.length c1) l1) ∧ Hid (SegsOk w wr (.slice a2 l2.length c2) l2) ∧ Hid (∀ x ∈ l1, x.length ≤ 140737488351232) ∧ Hid (∀ x ∈ l2, x.length ≤ 140737488351232 + m) ∧ l1.length ≤ 9223372036854775000 ∧ l2.length ≤ 9223372036854775000
theorem segB_small {x : List UInt8} (h : segB x = true) : x.length ≤ 4 := by
  by_cases h4 : 4 < x.length
  · rw [segB_len x (.inr h4)] at h; cases h
  · omega
theorem joinV_small {r1 : Bool} {u1 : Int} {l1 : List (List UInt8)} {r2 : Bool} {u2 : Int} {l2 : List (List UInt8)} {O : Option (List (List UInt8))} (h : joinV r1 u1 l1 r2 u2 l2 = O) : (O.getD []).length ≤ 32 := by
  subst h
  unfold joinV
  split
  · simp
  · split
    · simp
    · next hv =>
      have hl := (validB_len (show validB r2 u2 l2 = true by simpa using hv)).2.2.1
      split
      · simpa using hl
      · split
        · simp
        · next h1 h2 =>
          have h0 := (validB_len (show validB r2 u2 l2 = true by simpa using hv)).1
          simp only [Option.getD_some, List.length_append, List.length_take]
          omega
theorem candJ_mem (x : List UInt8) (l1 : List (List UInt8)) : ∀ j, ∀ l ∈ candJ x l1 j, l.length ≤ j + 1
  | 0 => by simp [candJ]
  | j + 1 => by
    intro l hl
    rw [candJ, List.mem_append] at hl
    rcases hl with hl | hl
    · split at hl
      · rw [List.mem_singleton.1 hl]; simp; omega
      · simp at hl
    · exact Nat.le_trans (candJ_mem x l1 j l hl) (by omega)
theorem candV_small {r1 : Bool} {u1 : Int} {l1 : List (List UInt8)} {r2 : Bool} {u2 : Int} {l2 : List (List UInt8)} {O : List (List (List UInt8))} (h : candV r1 u1 l1 r2 u2 l2 = O) : O.length ≤ 1000 ∧ ∀ l ∈ O, l.length ≤ 1000 := by
  subst h
  unfold candV
  split
  · next hv =>
    simp only [Bool.and_eq_true] at hv
    obtain ⟨h1, h2⟩ := hv
    have h32 := (absB_len h1).2.2.1
    split
    · have := joinV_small (rfl : joinV r1 u1 l1 r2 u2 l2 = _)
      cases hj : joinV r1 u1 l1 r2 u2 l2 with
      | none => simp
      | some l => rw [hj] at this; simp at this ⊢; omega
    · refine ⟨Nat.le_trans (candJ_len _ _ _) (by omega), fun l hl => ?_⟩
      exact Nat.le_trans (candJ_mem _ _ _ l hl) (by omega)
  · simp
set_option maxRecDepth 100000 in
set_option maxHeartbeats 2000000 in
theorem joins_walk (p q : Value) (r1 : Bool) (u1 : Int) (l1 : List (List UInt8)) (r2 : Bool) (u2 : Int) (l2 : List (List UInt8)) (w : World) (m : Int) (hm : w.cell? ⟨0, 0, none⟩ = some (.int .i64 m)) (hp : PathV w p r1 u1 l1) (hq : PathV w q r2 u2 l2) (hx1 : ∀ x ∈ l1, x.length ≤ 140737488351232) (hx2 : ∀ x ∈ l2, x.length ≤ 140737488351232) :
    Calls Tryd.prog 6 #[p, q] w fun e w' => e = .returned (.bool true) ∧ Below w.heap.size w w' := by
  obtain ⟨v1, rfl, s1⟩ := hp
  obtain ⟨v2, rfl, s2⟩ := hq
  have HC := Lib.hid (C2.start w (pObj r1 u1 v1) (pObj r2 u2 v2))
  have S1 : Hid (∀ wr, Below w.heap.size w wr → StrsAt wr v1 l1) := Lib.hid (fun wr h => s1.below h)
  have S2 : Hid (∀ wr, Below w.heap.size w wr → StrsAt wr v2 l2) := Lib.hid (fun wr h => s2.below h)
  have HX1 := Lib.hid hx1
  have HX2 := Lib.hid hx2
  have HM := Lib.hid hm
  have HL := Lib.hid (And.intro s1.len s2.len)
  obtain ⟨a1, cap1, rfl, _⟩ := s1.form
  obtain ⟨a2, cap2, rfl, _⟩ := s2.form
  clear hx1 hx2 s1 s2 hm
  go_enter Tryd.func6, Tryd.ntmps6
  go_wp2_with fail
  go_loopw [5] (fun i wr => ∃ k : Nat, i = .int .i64 k ∧ k ≤ 3 ∧ JI w wr (5 * k)) (fun i _ => 3 - (intOf i).toNat)
  case atStart => exact ⟨0, rfl, by omega, _, _, _, _, _, _, _, _, _, _, HC, Lib.hid (.inl S1.out), Lib.hid (.inl S2.out), HX1, HX2, HL.out.1, HL.out.2⟩
  case round =>
    clear HC S1 S2 HX1 HX2 HL
    obtain ⟨k, rfl, hk, hJ⟩ := hrel
    obtain ⟨w1, rfl⟩ : ∃ x : World, x = wr := ⟨_, rfl⟩
    by_cases hlt : k < 3
    · go_upto_if 15 with fail
      go_cut [5] (fun i wx => i = .int .i64 k ∧ JI w wx (5 * k))
      case first =>
        by_cases hk1 : k = 1
        · subst hk1
          obtain ⟨r1, u1, a1, c1, l1, r2, u2, a2, c2, l2, HC, S1, S2, X1, X2, n1, n2⟩ := hJ
          obtain ⟨d0, d1, d2⟩ := cells3 HC.out.1
          have XS := Lib.hid (segV_small X1.out)
          go_wp2_with fail
          ((with_reducible refine (absolute_any _ r1 u1 l1 _ (PathV.mk (S1.out.strs' HC.out.bel n1)) XS.out.1 XS.out.2).mono ?_))
          rintro e w2 ⟨v, rfl, ho, hb⟩
          obtain ⟨a3, c3, rfl⟩ := own_form ho
          have HC2 := Lib.hid (HC.out.below hb)
          have S22 := Lib.hid (S2.out.below hb)
          have HO := Lib.hid ho
          clear ho hb HC S1 S2 d0 d1 d2 XS
          obtain ⟨d0, d1, d2⟩ := cells3 HC2.out.1
          have f0 := free3 HC2.out.1 0
          have f1 := free3 HC2.out.1 1
          have f2 := free3 HC2.out.1 2
          have HC3 := Lib.hid (HC2.out.box (.bool true) (.int .i64 0) (.slice a3 (absL l1).length c3))
          have S3 := Lib.hid (S22.out.put3 HC2.out.1 (.bool true) (.int .i64 0) (.slice a3 (absL l1).length c3))
          have HO3 : Hid (SegsOk w (((w2.setCell ⟨w.heap.size, 0, none⟩ (.bool true)).setCell ⟨w.heap.size, 1, none⟩ (.int .i64 0)).setCell ⟨w.heap.size, 2, none⟩ (.slice a3 (absL l1).length c3)) (.slice a3 (absL l1).length c3) (absL l1)) := Lib.hid (.inr (own_base (own_put3 HO.out w.heap.size (own_not HO.out HC2.out.1) _ _ _) (Nat.zero_le _)))
          clear HC2 S22 HO
          go_wp2_with fail
          go_meet
          exact ⟨rfl, _, _, _, _, _, _, _, _, _, _, HC3, HO3, S3, Lib.hid (fun x hx => Nat.le_trans (segB_small (absK_seg l1 _ x hx)) (by omega)), X2, by have := absL_len l1; omega, n2⟩
        · have hkb : ((k : Int) == 1) = false := by simp; omega
          go_wp2_with fail
          go_meet
          exact ⟨rfl, hJ⟩
      case rest =>
        obtain ⟨rfl, hJ2⟩ := hcut
        obtain ⟨w2, rfl⟩ : ∃ x : World, x = wc := ⟨_, rfl⟩
        clear hJ
        go_upto_if 19 with fail
        go_cut [5] (fun i wx => i = .int .i64 k ∧ JI w wx (5 * k + 5))
        case first =>
          obtain ⟨r1, u1, a1, c1, l1, r2, u2, a2, c2, l2, HC, S1, S2, X1, X2, n1, n2⟩ := hJ2
          by_cases hk1 : k = 2
          · subst hk1
            obtain ⟨d0, d1, d2⟩ := cells3 HC.out.2.1
            have XS : Hid ((∀ x ∈ l2, x.length ≤ 9223372036854775000) ∧ (∀ x ∈ l2, (segV x).length ≤ 9223372036854775000)) := Lib.hid ⟨fun x h => Nat.le_trans (X2.out x h) (by omega), fun x h => Nat.le_trans (segV_len x) (by have := X2.out x h; omega)⟩
            go_wp2_with fail
            ((with_reducible refine (path_any _ r2 u2 l2 _ (PathV.mk (S2.out.strs' HC.out.bel n2)) XS.out.1 XS.out.2).mono ?_))
            rintro e w3 ⟨v, rfl, ho, hb⟩
            obtain ⟨a3, c3, rfl⟩ := own_form ho
            have HC2 := Lib.hid (HC.out.below hb)
            have S22 := Lib.hid (S1.out.below hb)
            have HO := Lib.hid ho
            clear ho hb HC S1 S2 d0 d1 d2 XS
            obtain ⟨U, hU⟩ : ∃ U, upV r2 u2 = U := ⟨_, rfl⟩
            rw [hU]
            clear hU
            obtain ⟨d0, d1, d2⟩ := cells3 HC2.out.2.1
            have f0 := free3 HC2.out.2.1 0
            have f1 := free3 HC2.out.2.1 1
            have f2 := free3 HC2.out.2.1 2
            have HC3 := Lib.hid (HC2.out.box2 (.bool r2) (.int .i64 U) (.slice a3 (pathL l2).length c3))
            have S3 := Lib.hid (S22.out.put3 HC2.out.2.1 (.bool r2) (.int .i64 U) (.slice a3 (pathL l2).length c3))
            have HO3 : Hid (SegsOk w (((w3.setCell ⟨w.heap.size + 1, 0, none⟩ (.bool r2)).setCell ⟨w.heap.size + 1, 1, none⟩ (.int .i64 U)).setCell ⟨w.heap.size + 1, 2, none⟩ (.slice a3 (pathL l2).length c3)) (.slice a3 (pathL l2).length c3) (pathL l2)) := Lib.hid (.inr (own_base (own_put3 HO.out (w.heap.size + 1) (own_not HO.out HC2.out.2.1) _ _ _) (Nat.zero_le _)))
            clear HC2 S22 HO
            go_wp2_with fail
            go_meet
            exact ⟨rfl, _, _, _, _, _, _, _, _, _, _, HC3, S3, HO3, X1, Lib.hid (fun x hx => Nat.le_trans (pathK_mem l2 _ X2.out _ x hx) (by omega)), n1, pathL_le l2⟩
          · have hkb : ((k : Int) == 2) = false := by simp; omega
            go_wp2_with fail
            go_meet
            exact ⟨rfl, _, _, _, _, _, _, _, _, _, _, HC, S1, S2, X1, Lib.hid (fun x hx => Nat.le_trans (X2.out x hx) (by omega)), n1, n2⟩
        case rest =>
          obtain ⟨rfl, hJ3⟩ := hcut
          obtain ⟨w3, rfl⟩ : ∃ x : World, x = wc := ⟨_, rfl⟩
          clear hJ2
          obtain ⟨r1, u1, a1, c1, l1, r2, u2, a2, c2, l2, HC, S1, S2, X1, X2, n1, n2⟩ := hJ3
          have X2' : Hid (∀ x ∈ l2, x.length ≤ 140737488351232 + 5 * (k + 1)) := Lib.hid (fun x hx => Nat.le_trans (X2.out x hx) (by omega))
          obtain ⟨b0, b1, b2⟩ := cells3 HC.out.1
          obtain ⟨d0, d1, d2⟩ := cells3 HC.out.2.1
          by_cases g1 : (100 : Int) < (l1.length : Int)
          · go_wp2_with fail
            go_roundw
            case rel => exact ⟨k + 1, by go_num, by omega, _, _, _, _, _, _, _, _, _, _, HC, S1, S2, X1, X2', n1, n2⟩
            case measure => simp [intOf]; omega
          · by_cases g2 : (100 : Int) < (l2.length : Int)
            · go_wp2_with fail
              go_roundw
              case rel => exact ⟨k + 1, by go_num, by omega, _, _, _, _, _, _, _, _, _, _, HC, S1, S2, X1, X2', n1, n2⟩
              case measure => simp [intOf]; omega
            · go_upto_region 9 with fail
              have XS : Hid ((∀ x ∈ l1, x.length ≤ 9223372036854775000) ∧ (∀ x ∈ l2, x.length ≤ 9223372036854775000)) := Lib.hid ⟨fun x h => Nat.le_trans (X1.out x h) (by omega), fun x h => Nat.le_trans (X2.out x h) (by omega)⟩
              obtain ⟨O, hO⟩ : ∃ O, Hid (joinV r1 u1 l1 r2 u2 l2 = O) := ⟨_, Lib.hid rfl⟩
              have HLO : Hid ((O.getD []).length ≤ 9223372036854775000) := Lib.hid (Nat.le_trans (joinV_small hO.out) (by decide))
              have HN := Lib.hid (join_any _ _ r1 r2 u1 u2 l1 l2 _ (PathV.mk (S1.out.strs' HC.out.bel n1)) (PathV.mk (S2.out.strs' HC.out.bel n2)) XS.out.1 XS.out.2)
              rw [hO.out] at HN
              go_wp2_with fail
              ((with_reducible refine HN.out.mono ?_))
              rintro e w4 ⟨v4, rfl, ho, hb⟩
              obtain ⟨a4, c4, rfl⟩ := own_form ho
              obtain ⟨k1, k2⟩ := newBox w4 (pObj O.isSome 0 (.slice a4 (O.getD []).length c4))
              have HC4 := Lib.hid ((HC.out.below hb).below k1)
              have S14 := Lib.hid ((S1.out.below hb).below k1)
              have S24 := Lib.hid ((S2.out.below hb).below k1)
              have HO4 := Lib.hid (own_below ho k1)
              have HB4 := Lib.hid k2
              clear ho hb k1 k2 HN HC S1 S2 b0 b1 b2 d0 d1 d2
              go_upto_region 10 with fail
              generalize (w4.alloc (pObj O.isSome 0 (.slice a4 (O.getD []).length c4))) = w5 at *
              obtain ⟨b0, b1, b2⟩ := cells3 HC4.out.1
              obtain ⟨d0, d1, d2⟩ := cells3 HC4.out.2.1
              have HN := Lib.hid (rjoin_any _ _ r1 r2 u1 u2 l1 l2 _ (PathV.mk (S14.out.strs' HC4.out.bel n1)) (PathV.mk (S24.out.strs' HC4.out.bel n2)) XS.out.1 XS.out.2)
              rw [hO.out] at HN
              go_wp2_with fail
              ((with_reducible refine HN.out.mono ?_))
              rintro e w6 ⟨v6, rfl, ho, hb⟩
              obtain ⟨a6, c6, rfl⟩ := own_form ho
              obtain ⟨k1, k2⟩ := newBox w6 (pObj O.isSome 0 (.slice a6 (O.getD []).length c6))
              have HC6 := Lib.hid ((HC4.out.below hb).below k1)
              have S16 := Lib.hid ((S14.out.below hb).below k1)
              have S26 := Lib.hid ((S24.out.below hb).below k1)
              have HO5 := Lib.hid (own_below (own_below HO4.out hb) k1)
              have HB5 := Lib.hid (blk_below (blk_below HB4.out hb) k1)
              have HO6 := Lib.hid (own_below ho k1)
              have HB6 := Lib.hid k2
              clear ho hb k1 k2 HN HC4 S14 S24 HO4 HB4 b0 b1 b2 d0 d1 d2
              go_upto_region 11 with fail
              generalize (w6.alloc (pObj O.isSome 0 (.slice a6 (O.getD []).length c6))) = w7 at *
              obtain ⟨k0, k1, k2⟩ := grow3 HC6.out.1
              obtain ⟨e0, e1, e2⟩ := grow3 HC6.out.2.1
              obtain ⟨ma0, ma1, ma2⟩ := grow3 HB5.out
              obtain ⟨mb0, mb1, mb2⟩ := grow3 HB6.out
              obtain ⟨CL, hCL⟩ : ∃ CL, Hid (candV r1 u1 l1 r2 u2 l2 = CL) := ⟨_, Lib.hid rfl⟩
              have HCS := Lib.hid (candV_small hCL.out)
              generalize O.isSome = I at *
              cases I
              all_goals
                refine wp_region_plan (Grows w7) 19 [.reads [0, 1], .act 2, .reads [3, 4, 5, 6, 7, 8, 9, 10, 11, 13, 14], .act 12, .act 15, .act 16, .reads [17, 18]] (by kernel_rfl) (by kernel_rfl) (by kernel_rfl) (by kernel_rfl) (by kernel_rfl) (fun _ _ d _ _ h => by cases d <;> exact h) (Grows.self _) ?_
                have HG : Hid (Grows w7 w7.drew) := Lib.hid (Grows.self w7)
                refine wpPlan_reads ?_
                simp only [pickOps, List.drop_succ_cons, List.drop_zero, List.take_succ_cons, List.take_zero, List.cons_append, List.nil_append]
                repeat (go_big_quiet_step (first | (intro hb; rw [ma0 _ hb]; simp only [Result.andThen]; rw [ma1 _ hb]; simp only; rw [ma2 _ hb]; exact ⟨rfl, rfl⟩) | (intro hb; rw [mb0 _ hb]; simp only [Result.andThen]; rw [mb1 _ hb]; simp only; rw [mb2 _ hb]; exact ⟨rfl, rfl⟩)))
                refine wpQuiet_nil ?_
                clear ma0 ma1 ma2 mb0 mb1 mb2
                refine wpPlan_act rfl ?_
                simp only [pickOps, List.drop_succ_cons, List.drop_zero, List.take_succ_cons, List.take_zero, List.cons_append, List.nil_append]
                go_wp2_with fail
                ((with_reducible refine (same_any _ _ _ _ 0 0 (O.getD []) (O.getD []) _ (PathV.mk (StrsAt.of_own (own_below HO5.out (growB HG.out)) HLO.out)) (PathV.mk (StrsAt.of_own (own_below HO6.out (growB HG.out)) HLO.out))).mono ?_))
                rintro e wx ⟨rfl, hb⟩
                rw [sameB_self]
                have HG2 := Lib.hid (HG.out.trans hb)
                clear hb HG HO5 HO6 HB5 HB6
                go_wp2_with fail
                refine ⟨fun _ => HG2.out, ?_⟩
                refine wpPlan_reads ?_
                simp only [pickOps, List.drop_succ_cons, List.drop_zero, List.take_succ_cons, List.take_zero, List.cons_append, List.nil_append]
                repeat (go_big_quiet_step (first | (intro hb; rw [k0 _ hb]; simp only [Result.andThen]; rw [k1 _ hb]; simp only; rw [k2 _ hb]; exact ⟨rfl, rfl⟩) | (intro hb; rw [e0 _ hb]; simp only [Result.andThen]; rw [e1 _ hb]; simp only; rw [e2 _ hb]; exact ⟨rfl, rfl⟩)))
                refine wpQuiet_nil ?_
                clear k0 k1 k2 e0 e1 e2
                refine wpPlan_act rfl ?_
                simp only [pickOps, List.drop_succ_cons, List.drop_zero, List.take_succ_cons, List.take_zero, List.cons_append, List.nil_append]
                go_wp2_with fail
                have HN := Lib.hid (candidates_any _ _ r1 r2 u1 u2 l1 l2 _ (PathV.mk ((S16.out.below (growB HG2.out)).strs' (HC6.out.below (growB HG2.out)).bel n1)) (PathV.mk ((S26.out.below (growB HG2.out)).strs' (HC6.out.below (growB HG2.out)).bel n2)) XS.out.1 XS.out.2)
                rw [hCL.out] at HN
                ((with_reducible refine HN.out.mono ?_))
                rintro e wy ⟨vy, rfl, hy, hb⟩
                have HY := Lib.hid hy
                have HG3 := Lib.hid (HG2.out.trans hb)
                clear hy hb HN HG2
                go_wp2_with fail
                refine ⟨fun _ => HG3.out, ?_⟩
                refine wpPlan_act rfl ?_
                simp only [pickOps, List.drop_succ_cons, List.drop_zero, List.take_succ_cons, List.take_zero, List.cons_append, List.nil_append]
                go_wp2_with fail
                have HN := Lib.hid (rcandidates_any _ _ r1 r2 u1 u2 l1 l2 _ (PathV.mk ((S16.out.below (growB HG3.out)).strs' (HC6.out.below (growB HG3.out)).bel n1)) (PathV.mk ((S26.out.below (growB HG3.out)).strs' (HC6.out.below (growB HG3.out)).bel n2)) XS.out.1 XS.out.2)
                rw [hCL.out] at HN
                ((with_reducible refine HN.out.mono ?_))
                rintro e wz ⟨vz, rfl, hz, hb⟩
                have HZ := Lib.hid hz
                have HY2 := Lib.hid (HY.out.below hb)
                have HG4 := Lib.hid (HG3.out.trans hb)
                clear hz hb HN HY HG3
                go_wp2_with fail
                refine ⟨fun _ => HG4.out, ?_⟩
                refine wpPlan_act rfl ?_
                simp only [pickOps, List.drop_succ_cons, List.drop_zero, List.take_succ_cons, List.take_zero, List.cons_append, List.nil_append]
                go_wp2_with fail
                ((with_reducible refine (equalF_yes _ _ CL _ _ _ HY2.out HZ.out HCS.out.1 HCS.out.2).mono ?_))
                rintro e w8 ⟨rfl, hb⟩
                have HG5 := Lib.hid (HG4.out.trans hb)
                clear hb HG4 HZ HY2
                go_wp2_with fail
                refine ⟨fun _ => HG5.out, ?_⟩
                refine wpPlan_reads ?_
                simp only [pickOps, List.drop_succ_cons, List.drop_zero, List.take_succ_cons, List.take_zero, List.cons_append, List.nil_append]
                repeat (go_big_quiet_step (fail))
                refine wpQuiet_nil (wpPlan_nil ?_)
                have HC7 := Lib.hid (HC6.out.below (growB HG5.out))
                have S17 := Lib.hid (S16.out.below (growB HG5.out))
                have S27 := Lib.hid (S26.out.below (growB HG5.out))
                clear HC6 S16 S26
                go_wp2_with fail
                go_roundw
                case rel => exact ⟨k + 1, by go_num, by omega, _, _, _, _, _, _, _, _, _, _, HC7, S17, S27, X1, X2', n1, n2⟩
                case measure => simp [intOf]; omega
    · obtain rfl : k = 3 := by omega
      obtain ⟨r1, u1, a1, c1, l1, r2, u2, a2, c2, l2, HC, S1, S2, X1, X2, n1, n2⟩ := hJ
      go_wp2_with fail
      ((with_reducible refine (awake_any m _ (keep0 HM.out HC.out.bel (Nat.le_refl _))).mono ?_))
      rintro e w2 ⟨rfl, hb⟩
      have HC2 := Lib.hid (HC.out.below hb)
      clear hb
      go_wp2_with fail
      go_ret
      exact ⟨rfl, HC2.out.bel⟩
end Go.Proofs.YtkalnblbplaheaaDoor
