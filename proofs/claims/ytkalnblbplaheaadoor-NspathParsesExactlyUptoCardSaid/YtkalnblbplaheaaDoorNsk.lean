/- Candidates of the reference: the walk. -/
import Derived.Test.YtkalnblbplaheaaDoorNsj
namespace Go.Proofs.YtkalnblbplaheaaDoor
open Go.RowKit
set_option linter.unusedVariables false
set_option linter.unusedSimpArgs false
attribute [local go_sem] ByteArray.mk_append_mk bs_get bs_cut bs_end

/-- The scope's box is stored. -/
theorem C2.box {w wr : World} {c0 c1 c2 : Value} {o2 : Obj} (h : C2 w wr (.cells #[c0, c1, c2] 24 (0, 0)) o2) (a0 a1 a2 : Value) : C2 w (((wr.setCell ⟨w.heap.size, 0, none⟩ a0).setCell ⟨w.heap.size, 1, none⟩ a1).setCell ⟨w.heap.size, 2, none⟩ a2) (.cells #[a0, a1, a2] 24 (0, 0)) o2 :=
  have hn : w.heap.size + 1 ≠ w.heap.size := by omega
  ⟨Go.Proofs.YtkalnblbplaheaaDoor.put3 h.1 _ _ _, blk_other (blk_other (blk_other h.2.1 _ _ hn) _ _ hn) _ _ hn, bel3 h.2.2 (Nat.le_refl _) _ _ _⟩
/-- At the loop's head. -/
def LoopR (w wr : World) (o2 : Obj) (x : List UInt8) (l1 : List (List UInt8)) (found : Value) : Prop :=
  ∃ (v8 : Value) (j : Nat) (ls : List (List (List UInt8))), Hid (C2 w wr (pObj true 0 v8) o2) ∧ Hid (SegsOk w wr v8 (l1.take j)) ∧ Hid (PsOwn wr (w.heap.size + 2) found ls) ∧ j ≤ l1.length ∧ ls ++ candJ x l1 j = candJ x l1 l1.length
set_option maxHeartbeats 2000000 in
theorem rcandidates_any (p q : Value) (r1 r2 : Bool) (u1 u2 : Int) (l1 l2 : List (List UInt8)) (w : World) (hp : PathV w p r1 u1 l1) (hq : PathV w q r2 u2 l2) (hx1 : ∀ x ∈ l1, x.length ≤ 9223372036854775000) (hx2 : ∀ x ∈ l2, x.length ≤ 9223372036854775000) :
    Calls Tryd.prog 24 #[p, q] w (CPost w (candV r1 u1 l1 r2 u2 l2)) := by
  obtain ⟨v1, rfl, s1⟩ := hp
  obtain ⟨v2, rfl, s2⟩ := hq
  have HC := Lib.hid (C2.start w (pObj r1 u1 v1) (pObj r2 u2 v2))
  have S1 : Hid (∀ wr, Below w.heap.size w wr → StrsAt wr v1 l1) := Lib.hid (fun wr h => s1.below h)
  have S2 : Hid (∀ wr, Below w.heap.size w wr → StrsAt wr v2 l2) := Lib.hid (fun wr h => s2.below h)
  have HX1 := Lib.hid hx1
  have HX2 := Lib.hid hx2
  obtain ⟨a1, cap1, rfl, _⟩ := s1.form
  obtain ⟨a2, cap2, rfl, _⟩ := s2.form
  clear hx1 hx2 s1 s2
  go_enter Tryd.func24, Tryd.ntmps24
  go_upto_region 2 with fail
  go_cut [24] (fun z wx => z = .bool (!(absB r1 u1 l1 && validB r2 u2 l2)) ∧ Hid (C2 w wx (pObj r1 u1 (.slice a1 l1.length cap1)) (pObj r2 u2 (.slice a2 l2.length cap2))))
  case first =>
    have HN := Lib.hid (validPath_any _ r1 u1 l1 _ (PathV.mk (S1.out _ HC.out.2.2)) HX1.out)
    obtain ⟨c0, c1, c2⟩ := cells3 HC.out.1
    cases hv : validB r1 u1 l1
    · rw [hv] at HN
      have HA : Hid (absB r1 u1 l1 = false) := Lib.hid (by unfold absB; rw [hv, Bool.and_false])
      go_wp2_with fail
      ((with_reducible refine HN.out.mono ?_))
      rintro e w1 ⟨rfl, hb⟩
      have HC1 := Lib.hid (HC.out.below hb)
      clear hb HN HC c0 c1 c2
      go_wp2_with fail
      go_meet
      exact ⟨by rw [HA.out]; rfl, HC1⟩
    · rw [hv] at HN
      have HA : Hid (absB r1 u1 l1 = r1) := Lib.hid (by unfold absB; rw [hv, Bool.and_true])
      go_wp2_with fail
      ((with_reducible refine HN.out.mono ?_))
      rintro e w1 ⟨rfl, hb⟩
      have HC1 := Lib.hid (HC.out.below hb)
      clear hb HN HC c0 c1 c2
      have HN := Lib.hid (validPath_any _ r2 u2 l2 _ (PathV.mk (S2.out _ HC1.out.2.2)) HX2.out)
      obtain ⟨c0, c1, c2⟩ := cells3 HC1.out.2.1
      obtain ⟨d0, d1, d2⟩ := cells3 HC1.out.1
      cases r1
      · go_wp2_with fail
        go_meet
        exact ⟨by rw [HA.out]; rfl, HC1⟩
      · go_wp2_with fail
        ((with_reducible refine HN.out.mono ?_))
        rintro e w2 ⟨rfl, hb⟩
        have HC2 := Lib.hid (HC1.out.below hb)
        clear hb HN HC1 c0 c1 c2 d0 d1 d2
        go_wp2_with fail
        go_meet
        exact ⟨by rw [HA.out]; rfl, HC2⟩
  case rest =>
    obtain ⟨rfl, HC1⟩ := hcut
    clear HC
    cases hv : (absB r1 u1 l1 && validB r2 u2 l2)
    · have HV : Hid (candV r1 u1 l1 r2 u2 l2 = []) := Lib.hid (by unfold candV; rw [hv]; rfl)
      clear hv
      go_wp2_with fail
      go_ret
      exact ⟨_, rfl, by rw [HV.out]; exact PsOwn.nil _ _, HC1.out.2.2⟩
    · have HV : Hid (candV r1 u1 l1 r2 u2 l2 = if manyB r2 u2 l2 = true then (joinV r1 u1 l1 r2 u2 l2).toList else candJ (l2.getD 0 []) l1 l1.length) := Lib.hid (by unfold candV; rw [hv]; rfl)
      have hvv : absB r1 u1 l1 = true ∧ validB r2 u2 l2 = true := by simpa using hv
      obtain ⟨hva, hvb⟩ := hvv
      have HVA := Lib.hid hva
      have HVB := Lib.hid hvb
      clear hv hva hvb
      obtain ⟨c0, c1, c2⟩ := cells3 HC1.out.2.1
      obtain ⟨d0, d1, d2⟩ := cells3 HC1.out.1
      obtain ⟨wr, hwr⟩ : ∃ x, x = wc := ⟨_, rfl⟩
      subst hwr
      go_upto_region 4 with fail
      go_cut [37] (fun z wx => z = .bool (manyB r2 u2 l2) ∧ wr = wx)
      case first =>
        cases r2
        · by_cases hu : 0 < u2
          · go_wp2_with fail
            go_meet
            exact ⟨by unfold manyB; simp [hu], rfl⟩
          · by_cases hl : l2.length = 1
            · have hl' : ((l2.length : Int) != 1) = false := by rw [bne_eq_false_iff_eq]; omega
              have HL := Lib.hid hl
              clear hl
              go_wp2_with fail
              go_meet
              exact ⟨by unfold manyB; simp [hu, HL.out], rfl⟩
            · have hl' : ((l2.length : Int) != 1) = true := by rw [bne_iff_ne]; omega
              go_wp2_with fail
              go_meet
              exact ⟨by unfold manyB; simp [hu, hl], rfl⟩
        · go_wp2_with fail
          go_meet
          exact ⟨rfl, rfl⟩
      case rest =>
        obtain ⟨rfl, rfl⟩ := hcut
        cases hm : manyB r2 u2 l2
        · rw [hm, if_neg (by decide)] at HV
          obtain ⟨rfl, rfl, x, hl2⟩ := manyB_no hm HVB.out
          have HL2 := Lib.hid hl2
          obtain ⟨rfl, rfl, h32, hsg⟩ := absB_len HVA.out
          rw [show l2.getD 0 [] = x by rw [hl2]; rfl] at HV
          clear hm hl2
          have HSG := Lib.hid hsg
          clear hsg
          have HS3 : Hid (SegsOk w wr (.slice a1 l1.length cap1) l1) := Lib.hid (.inl S1.out)
          go_wp2_with fail
          go_loopw [5] (fun f wz => LoopR w wz (pObj false 0 (.slice a2 l2.length cap2)) x l1 f) (fun f wz => candM (.pointer (some ⟨w.heap.size, 0, none⟩)) (.bool true) wz)
          case atStart => exact ⟨_, l1.length, [], HC1, by rw [List.take_length]; exact HS3, Lib.hid (PsOwn.nil _ _), Nat.le_refl _, rfl⟩
          case round =>
            obtain ⟨v8, j, ls, HC4, HS8, HPS, hj, hls⟩ := hrel
            clear HC1 HS3 c0 c1 c2 d0 d1 d2
            have HLS := Lib.hid hls
            clear hls
            have hn8 : (l1.take j).length = j := by rw [List.length_take]; omega
            obtain ⟨a8, cap8, rfl, _⟩ := (HS8.out.strs HC4.out.2.2 (by omega)).form
            have HT8 := Lib.hid (HS8.out.strs HC4.out.2.2 (by omega))
            obtain ⟨a5, c5, rfl⟩ := HPS.out.form
            rw [hn8] at HC4 HS8 HT8
            obtain ⟨c0, c1, c2⟩ := cells3 HC4.out.2.1
            obtain ⟨d0, d1, d2⟩ := cells3 HC4.out.1
            have HXJ : Hid (∀ y ∈ l1.take j, y.length ≤ 9223372036854775000) := Lib.hid (fun y hy => HX1.out y (List.mem_of_mem_take hy))
            have HJ := Lib.hid (rjoin_any _ _ true false 0 0 (l1.take j) l2 _ (PathV.mk HT8.out) (PathV.mk (S2.out _ HC4.out.2.2)) HXJ.out HX2.out)
            rw [joinV_one HL2.out HVA.out HVB.out j hj] at HJ
            obtain ⟨o, ho⟩ : ∃ o, (if j + 1 ≤ 32 then some (l1.take j ++ [x]) else none) = o := ⟨_, rfl⟩
            have HO : Hid ((if j + 1 ≤ 32 then [l1.take j ++ [x]] else []) = o.toList) := Lib.hid (by rw [← ho]; split <;> rfl)
            have HM : Hid (candM (.pointer (some ⟨w.heap.size, 0, none⟩)) (.bool true) wr = j + 1) := Lib.hid (by unfold candM; simp only [d2])
            have HLL : Hid (ls.length ≤ 1000) := Lib.hid (by have := congrArg List.length HLS.out; rw [List.length_append] at this; have := candJ_len x l1 l1.length; omega)
            rw [ho] at HJ
            clear ho
            go_wp2_with fail
            ((with_reducible refine HJ.out.mono ?_))
            rintro e w2 ⟨v, rfl, ho, hb⟩
            obtain ⟨a3, m3, c3, rfl⟩ := own_slice ho
            have HC5 := Lib.hid (HC4.out.below hb)
            have HS5 := Lib.hid (HS8.out.below hb)
            have HPS5 := Lib.hid (HPS.out.below hb)
            have HO5 := Lib.hid (own_base ho HC4.out.lt)
            clear ho hb HJ c0 c1 c2 d0 d1 d2 HC4 HS8 HPS HT8
            obtain ⟨n1, n2⟩ := newBox w2 (pObj o.isSome 0 (.slice a3 m3 c3))
            have HC6 := Lib.hid (HC5.out.below n1)
            have HS6 := Lib.hid (HS5.out.below n1)
            have HPS6 := Lib.hid (HPS5.out.below n1)
            have HO6 := Lib.hid (own_below HO5.out n1)
            have HN6 := Lib.hid n2
            clear n1 n2 HC5 HS5 HPS5 HO5
            go_upto_if 56 with fail
            generalize (w2.alloc (pObj o.isSome 0 (.slice a3 m3 c3))) = w3 at *
            go_cut [5] (fun f wx => ∃ ls', Hid (ls' = ls ++ o.toList) ∧ Hid (C2 w wx (pObj true 0 (.slice a8 j cap8)) (pObj false 0 (.slice a2 l2.length cap2))) ∧ Hid (SegsOk w wx (.slice a8 j cap8) (l1.take j)) ∧ Hid (PsOwn wx (w.heap.size + 2) f ls'))
            case first =>
              cases o with
              | none =>
                simp only [Option.isSome_none] at *
                go_wp2_with fail
                go_meet
                exact ⟨_, Lib.hid (List.append_nil _).symm, HC6, HS6, HPS6⟩
              | some l =>
                simp only [Option.isSome_some] at *
                obtain ⟨c0, c1, c2⟩ := cells3 HN6.out
                obtain ⟨n1, n2⟩ := newBox w3 (pObj true 0 (.slice a3 m3 c3))
                have HC7 := Lib.hid (HC6.out.below n1)
                have HS7 := Lib.hid (HS6.out.below n1)
                have HPS7 := Lib.hid (HPS6.out.below n1)
                have HO7 := Lib.hid (own_below HO6.out n1)
                have HN7 := Lib.hid n2
                clear n1 n2 HC6 HS6 HPS6 HO6
                go_wp2_with (at_builtin; refine wpList_append_path rfl _ _ rfl (w.heap.size + 2) _ ls rfl HPS7.out w3.heap.size _ l HO7.out rfl HN7.out (by have := HLL.out; omega) (by have := HC7.out.lt; omega) ?_; intro v5 w5 ho hg; obtain ⟨a9, c9, rfl⟩ := ho.form; have HPS8 := Lib.hid ho; have HC8 := Lib.hid (HC7.out.grown hg (fun g h => (HPS7.out.lt h).2)); have HS8 := Lib.hid (HS7.out.grown HPS7.out hg); clear ho hg HC7 HO7 HS7 HPS7)
                go_meet
                exact ⟨_, Lib.hid rfl, HC8, HS8, Lib.hid (by have := HPS8.out; rw [List.length_append] at this; exact this)⟩
            case rest =>
              obtain ⟨ls', HL', HC5, HS5, HPS5⟩ := hcut
              clear HC6 HS6 HPS6 HO6 HN6
              obtain ⟨a9, c9, rfl⟩ := HPS5.out.form
              obtain ⟨w5, rfl⟩ : ∃ y : World, y = wc := ⟨_, rfl⟩
              obtain ⟨d0, d1, d2⟩ := cells3 HC5.out.1
              have HPar := Lib.hid (rparent_any _ true 0 (l1.take j) _ (PathV.mk (HS5.out.strs HC5.out.2.2 (by omega))) HXJ.out)
              have HPR : Hid (parR true 0 (l1.take j) = decide (j ≠ 0)) := Lib.hid (by unfold parR; rw [absB_take HVA.out j, Bool.true_and]; congr 1; rw [← List.length_pos_iff, hn8]; simp; omega)
              rw [HPR.out] at HPar
              by_cases hj0 : j = 0
              · rw [decide_eq_false (by simpa using hj0)] at HPar
                have HK2 : Hid (ls' = candJ x l1 l1.length) := Lib.hid (by rw [HL'.out, ← HLS.out, candJ_eq x l1 j, HO.out, if_pos hj0, List.append_nil])
                have HJ0 := Lib.hid hj0
                clear hj0
                go_wp2_with fail
                ((with_reducible refine HPar.out.mono ?_))
                rintro e w7 ⟨v9, rfl, ho, hb⟩
                obtain ⟨a10, m10, c10, rfl⟩ := own_slice ho
                obtain ⟨n1, n2⟩ := newBox w7 (pObj false 0 (.slice a10 m10 c10))
                have HC7 := Lib.hid ((HC5.out.below hb).below n1)
                have HPS7 := Lib.hid ((HPS5.out.below hb).below n1)
                clear ho hb HPar n1 n2 HC5 HPS5 HS5 d0 d1 d2
                go_wp2_with fail
                go_ret
                exact ⟨_, rfl, by rw [HV.out, ← HK2.out]; exact HPS7.out.base (by omega), HC7.out.2.2⟩
              · rw [decide_eq_true (by simpa using hj0), if_pos rfl] at HPar
                have HK1 : Hid (ls' ++ candJ x l1 (j - 1) = candJ x l1 l1.length) := Lib.hid (by rw [HL'.out, ← HLS.out, candJ_eq x l1 j, HO.out, if_neg hj0, List.append_assoc])
                have HD : Hid ((l1.take j).dropLast = l1.take (j - 1)) := Lib.hid (by rw [List.dropLast_eq_take, hn8, List.take_take, Nat.min_eq_left (by omega)])
                rw [HD.out] at HPar
                have hn9 : (l1.take (j - 1)).length = j - 1 := by rw [List.length_take]; omega
                have HJ0 := Lib.hid hj0
                clear hj0
                go_wp2_with fail
                ((with_reducible refine HPar.out.mono ?_))
                rintro e w7 ⟨v9, rfl, ho, hb⟩
                obtain ⟨a10, m10, c10, rfl⟩ := own_slice ho
                have HM8 : Hid (m10 = j - 1) := Lib.hid (by
                  rcases ho.2 with ⟨h1, h2⟩ | ⟨g, cp, cur, h1, _⟩
                  · injection h1 with _ h1 _; rw [h1, ← h2, hn9]
                  · injection h1 with _ h1 _; rw [h1, hn9])
                obtain ⟨n1, n2⟩ := newBox w7 (pObj true 0 (.slice a10 m10 c10))
                have HC7 := Lib.hid ((HC5.out.below hb).below n1)
                have HPS7 := Lib.hid ((HPS5.out.below hb).below n1)
                have HO7 := Lib.hid (own_below ho n1)
                have HN7 := Lib.hid n2
                clear ho hb HPar n1 n2 HC5 HPS5 HS5 d0 d1 d2
                go_upto_region 13 with fail
                generalize (w7.alloc (pObj true 0 (.slice a10 m10 c10))) = w8 at *
                obtain ⟨e0, e1, e2⟩ := cells3 HN7.out
                obtain ⟨d0, d1, d2⟩ := cells3 HC7.out.1
                have f0 := free3 HC7.out.1 0
                have f1 := free3 HC7.out.1 1
                have f2 := free3 HC7.out.1 2
                have HC8 := Lib.hid (HC7.out.box (.bool true) (.int .i64 0) (.slice a10 m10 c10))
                have HPS8 := Lib.hid (HPS7.out.put3 HC7.out.1 (fun e => by have := (HPS7.out.lt e).2; omega) (.bool true) (.int .i64 0) (.slice a10 m10 c10))
                have HS8 : Hid (SegsOk w (((w8.setCell ⟨w.heap.size, 0, none⟩ (.bool true)).setCell ⟨w.heap.size, 1, none⟩ (.int .i64 0)).setCell ⟨w.heap.size, 2, none⟩ (.slice a10 m10 c10)) (.slice a10 m10 c10) (l1.take (j - 1))) := Lib.hid (.inr (own_base (own_put3 HO7.out w.heap.size (own_not HO7.out HC7.out.1) _ _ _) (Nat.zero_le _)))
                clear HC7 HPS7 HO7
                go_wp2_with fail
                go_roundw
                case rel => exact ⟨_, j - 1, ls', HC8, HS8, HPS8, by omega, HK1.out⟩
                case measure =>
                  rw [HM.out]
                  have hc := (cells3 HC8.out.1).2.2
                  have := HM8.out
                  have := HJ0.out
                  unfold candM
                  simp only [hc]
                  omega
        · rw [hm, if_pos rfl] at HV
          have HJ := Lib.hid (rjoin_any _ _ r1 r2 u1 u2 l1 l2 _ (PathV.mk (S1.out _ HC1.out.2.2)) (PathV.mk (S2.out _ HC1.out.2.2)) HX1.out HX2.out)
          go_wp2_with fail
          ((with_reducible refine HJ.out.mono ?_))
          rintro e w2 ⟨v, rfl, ho, hb⟩
          obtain ⟨a3, m3, c3, rfl⟩ := own_slice ho
          have HC2 := Lib.hid (HC1.out.below hb)
          have HB := Lib.hid hb
          have HO := Lib.hid ho
          have HLT := Lib.hid HC1.out.lt
          clear ho hb HJ HC1 c0 c1 c2 d0 d1 d2
          cases hj : joinV r1 u1 l1 r2 u2 l2 with
          | none =>
            rw [hj] at HV HO
            clear hj
            simp only [Option.isSome_none]
            obtain ⟨n1, n2⟩ := newBox w2 (pObj false 0 (.slice a3 m3 c3))
            have HC3 := Lib.hid (HC2.out.below n1)
            clear n1 n2
            go_wp2_with fail
            go_ret
            exact ⟨_, rfl, by rw [HV.out]; exact PsOwn.nil _ _, HC3.out.2.2⟩
          | some l =>
            rw [hj] at HV HO
            clear hj
            simp only [Option.isSome_some]
            obtain ⟨n1, n2⟩ := newBox w2 (pObj true 0 (.slice a3 m3 c3))
            have HC3 := Lib.hid (HC2.out.below n1)
            have HO3 := Lib.hid (own_below HO.out n1)
            have HB3 := Lib.hid n2
            clear n1 n2 HO
            go_upto_region 6 with fail
            generalize (w2.alloc (pObj true 0 (.slice a3 m3 c3))) = w3 at *
            obtain ⟨c0, c1, c2⟩ := cells3 HB3.out
            obtain ⟨n1, n2⟩ := newBox w3 (pObj true 0 (.slice a3 m3 c3))
            have HC4 := Lib.hid (HC3.out.below n1)
            have HO4 := Lib.hid (own_base (own_below HO3.out n1) (B' := w.heap.size + 2) HLT.out)
            have HB4 := Lib.hid n2
            clear n1 n2 HO3
            go_wp2_with (at_builtin; refine wpList_append_path rfl _ _ rfl (w.heap.size + 2) _ [] rfl (PsOwn.nil _ _) w3.heap.size _ l HO4.out rfl HB4.out (by simp) (by have := HC4.out.lt; omega) ?_; intro v5 w5 ho hg; obtain ⟨a5, c5, rfl⟩ := ho.form; have HO5 := Lib.hid ho; have HC5 := Lib.hid (HC4.out.grown hg (fun g h => by cases h)); clear ho hg HC4 HO4)
            go_ret
            exact ⟨_, rfl, by rw [HV.out]; exact HO5.out.base (by omega), HC5.out.2.2⟩
end Go.Proofs.YtkalnblbplaheaaDoor
