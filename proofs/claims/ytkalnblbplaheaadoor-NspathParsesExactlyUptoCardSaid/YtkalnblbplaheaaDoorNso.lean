/- path: the walk. -/
import Derived.Test.YtkalnblbplaheaaDoorNsn
import Derived.Test.YtkalnblbplaheaaDoorMod
namespace Go.Proofs.YtkalnblbplaheaaDoor
open Go.RowKit
set_option linter.unusedVariables false
set_option linter.unusedSimpArgs false
attribute [local go_sem] ByteArray.mk_append_mk bs_get bs_cut bs_end

theorem grows_same {P : Program} {f : FuncId} {args : Array Value} {w w' : World} {v : Value} (hw : Grows w w')
    (h : Calls P f args w' fun e w'' => e = .returned v ∧ w' = w'') : Calls P f args w' fun e w'' => e = .returned v ∧ Grows w w'' :=
  h.mono fun _ _ ⟨he, hb⟩ => ⟨he, hb ▸ hw⟩
/-- path's parent prefixes. -/
def upV (root : Bool) (up : Int) : Int := if root = true ∨ 3 < modV up 7 then 0 else modV up 7
/-- path's segment number i. -/
def pathSeg (i : Nat) (x : List UInt8) : List UInt8 := if (!segB (segV x) && decide (0 < i % 3)) = true then [90] else segV x
def pathK (l : List (List UInt8)) : Nat → List (List UInt8)
  | 0 => []
  | k + 1 => pathK l k ++ [pathSeg k (l.getD k [])]
theorem pathK_len (l : List (List UInt8)) : ∀ k, (pathK l k).length = k
  | 0 => rfl
  | k + 1 => by simp [pathK, pathK_len l k]
def pathL (l : List (List UInt8)) : List (List UInt8) := pathK l (min l.length 34)
theorem pathL_len (l : List (List UInt8)) : (pathL l).length = min l.length 34 := pathK_len _ _
theorem pathSeg_len (i : Nat) (x : List UInt8) : (pathSeg i x).length ≤ x.length + 5 := by
  have := segV_len x
  unfold pathSeg
  split
  · simp
  · exact this
theorem pathK_mem (l : List (List UInt8)) (n : Nat) (h : ∀ x ∈ l, x.length ≤ n) : ∀ k, ∀ x ∈ pathK l k, x.length ≤ n + 5
  | 0 => by simp [pathK]
  | k + 1 => by
    intro x hx
    rw [pathK, List.mem_append] at hx
    rcases hx with hx | hx
    · exact pathK_mem l n h k x hx
    · rw [List.mem_singleton.1 hx]
      refine Nat.le_trans (pathSeg_len _ _) ?_
      by_cases hk : k < l.length
      · rw [List.getD_eq_getElem?_getD, List.getElem?_eq_getElem hk, Option.getD_some]
        have := h _ (List.getElem_mem hk)
        omega
      · rw [List.getD_eq_getElem?_getD, List.getElem?_eq_none (by omega), Option.getD_none]
        simp
theorem ret_pth (tmps : Array Value) (w : World) (b : Nat) (c0 c1 c2 : Value) (h2 : tmps.getD 2 undef = .pointer (some ⟨b, 0, none⟩)) (hb : w.heap[b]? = some (.cells #[c0, c1, c2] 24 (0, 0))) :
    (results Tryd.f13 tmps).run Tryd.prog w = .ok (.agg #[c0, c1, c2]) w := by
  obtain ⟨e0, e1, e2⟩ := cells3 hb
  have h2' : tmps[2]?.getD undef = .pointer (some ⟨b, 0, none⟩) := by rw [← h2]; simp
  simp [results]
  go_simp
/-- What the bag has done. -/
def PJ (W : World) (b : Nat) (o : Obj) (r : Bool) (m : Int) (d : Nat → Bool) (u : Nat → Value) (w' : World) : Prop := (d 6 = false → w' = W.drew) ∧ (d 6 = true → w' = (W.alloc o).drew ∧ u 6 = .pointer (some ⟨b, 0, none⟩)) ∧ (d 4 = true → u 4 = .int .i64 m) ∧ (d 5 = true → u 5 = .agg #[.bool r, .int .i64 m, .slice none 0 0])
theorem PJ.grows {W : World} {b : Nat} {o : Obj} {r : Bool} {m : Int} {d : Nat → Bool} {u : Nat → Value} {w' : World} (h : PJ W b o r m d u w') : Grows W w' := by
  cases hd : d 6
  · rw [h.1 hd]; exact Grows.self _
  · rw [(h.2.1 hd).1]; exact grows_ad _ _
theorem PJ.call {W : World} {b : Nat} {o : Obj} {r : Bool} {m : Int} {d : Nat → Bool} {u : Nat → Value} {w' : World} (h : PJ W b o r m d u w') : PJ W b o r m (fun j => d j || j == 4) (fun j => if j = 4 then .int .i64 m else u j) w' := by
  obtain ⟨h1, h2, h3, h4⟩ := h
  refine ⟨fun e => h1 (by simpa using e), fun e => ?_, fun _ => by simp, fun e => ?_⟩
  · simpa using h2 (by simpa using e)
  · simpa using h4 (by simpa using e)
theorem PJ.bld {W : World} {b : Nat} {o : Obj} {r : Bool} {m : Int} {d : Nat → Bool} {u : Nat → Value} {w' : World} (h : PJ W b o r m d u w') : PJ W b o r m (fun j => d j || j == 5) (fun j => if j = 5 then .agg #[.bool r, .int .i64 m, .slice none 0 0] else u j) w' := by
  obtain ⟨h1, h2, h3, h4⟩ := h
  refine ⟨fun e => h1 (by simpa using e), fun e => ?_, fun e => ?_, fun _ => by simp⟩
  · simpa using h2 (by simpa using e)
  · simpa using h3 (by simpa using e)
theorem PJ.new {W : World} {b : Nat} {o : Obj} {r : Bool} {m : Int} {d : Nat → Bool} {u : Nat → Value} {w' : World} (h : PJ W b o r m d u w') : PJ W b o r m (fun j => d j || j == 6) (fun j => if j = 6 then .pointer (some ⟨b, 0, none⟩) else u j) (W.alloc o).drew := by
  obtain ⟨h1, h2, h3, h4⟩ := h
  refine ⟨fun e => by simp at e, fun e => ⟨rfl, by simp⟩, fun e => ?_, fun e => ?_⟩
  · simpa using h3 (by simpa using e)
  · simpa using h4 (by simpa using e)
set_option maxRecDepth 100000 in
set_option maxHeartbeats 2000000 in
theorem path_case0 (p : Value) (up : Int) (l : List (List UInt8)) (w : World) (hp : PathV w p true up l) (hx : ∀ x ∈ l, x.length ≤ 9223372036854775000) (hy : ∀ x ∈ l, (segV x).length ≤ 9223372036854775000) :
    Calls Tryd.prog 13 #[p] w (QPost w true 0 (pathL l)) := by
  obtain ⟨v, rfl, hs⟩ := hp
  have S := Lib.hid hs
  have X := Lib.hid hx
  have Y := Lib.hid hy
  clear hx hy
  obtain ⟨a, cap, rfl, hcap⟩ := hs.form
  have HL : Hid (l.length ≤ 9223372036854775000) := Lib.hid (by obtain ⟨_, _, _, h, _⟩ := hs; exact h)
  have hl0 := HL.out
  clear hs
  have HMB : Hid (0 ≤ modV up 7 ∧ modV up 7 < 7) := Lib.hid ⟨modV_nonneg _ _ (by omega), modV_lt _ _ (by omega)⟩
  have HMOD : Hid (∀ w, Calls Tryd.prog 36 #[.int .i64 up, .int .i64 7] w fun e w' => e = .returned (.int .i64 (modV up 7)) ∧ w = w') := Lib.hid (fun w => mod_any up 7 w (by omega) (by omega))
  generalize modV up 7 = m at *
  have H3 := True.intro
  have H4 := True.intro
  obtain ⟨U, HU⟩ : ∃ U : Int, Hid (U = 0) := ⟨_, Lib.hid rfl⟩
  have HQ : QPost w true U (pathL l) = QPost w true 0 (pathL l) := by rw [HU.out]
  rw [← HQ]
  clear HQ
  have HA := Lib.hid (C2.start w (pObj true up (.slice a l.length cap)) (pObj false 0 (.slice none 0 0)))
  have HA3 : Hid (∀ r u v, T3 w (((w.alloc (pObj true up (.slice a l.length cap))).alloc (pObj false 0 (.slice none 0 0))).alloc (pObj r u v)) (pObj true up (.slice a l.length cap)) (pObj false 0 (.slice none 0 0)) (pObj r u v)) := Lib.hid (fun r u v => T3.start w _ _ (pObj r u v))
  go_enter Tryd.func13, Tryd.ntmps13
  go_upto_region 1 with fail
  have m1 : ∀ x, Grows ((w.alloc (pObj true up (.slice a l.length cap))).alloc (pObj false 0 (.slice none 0 0))) x → x.cell? ⟨w.heap.size, 0, none⟩ = some (.bool true) := fun x h => (cells3 (HA.out.below h).1).1
  have m2 : ∀ x, Grows ((w.alloc (pObj true up (.slice a l.length cap))).alloc (pObj false 0 (.slice none 0 0))) x → x.cell? ⟨w.heap.size, 1, none⟩ = some (.int .i64 up) := fun x h => (cells3 (HA.out.below h).1).2.1
  refine wp_region_plan (Grows ((w.alloc (pObj true up (.slice a l.length cap))).alloc (pObj false 0 (.slice none 0 0)))) 7 [.reads [0, 1, 2, 3], .bag [4, 5, 6], .act 7] (by kernel_rfl) (by kernel_rfl) (by kernel_rfl) (by kernel_rfl) (by kernel_rfl) (fun _ _ d _ _ h => by cases d <;> exact h) (Grows.self _) ?_
  refine wpPlan_reads ?_
  simp only [pickOps, List.drop_succ_cons, List.drop_zero, List.take_succ_cons, List.take_zero, List.cons_append, List.nil_append]
  repeat (go_big_quiet_step (first | (intro hb; rw [m1 _ hb]; exact ⟨rfl, rfl⟩) | (intro hb; rw [m2 _ hb]; exact ⟨rfl, rfl⟩)))
  refine wpQuiet_nil ?_
  clear m1 m2
  refine wpPlan_bag (PJ ((w.alloc (pObj true up (.slice a l.length cap))).alloc (pObj false 0 (.slice none 0 0))) (w.heap.size + 1 + 1) (pObj false 0 (.slice none 0 0)) true m) (fun _ => undef) rfl ⟨(fun _ => rfl), (fun h => by cases h), (fun h => by cases h), (fun h => by cases h)⟩ ?_ ?_
  · intro j hj d u wz hd hdep HJ
    have HJ := Lib.hid HJ
    simp only [List.mem_cons, List.not_mem_nil, or_false] at hj
    rcases hj with rfl | rfl | rfl
    · clear hd hdep
      refine wpOp_list rfl ?_
      simp only [pickOps, List.drop_succ_cons, List.drop_zero, List.take_succ_cons, List.take_zero, List.cons_append, List.nil_append]
      simp only [fillOps, List.drop_succ_cons, List.drop_zero, List.take_succ_cons, List.take_zero, List.head?_cons, Option.bind_some, Act.put, List.setIfInBounds_toArray, List.set_cons_succ, List.set_cons_zero]
      go_wp2_with fail
      ((with_reducible refine (HMOD.out _).mono ?_))
      rintro e w5 ⟨rfl, rfl⟩
      go_wp2_with fail
      exact ⟨fun _ => HJ.out.grows, _, rfl, HJ.out.call⟩
    · have e4 := HJ.out.2.2.1 (hdep 4 (by simp) (by kernel_rfl))
      clear hd hdep
      refine wpOp_list rfl ?_
      simp only [pickOps, List.drop_succ_cons, List.drop_zero, List.take_succ_cons, List.take_zero, List.cons_append, List.nil_append]
      simp only [fillOps, List.drop_succ_cons, List.drop_zero, List.take_succ_cons, List.take_zero, List.head?_cons, Option.bind_some, Act.put, List.setIfInBounds_toArray, List.set_cons_succ, List.set_cons_zero]
      rw [e4]
      go_wp2_with fail
      exact ⟨fun _ => HJ.out.grows, _, rfl, HJ.out.bld⟩
    · have e := HJ.out.1 hd
      subst e
      clear hd hdep
      refine wpOp_list rfl ?_
      simp only [pickOps, List.drop_succ_cons, List.drop_zero, List.take_succ_cons, List.take_zero, List.cons_append, List.nil_append]
      simp only [fillOps, List.drop_succ_cons, List.drop_zero, List.take_succ_cons, List.take_zero, List.head?_cons, Option.bind_some, Act.put, List.setIfInBounds_toArray, List.set_cons_succ, List.set_cons_zero]
      go_wp2_with fail
      exact ⟨fun _ => grows_ad _ _, _, rfl, HJ.out.new⟩
  · intro d u wz hall HJ
    obtain ⟨h1, h6, h4, h5⟩ := HJ
    obtain ⟨rfl, e6⟩ := h6 (hall 6 (by simp))
    have e4 := h4 (hall 4 (by simp))
    have e5 := h5 (hall 5 (by simp))
    clear h1 h4 h5 h6 hall
    simp only [fillOps, List.drop_succ_cons, List.drop_zero, List.take_succ_cons, List.take_zero, List.head?_cons, Option.bind_some, Act.put, List.setIfInBounds_toArray, List.set_cons_succ, List.set_cons_zero]
    rw [e4, e5, e6]
    clear e4 e5 e6
    refine wpPlan_act rfl ?_
    simp only [pickOps, List.drop_succ_cons, List.drop_zero, List.take_succ_cons, List.take_zero, List.cons_append, List.nil_append]
    go_wp2_with fail
    refine ⟨fun h => absurd h (by decide), wpPlan_nil ?_⟩
    clear HA
    clear H3 H4
    go_wp2_with fail
    have HA := Lib.hid ((HA3.out true 0 (.slice none 0 0)).below (Below.drew (Below.refl _ _)))
    clear HA3
    go_loopw [4] (fun i wr => ∃ k : Nat, i = .int .i64 k ∧ k ≤ min l.length 34 ∧ ∃ vq, Hid (T3 w wr (pObj true up (.slice a l.length cap)) (pObj false 0 (.slice none 0 0)) (pObj true 0 vq)) ∧ Hid (wr.ownsRow (w.heap.size + 1 + 1 + 1) 9 1 vq (pathK l k).length ((pathK l k).map strV))) (fun i _ => 34 - (intOf i).toNat)
    case atStart => exact ⟨0, rfl, by omega, _, HA, Lib.hid (own_nil _ _)⟩
    case round =>
      obtain ⟨k, rfl, hk, vq, HT, HO⟩ := hrel
      obtain ⟨q1, q2, q3, rfl⟩ := own_slice HO.out
      obtain ⟨w1, rfl⟩ : ∃ x : World, x = wr := ⟨_, rfl⟩
      clear HA
      by_cases hlt : k < min l.length 34
      · have k1 : k < l.length := by omega
        have k2 : k < 34 := by omega
        have S1 := S.out.below HT.out.bel
        obtain ⟨a', cap', hv', _, _, hc⟩ := S1
        injection hv' with e1 _ e2
        subst e1 e2
        obtain ⟨b, off, rfl, hcell⟩ := hc (by rintro rfl; simp at k1)
        have c := hcell k k1
        have HC := Lib.hid hcell
        clear hcell hc
        have HE : Hid (pathK l (k + 1) = pathK l k ++ [pathSeg k l[k]]) := Lib.hid (by rw [pathK]; simp [k1])
        have HX := Lib.hid (X.out l[k] (List.getElem_mem _))
        have HY := Lib.hid (Y.out l[k] (List.getElem_mem _))
        generalize l[k] = x at *
        unfold strV at c
        unfold pathSeg at HE
        have HN := Lib.hid (seg_any x w1 HX.out)
        have HAl : Hid ((pathK l k).length ≤ 34) := Lib.hid (by have := pathK_len l k; omega)
        obtain ⟨d0, d1, d2⟩ := cells3 HT.out.1.1
        go_wp2_with fail
        ((with_reducible refine HN.out.mono ?_))
        rintro e w2 ⟨rfl, hb⟩
        unfold strV
        generalize segV x = y at *
        have HT2 := Lib.hid (HT.out.below hb)
        have HO2 := Lib.hid (own_below HO.out hb)
        clear hb HN HT HO d0 d1 d2 c
        obtain ⟨g, hg⟩ : ∃ g, Hid (segB y = g) := ⟨_, Lib.hid rfl⟩
        rw [hg.out] at HE
        go_upto_region 8 with fail
        go_cut [44] (fun t wx => wx = w2 ∧ t = .bool (!g && decide (0 < k % 3)))
        case first =>
          go_wp2_with fail
          ((with_reducible refine (segmentB_is y g hg w2 HY.out).mono ?_))
          rintro e w3 ⟨rfl, rfl⟩
          cases g
          · go_wp2_with fail
            go_meet
            have e3 : decide (0 < (k : Int) % 3) = decide (0 < k % 3) := by rw [decide_eq_decide]; omega
            exact ⟨rfl, by rw [e3]; rfl⟩
          · go_wp2_with fail
            go_meet
            exact ⟨rfl, rfl⟩
        case rest =>
          obtain ⟨e1, e2⟩ := hcut
          subst e2
          have e1 := e1.symm
          subst e1
          obtain ⟨z, hz⟩ : ∃ z, (!g && decide (0 < k % 3)) = z := ⟨_, rfl⟩
          rw [hz] at HE ⊢
          clear hz
          obtain ⟨yy, hyy⟩ : ∃ yy, Hid ((if z = true then [90] else y) = yy) := ⟨_, Lib.hid rfl⟩
          rw [hyy.out] at HE
          have HO3 : Hid (∀ w2 : World, (w2.alloc (.cells #[.string ⟨yy.toArray⟩] 9)).ownsRow 0 9 1 (.slice (some ⟨w2.heap.size, 0, none⟩) 1 1) 1 ([yy].map strV)) := Lib.hid (fun w2 => own_cells w2 0 (Nat.zero_le _) [yy] 1 rfl (by simp))
          cases z
          · have e9 : y = yy := hyy.out
            subst e9
            clear hyy
            obtain ⟨d0, d1, d2⟩ := cells3 HT2.out.1.2.2
            have f2 := free3 HT2.out.1.2.2 2
            obtain ⟨kb, kn⟩ := newBox w2 (.cells #[.string ⟨y.toArray⟩] 9)
            have HT3 := Lib.hid (HT2.out.below kb)
            have HO4 := Lib.hid (own_below HO2.out kb)
            have HO3' := Lib.hid (HO3.out w2)
            have HSZ : Hid (w.heap.size + 1 + 1 + 1 ≤ (w2.alloc (.cells #[.string ⟨y.toArray⟩] 9)).heap.size) := Lib.hid HT3.out.lt
            clear kb kn HT2 HO2 HO3
            go_wp2_with (at_builtin; refine wpList_append_strs rfl _ _ rfl (w.heap.size + 1 + 1 + 1) _ (pathK l k) rfl HO4.out (.slice (some ⟨w2.heap.size, 0, none⟩) 1 1) [y] rfl (StrsAt.of_own (l := [y]) HO3'.out (by simp)) (by have := HAl.out; simp; omega) HSZ.out ?_; intro v3 w3 ho hgr; obtain ⟨r1, r2, r3, rfl⟩ := own_slice ho; have HO5 := Lib.hid ho; have HT5 := Lib.hid (HT3.out.grown hgr (fun g h => own_row HO4.out h)); clear ho hgr d0 d1 d2 f2; obtain ⟨d0, d1, d2⟩ := cells3 HT5.out.1.2.2; have f2 := free3 HT5.out.1.2.2 2)
            go_roundw
            case rel => exact ⟨k + 1, by go_num, by omega, _, Lib.hid (HT5.out.segs _), Lib.hid (by rw [HE.out]; simpa using own_setCell HO5.out ⟨w.heap.size + 1 + 1, 2, none⟩ _ (by simp))⟩
            case measure => simp [intOf]; omega
          · have e9 : [90] = yy := hyy.out
            subst e9
            clear hyy
            obtain ⟨d0, d1, d2⟩ := cells3 HT2.out.1.2.2
            have f2 := free3 HT2.out.1.2.2 2
            obtain ⟨kb, kn⟩ := newBox w2 (.cells #[.string ⟨#[90]⟩] 9)
            have HT3 := Lib.hid (HT2.out.below kb)
            have HO4 := Lib.hid (own_below HO2.out kb)
            have HO3' := Lib.hid (HO3.out w2)
            have HSZ : Hid (w.heap.size + 1 + 1 + 1 ≤ (w2.alloc (.cells #[.string ⟨#[90]⟩] 9)).heap.size) := Lib.hid HT3.out.lt
            clear kb kn HT2 HO2 HO3
            go_wp2_with (at_builtin; refine wpList_append_strs rfl _ _ rfl (w.heap.size + 1 + 1 + 1) _ (pathK l k) rfl HO4.out (.slice (some ⟨w2.heap.size, 0, none⟩) 1 1) [[90]] rfl (StrsAt.of_own (l := [[90]]) HO3'.out (by simp)) (by have := HAl.out; simp; omega) HSZ.out ?_; intro v3 w3 ho hgr; obtain ⟨r1, r2, r3, rfl⟩ := own_slice ho; have HO5 := Lib.hid ho; have HT5 := Lib.hid (HT3.out.grown hgr (fun g h => own_row HO4.out h)); clear ho hgr d0 d1 d2 f2; obtain ⟨d0, d1, d2⟩ := cells3 HT5.out.1.2.2; have f2 := free3 HT5.out.1.2.2 2)
            go_roundw
            case rel => exact ⟨k + 1, by go_num, by omega, _, Lib.hid (HT5.out.segs _), Lib.hid (by rw [HE.out]; simpa using own_setCell HO5.out ⟨w.heap.size + 1 + 1, 2, none⟩ _ (by simp))⟩
            case measure => simp [intOf]; omega
      · obtain rfl : k = min l.length 34 := by omega
        have HF : Hid (pathK l (min l.length 34) = pathL l) := Lib.hid rfl
        rw [HF.out] at HO
        obtain ⟨d0, d1, d2⟩ := cells3 HT.out.1.1
        obtain ⟨e0, e1, e2⟩ := cells3 HT.out.1.2.2
        have hn := HT.out.1.2.1
        obtain ⟨g0, g1, g2⟩ := cells3 hn
        have f0 := free3 hn 0
        have f1 := free3 hn 1
        have f2 := free3 hn 2
        clear hn HF
        by_cases h12 : l.length ≤ 34
        · have e3 : min l.length 34 = l.length := by omega
          rw [e3]
          clear e3 hlt hk
          go_wp2_with fail
          exact bodyPost_ret (ret_pth _ _ _ _ _ _ rfl (put3 HT.out.1.2.1 _ _ _)) rfl ⟨_, by rw [HU.out], own_base (own_set3 HO.out _ _ _ _ (by omega)) (by omega), bel3 HT.out.2 (by omega) _ _ _⟩
        · have e3 : min l.length 34 = 34 := by omega
          have h13 : (34 : Int) < (l.length : Int) := by omega
          rw [e3]
          clear e3 hlt hk
          go_wp2_with fail
          exact bodyPost_ret (ret_pth _ _ _ _ _ _ rfl (put3 HT.out.1.2.1 _ _ _)) rfl ⟨_, by rw [HU.out], own_base (own_set3 HO.out _ _ _ _ (by omega)) (by omega), bel3 HT.out.2 (by omega) _ _ _⟩
set_option maxRecDepth 100000 in
set_option maxHeartbeats 2000000 in
theorem path_case1 (p : Value) (up : Int) (l : List (List UInt8)) (w : World) (h3 : 3 < modV up 7) (hp : PathV w p false up l) (hx : ∀ x ∈ l, x.length ≤ 9223372036854775000) (hy : ∀ x ∈ l, (segV x).length ≤ 9223372036854775000) :
    Calls Tryd.prog 13 #[p] w (QPost w false 0 (pathL l)) := by
  obtain ⟨v, rfl, hs⟩ := hp
  have S := Lib.hid hs
  have X := Lib.hid hx
  have Y := Lib.hid hy
  clear hx hy
  obtain ⟨a, cap, rfl, hcap⟩ := hs.form
  have HL : Hid (l.length ≤ 9223372036854775000) := Lib.hid (by obtain ⟨_, _, _, h, _⟩ := hs; exact h)
  have hl0 := HL.out
  clear hs
  have HMB : Hid (0 ≤ modV up 7 ∧ modV up 7 < 7) := Lib.hid ⟨modV_nonneg _ _ (by omega), modV_lt _ _ (by omega)⟩
  have HMOD : Hid (∀ w, Calls Tryd.prog 36 #[.int .i64 up, .int .i64 7] w fun e w' => e = .returned (.int .i64 (modV up 7)) ∧ w = w') := Lib.hid (fun w => mod_any up 7 w (by omega) (by omega))
  generalize modV up 7 = m at *
  have H3 := Lib.hid h3
  clear h3
  obtain ⟨U, HU⟩ : ∃ U : Int, Hid (U = 0) := ⟨_, Lib.hid rfl⟩
  have HQ : QPost w false U (pathL l) = QPost w false 0 (pathL l) := by rw [HU.out]
  rw [← HQ]
  clear HQ
  have HA := Lib.hid (C2.start w (pObj false up (.slice a l.length cap)) (pObj false 0 (.slice none 0 0)))
  have HA3 : Hid (∀ r u v, T3 w (((w.alloc (pObj false up (.slice a l.length cap))).alloc (pObj false 0 (.slice none 0 0))).alloc (pObj r u v)) (pObj false up (.slice a l.length cap)) (pObj false 0 (.slice none 0 0)) (pObj r u v)) := Lib.hid (fun r u v => T3.start w _ _ (pObj r u v))
  go_enter Tryd.func13, Tryd.ntmps13
  go_upto_region 1 with fail
  have m1 : ∀ x, Grows ((w.alloc (pObj false up (.slice a l.length cap))).alloc (pObj false 0 (.slice none 0 0))) x → x.cell? ⟨w.heap.size, 0, none⟩ = some (.bool false) := fun x h => (cells3 (HA.out.below h).1).1
  have m2 : ∀ x, Grows ((w.alloc (pObj false up (.slice a l.length cap))).alloc (pObj false 0 (.slice none 0 0))) x → x.cell? ⟨w.heap.size, 1, none⟩ = some (.int .i64 up) := fun x h => (cells3 (HA.out.below h).1).2.1
  refine wp_region_plan (Grows ((w.alloc (pObj false up (.slice a l.length cap))).alloc (pObj false 0 (.slice none 0 0)))) 7 [.reads [0, 1, 2, 3], .bag [4, 5, 6], .act 7] (by kernel_rfl) (by kernel_rfl) (by kernel_rfl) (by kernel_rfl) (by kernel_rfl) (fun _ _ d _ _ h => by cases d <;> exact h) (Grows.self _) ?_
  refine wpPlan_reads ?_
  simp only [pickOps, List.drop_succ_cons, List.drop_zero, List.take_succ_cons, List.take_zero, List.cons_append, List.nil_append]
  repeat (go_big_quiet_step (first | (intro hb; rw [m1 _ hb]; exact ⟨rfl, rfl⟩) | (intro hb; rw [m2 _ hb]; exact ⟨rfl, rfl⟩)))
  refine wpQuiet_nil ?_
  clear m1 m2
  refine wpPlan_bag (PJ ((w.alloc (pObj false up (.slice a l.length cap))).alloc (pObj false 0 (.slice none 0 0))) (w.heap.size + 1 + 1) (pObj false 0 (.slice none 0 0)) false m) (fun _ => undef) rfl ⟨(fun _ => rfl), (fun h => by cases h), (fun h => by cases h), (fun h => by cases h)⟩ ?_ ?_
  · intro j hj d u wz hd hdep HJ
    have HJ := Lib.hid HJ
    simp only [List.mem_cons, List.not_mem_nil, or_false] at hj
    rcases hj with rfl | rfl | rfl
    · clear hd hdep
      refine wpOp_list rfl ?_
      simp only [pickOps, List.drop_succ_cons, List.drop_zero, List.take_succ_cons, List.take_zero, List.cons_append, List.nil_append]
      simp only [fillOps, List.drop_succ_cons, List.drop_zero, List.take_succ_cons, List.take_zero, List.head?_cons, Option.bind_some, Act.put, List.setIfInBounds_toArray, List.set_cons_succ, List.set_cons_zero]
      go_wp2_with fail
      ((with_reducible refine (HMOD.out _).mono ?_))
      rintro e w5 ⟨rfl, rfl⟩
      go_wp2_with fail
      exact ⟨fun _ => HJ.out.grows, _, rfl, HJ.out.call⟩
    · have e4 := HJ.out.2.2.1 (hdep 4 (by simp) (by kernel_rfl))
      clear hd hdep
      refine wpOp_list rfl ?_
      simp only [pickOps, List.drop_succ_cons, List.drop_zero, List.take_succ_cons, List.take_zero, List.cons_append, List.nil_append]
      simp only [fillOps, List.drop_succ_cons, List.drop_zero, List.take_succ_cons, List.take_zero, List.head?_cons, Option.bind_some, Act.put, List.setIfInBounds_toArray, List.set_cons_succ, List.set_cons_zero]
      rw [e4]
      go_wp2_with fail
      exact ⟨fun _ => HJ.out.grows, _, rfl, HJ.out.bld⟩
    · have e := HJ.out.1 hd
      subst e
      clear hd hdep
      refine wpOp_list rfl ?_
      simp only [pickOps, List.drop_succ_cons, List.drop_zero, List.take_succ_cons, List.take_zero, List.cons_append, List.nil_append]
      simp only [fillOps, List.drop_succ_cons, List.drop_zero, List.take_succ_cons, List.take_zero, List.head?_cons, Option.bind_some, Act.put, List.setIfInBounds_toArray, List.set_cons_succ, List.set_cons_zero]
      go_wp2_with fail
      exact ⟨fun _ => grows_ad _ _, _, rfl, HJ.out.new⟩
  · intro d u wz hall HJ
    obtain ⟨h1, h6, h4, h5⟩ := HJ
    obtain ⟨rfl, e6⟩ := h6 (hall 6 (by simp))
    have e4 := h4 (hall 4 (by simp))
    have e5 := h5 (hall 5 (by simp))
    clear h1 h4 h5 h6 hall
    simp only [fillOps, List.drop_succ_cons, List.drop_zero, List.take_succ_cons, List.take_zero, List.head?_cons, Option.bind_some, Act.put, List.setIfInBounds_toArray, List.set_cons_succ, List.set_cons_zero]
    rw [e4, e5, e6]
    clear e4 e5 e6
    refine wpPlan_act rfl ?_
    simp only [pickOps, List.drop_succ_cons, List.drop_zero, List.take_succ_cons, List.take_zero, List.cons_append, List.nil_append]
    go_wp2_with fail
    refine ⟨fun h => absurd h (by decide), wpPlan_nil ?_⟩
    clear HA
    have h3 := H3.out
    go_wp2_with fail
    have HA := Lib.hid ((HA3.out false 0 (.slice none 0 0)).below (Below.drew (Below.refl _ _)))
    clear HA3
    go_loopw [4] (fun i wr => ∃ k : Nat, i = .int .i64 k ∧ k ≤ min l.length 34 ∧ ∃ vq, Hid (T3 w wr (pObj false up (.slice a l.length cap)) (pObj false 0 (.slice none 0 0)) (pObj false 0 vq)) ∧ Hid (wr.ownsRow (w.heap.size + 1 + 1 + 1) 9 1 vq (pathK l k).length ((pathK l k).map strV))) (fun i _ => 34 - (intOf i).toNat)
    case atStart => exact ⟨0, rfl, by omega, _, HA, Lib.hid (own_nil _ _)⟩
    case round =>
      obtain ⟨k, rfl, hk, vq, HT, HO⟩ := hrel
      obtain ⟨q1, q2, q3, rfl⟩ := own_slice HO.out
      obtain ⟨w1, rfl⟩ : ∃ x : World, x = wr := ⟨_, rfl⟩
      clear HA
      by_cases hlt : k < min l.length 34
      · have k1 : k < l.length := by omega
        have k2 : k < 34 := by omega
        have S1 := S.out.below HT.out.bel
        obtain ⟨a', cap', hv', _, _, hc⟩ := S1
        injection hv' with e1 _ e2
        subst e1 e2
        obtain ⟨b, off, rfl, hcell⟩ := hc (by rintro rfl; simp at k1)
        have c := hcell k k1
        have HC := Lib.hid hcell
        clear hcell hc
        have HE : Hid (pathK l (k + 1) = pathK l k ++ [pathSeg k l[k]]) := Lib.hid (by rw [pathK]; simp [k1])
        have HX := Lib.hid (X.out l[k] (List.getElem_mem _))
        have HY := Lib.hid (Y.out l[k] (List.getElem_mem _))
        generalize l[k] = x at *
        unfold strV at c
        unfold pathSeg at HE
        have HN := Lib.hid (seg_any x w1 HX.out)
        have HAl : Hid ((pathK l k).length ≤ 34) := Lib.hid (by have := pathK_len l k; omega)
        obtain ⟨d0, d1, d2⟩ := cells3 HT.out.1.1
        go_wp2_with fail
        ((with_reducible refine HN.out.mono ?_))
        rintro e w2 ⟨rfl, hb⟩
        unfold strV
        generalize segV x = y at *
        have HT2 := Lib.hid (HT.out.below hb)
        have HO2 := Lib.hid (own_below HO.out hb)
        clear hb HN HT HO d0 d1 d2 c
        obtain ⟨g, hg⟩ : ∃ g, Hid (segB y = g) := ⟨_, Lib.hid rfl⟩
        rw [hg.out] at HE
        go_upto_region 8 with fail
        go_cut [44] (fun t wx => wx = w2 ∧ t = .bool (!g && decide (0 < k % 3)))
        case first =>
          go_wp2_with fail
          ((with_reducible refine (segmentB_is y g hg w2 HY.out).mono ?_))
          rintro e w3 ⟨rfl, rfl⟩
          cases g
          · go_wp2_with fail
            go_meet
            have e3 : decide (0 < (k : Int) % 3) = decide (0 < k % 3) := by rw [decide_eq_decide]; omega
            exact ⟨rfl, by rw [e3]; rfl⟩
          · go_wp2_with fail
            go_meet
            exact ⟨rfl, rfl⟩
        case rest =>
          obtain ⟨e1, e2⟩ := hcut
          subst e2
          have e1 := e1.symm
          subst e1
          obtain ⟨z, hz⟩ : ∃ z, (!g && decide (0 < k % 3)) = z := ⟨_, rfl⟩
          rw [hz] at HE ⊢
          clear hz
          obtain ⟨yy, hyy⟩ : ∃ yy, Hid ((if z = true then [90] else y) = yy) := ⟨_, Lib.hid rfl⟩
          rw [hyy.out] at HE
          have HO3 : Hid (∀ w2 : World, (w2.alloc (.cells #[.string ⟨yy.toArray⟩] 9)).ownsRow 0 9 1 (.slice (some ⟨w2.heap.size, 0, none⟩) 1 1) 1 ([yy].map strV)) := Lib.hid (fun w2 => own_cells w2 0 (Nat.zero_le _) [yy] 1 rfl (by simp))
          cases z
          · have e9 : y = yy := hyy.out
            subst e9
            clear hyy
            obtain ⟨d0, d1, d2⟩ := cells3 HT2.out.1.2.2
            have f2 := free3 HT2.out.1.2.2 2
            obtain ⟨kb, kn⟩ := newBox w2 (.cells #[.string ⟨y.toArray⟩] 9)
            have HT3 := Lib.hid (HT2.out.below kb)
            have HO4 := Lib.hid (own_below HO2.out kb)
            have HO3' := Lib.hid (HO3.out w2)
            have HSZ : Hid (w.heap.size + 1 + 1 + 1 ≤ (w2.alloc (.cells #[.string ⟨y.toArray⟩] 9)).heap.size) := Lib.hid HT3.out.lt
            clear kb kn HT2 HO2 HO3
            go_wp2_with (at_builtin; refine wpList_append_strs rfl _ _ rfl (w.heap.size + 1 + 1 + 1) _ (pathK l k) rfl HO4.out (.slice (some ⟨w2.heap.size, 0, none⟩) 1 1) [y] rfl (StrsAt.of_own (l := [y]) HO3'.out (by simp)) (by have := HAl.out; simp; omega) HSZ.out ?_; intro v3 w3 ho hgr; obtain ⟨r1, r2, r3, rfl⟩ := own_slice ho; have HO5 := Lib.hid ho; have HT5 := Lib.hid (HT3.out.grown hgr (fun g h => own_row HO4.out h)); clear ho hgr d0 d1 d2 f2; obtain ⟨d0, d1, d2⟩ := cells3 HT5.out.1.2.2; have f2 := free3 HT5.out.1.2.2 2)
            go_roundw
            case rel => exact ⟨k + 1, by go_num, by omega, _, Lib.hid (HT5.out.segs _), Lib.hid (by rw [HE.out]; simpa using own_setCell HO5.out ⟨w.heap.size + 1 + 1, 2, none⟩ _ (by simp))⟩
            case measure => simp [intOf]; omega
          · have e9 : [90] = yy := hyy.out
            subst e9
            clear hyy
            obtain ⟨d0, d1, d2⟩ := cells3 HT2.out.1.2.2
            have f2 := free3 HT2.out.1.2.2 2
            obtain ⟨kb, kn⟩ := newBox w2 (.cells #[.string ⟨#[90]⟩] 9)
            have HT3 := Lib.hid (HT2.out.below kb)
            have HO4 := Lib.hid (own_below HO2.out kb)
            have HO3' := Lib.hid (HO3.out w2)
            have HSZ : Hid (w.heap.size + 1 + 1 + 1 ≤ (w2.alloc (.cells #[.string ⟨#[90]⟩] 9)).heap.size) := Lib.hid HT3.out.lt
            clear kb kn HT2 HO2 HO3
            go_wp2_with (at_builtin; refine wpList_append_strs rfl _ _ rfl (w.heap.size + 1 + 1 + 1) _ (pathK l k) rfl HO4.out (.slice (some ⟨w2.heap.size, 0, none⟩) 1 1) [[90]] rfl (StrsAt.of_own (l := [[90]]) HO3'.out (by simp)) (by have := HAl.out; simp; omega) HSZ.out ?_; intro v3 w3 ho hgr; obtain ⟨r1, r2, r3, rfl⟩ := own_slice ho; have HO5 := Lib.hid ho; have HT5 := Lib.hid (HT3.out.grown hgr (fun g h => own_row HO4.out h)); clear ho hgr d0 d1 d2 f2; obtain ⟨d0, d1, d2⟩ := cells3 HT5.out.1.2.2; have f2 := free3 HT5.out.1.2.2 2)
            go_roundw
            case rel => exact ⟨k + 1, by go_num, by omega, _, Lib.hid (HT5.out.segs _), Lib.hid (by rw [HE.out]; simpa using own_setCell HO5.out ⟨w.heap.size + 1 + 1, 2, none⟩ _ (by simp))⟩
            case measure => simp [intOf]; omega
      · obtain rfl : k = min l.length 34 := by omega
        have HF : Hid (pathK l (min l.length 34) = pathL l) := Lib.hid rfl
        rw [HF.out] at HO
        obtain ⟨d0, d1, d2⟩ := cells3 HT.out.1.1
        obtain ⟨e0, e1, e2⟩ := cells3 HT.out.1.2.2
        have hn := HT.out.1.2.1
        obtain ⟨g0, g1, g2⟩ := cells3 hn
        have f0 := free3 hn 0
        have f1 := free3 hn 1
        have f2 := free3 hn 2
        clear hn HF
        by_cases h12 : l.length ≤ 34
        · have e3 : min l.length 34 = l.length := by omega
          rw [e3]
          clear e3 hlt hk
          go_wp2_with fail
          exact bodyPost_ret (ret_pth _ _ _ _ _ _ rfl (put3 HT.out.1.2.1 _ _ _)) rfl ⟨_, by rw [HU.out], own_base (own_set3 HO.out _ _ _ _ (by omega)) (by omega), bel3 HT.out.2 (by omega) _ _ _⟩
        · have e3 : min l.length 34 = 34 := by omega
          have h13 : (34 : Int) < (l.length : Int) := by omega
          rw [e3]
          clear e3 hlt hk
          go_wp2_with fail
          exact bodyPost_ret (ret_pth _ _ _ _ _ _ rfl (put3 HT.out.1.2.1 _ _ _)) rfl ⟨_, by rw [HU.out], own_base (own_set3 HO.out _ _ _ _ (by omega)) (by omega), bel3 HT.out.2 (by omega) _ _ _⟩
set_option maxRecDepth 100000 in
set_option maxHeartbeats 2000000 in
theorem path_case2 (p : Value) (up : Int) (l : List (List UInt8)) (w : World) (h3 : modV up 7 ≤ 3) (hp : PathV w p false up l) (hx : ∀ x ∈ l, x.length ≤ 9223372036854775000) (hy : ∀ x ∈ l, (segV x).length ≤ 9223372036854775000) :
    Calls Tryd.prog 13 #[p] w (QPost w false (modV up 7) (pathL l)) := by
  obtain ⟨v, rfl, hs⟩ := hp
  have S := Lib.hid hs
  have X := Lib.hid hx
  have Y := Lib.hid hy
  clear hx hy
  obtain ⟨a, cap, rfl, hcap⟩ := hs.form
  have HL : Hid (l.length ≤ 9223372036854775000) := Lib.hid (by obtain ⟨_, _, _, h, _⟩ := hs; exact h)
  have hl0 := HL.out
  clear hs
  have HMB : Hid (0 ≤ modV up 7 ∧ modV up 7 < 7) := Lib.hid ⟨modV_nonneg _ _ (by omega), modV_lt _ _ (by omega)⟩
  have HMOD : Hid (∀ w, Calls Tryd.prog 36 #[.int .i64 up, .int .i64 7] w fun e w' => e = .returned (.int .i64 (modV up 7)) ∧ w = w') := Lib.hid (fun w => mod_any up 7 w (by omega) (by omega))
  generalize modV up 7 = m at *
  have H3 := Lib.hid h3
  clear h3
  obtain ⟨U, HU⟩ : ∃ U : Int, Hid (U = m) := ⟨_, Lib.hid rfl⟩
  have HQ : QPost w false U (pathL l) = QPost w false m (pathL l) := by rw [HU.out]
  rw [← HQ]
  clear HQ
  have HA := Lib.hid (C2.start w (pObj false up (.slice a l.length cap)) (pObj false 0 (.slice none 0 0)))
  have HA3 : Hid (∀ r u v, T3 w (((w.alloc (pObj false up (.slice a l.length cap))).alloc (pObj false 0 (.slice none 0 0))).alloc (pObj r u v)) (pObj false up (.slice a l.length cap)) (pObj false 0 (.slice none 0 0)) (pObj r u v)) := Lib.hid (fun r u v => T3.start w _ _ (pObj r u v))
  go_enter Tryd.func13, Tryd.ntmps13
  go_upto_region 1 with fail
  have m1 : ∀ x, Grows ((w.alloc (pObj false up (.slice a l.length cap))).alloc (pObj false 0 (.slice none 0 0))) x → x.cell? ⟨w.heap.size, 0, none⟩ = some (.bool false) := fun x h => (cells3 (HA.out.below h).1).1
  have m2 : ∀ x, Grows ((w.alloc (pObj false up (.slice a l.length cap))).alloc (pObj false 0 (.slice none 0 0))) x → x.cell? ⟨w.heap.size, 1, none⟩ = some (.int .i64 up) := fun x h => (cells3 (HA.out.below h).1).2.1
  refine wp_region_plan (Grows ((w.alloc (pObj false up (.slice a l.length cap))).alloc (pObj false 0 (.slice none 0 0)))) 7 [.reads [0, 1, 2, 3], .bag [4, 5, 6], .act 7] (by kernel_rfl) (by kernel_rfl) (by kernel_rfl) (by kernel_rfl) (by kernel_rfl) (fun _ _ d _ _ h => by cases d <;> exact h) (Grows.self _) ?_
  refine wpPlan_reads ?_
  simp only [pickOps, List.drop_succ_cons, List.drop_zero, List.take_succ_cons, List.take_zero, List.cons_append, List.nil_append]
  repeat (go_big_quiet_step (first | (intro hb; rw [m1 _ hb]; exact ⟨rfl, rfl⟩) | (intro hb; rw [m2 _ hb]; exact ⟨rfl, rfl⟩)))
  refine wpQuiet_nil ?_
  clear m1 m2
  refine wpPlan_bag (PJ ((w.alloc (pObj false up (.slice a l.length cap))).alloc (pObj false 0 (.slice none 0 0))) (w.heap.size + 1 + 1) (pObj false 0 (.slice none 0 0)) false m) (fun _ => undef) rfl ⟨(fun _ => rfl), (fun h => by cases h), (fun h => by cases h), (fun h => by cases h)⟩ ?_ ?_
  · intro j hj d u wz hd hdep HJ
    have HJ := Lib.hid HJ
    simp only [List.mem_cons, List.not_mem_nil, or_false] at hj
    rcases hj with rfl | rfl | rfl
    · clear hd hdep
      refine wpOp_list rfl ?_
      simp only [pickOps, List.drop_succ_cons, List.drop_zero, List.take_succ_cons, List.take_zero, List.cons_append, List.nil_append]
      simp only [fillOps, List.drop_succ_cons, List.drop_zero, List.take_succ_cons, List.take_zero, List.head?_cons, Option.bind_some, Act.put, List.setIfInBounds_toArray, List.set_cons_succ, List.set_cons_zero]
      go_wp2_with fail
      ((with_reducible refine (HMOD.out _).mono ?_))
      rintro e w5 ⟨rfl, rfl⟩
      go_wp2_with fail
      exact ⟨fun _ => HJ.out.grows, _, rfl, HJ.out.call⟩
    · have e4 := HJ.out.2.2.1 (hdep 4 (by simp) (by kernel_rfl))
      clear hd hdep
      refine wpOp_list rfl ?_
      simp only [pickOps, List.drop_succ_cons, List.drop_zero, List.take_succ_cons, List.take_zero, List.cons_append, List.nil_append]
      simp only [fillOps, List.drop_succ_cons, List.drop_zero, List.take_succ_cons, List.take_zero, List.head?_cons, Option.bind_some, Act.put, List.setIfInBounds_toArray, List.set_cons_succ, List.set_cons_zero]
      rw [e4]
      go_wp2_with fail
      exact ⟨fun _ => HJ.out.grows, _, rfl, HJ.out.bld⟩
    · have e := HJ.out.1 hd
      subst e
      clear hd hdep
      refine wpOp_list rfl ?_
      simp only [pickOps, List.drop_succ_cons, List.drop_zero, List.take_succ_cons, List.take_zero, List.cons_append, List.nil_append]
      simp only [fillOps, List.drop_succ_cons, List.drop_zero, List.take_succ_cons, List.take_zero, List.head?_cons, Option.bind_some, Act.put, List.setIfInBounds_toArray, List.set_cons_succ, List.set_cons_zero]
      go_wp2_with fail
      exact ⟨fun _ => grows_ad _ _, _, rfl, HJ.out.new⟩
  · intro d u wz hall HJ
    obtain ⟨h1, h6, h4, h5⟩ := HJ
    obtain ⟨rfl, e6⟩ := h6 (hall 6 (by simp))
    have e4 := h4 (hall 4 (by simp))
    have e5 := h5 (hall 5 (by simp))
    clear h1 h4 h5 h6 hall
    simp only [fillOps, List.drop_succ_cons, List.drop_zero, List.take_succ_cons, List.take_zero, List.head?_cons, Option.bind_some, Act.put, List.setIfInBounds_toArray, List.set_cons_succ, List.set_cons_zero]
    rw [e4, e5, e6]
    clear e4 e5 e6
    refine wpPlan_act rfl ?_
    simp only [pickOps, List.drop_succ_cons, List.drop_zero, List.take_succ_cons, List.take_zero, List.cons_append, List.nil_append]
    go_wp2_with fail
    refine ⟨fun h => absurd h (by decide), wpPlan_nil ?_⟩
    clear HA
    have h3 := H3.out
    go_wp2_with fail
    have HA := Lib.hid ((HA3.out false m (.slice none 0 0)).below (Below.drew (Below.refl _ _)))
    clear HA3
    go_loopw [4] (fun i wr => ∃ k : Nat, i = .int .i64 k ∧ k ≤ min l.length 34 ∧ ∃ vq, Hid (T3 w wr (pObj false up (.slice a l.length cap)) (pObj false 0 (.slice none 0 0)) (pObj false m vq)) ∧ Hid (wr.ownsRow (w.heap.size + 1 + 1 + 1) 9 1 vq (pathK l k).length ((pathK l k).map strV))) (fun i _ => 34 - (intOf i).toNat)
    case atStart => exact ⟨0, rfl, by omega, _, HA, Lib.hid (own_nil _ _)⟩
    case round =>
      obtain ⟨k, rfl, hk, vq, HT, HO⟩ := hrel
      obtain ⟨q1, q2, q3, rfl⟩ := own_slice HO.out
      obtain ⟨w1, rfl⟩ : ∃ x : World, x = wr := ⟨_, rfl⟩
      clear HA
      by_cases hlt : k < min l.length 34
      · have k1 : k < l.length := by omega
        have k2 : k < 34 := by omega
        have S1 := S.out.below HT.out.bel
        obtain ⟨a', cap', hv', _, _, hc⟩ := S1
        injection hv' with e1 _ e2
        subst e1 e2
        obtain ⟨b, off, rfl, hcell⟩ := hc (by rintro rfl; simp at k1)
        have c := hcell k k1
        have HC := Lib.hid hcell
        clear hcell hc
        have HE : Hid (pathK l (k + 1) = pathK l k ++ [pathSeg k l[k]]) := Lib.hid (by rw [pathK]; simp [k1])
        have HX := Lib.hid (X.out l[k] (List.getElem_mem _))
        have HY := Lib.hid (Y.out l[k] (List.getElem_mem _))
        generalize l[k] = x at *
        unfold strV at c
        unfold pathSeg at HE
        have HN := Lib.hid (seg_any x w1 HX.out)
        have HAl : Hid ((pathK l k).length ≤ 34) := Lib.hid (by have := pathK_len l k; omega)
        obtain ⟨d0, d1, d2⟩ := cells3 HT.out.1.1
        go_wp2_with fail
        ((with_reducible refine HN.out.mono ?_))
        rintro e w2 ⟨rfl, hb⟩
        unfold strV
        generalize segV x = y at *
        have HT2 := Lib.hid (HT.out.below hb)
        have HO2 := Lib.hid (own_below HO.out hb)
        clear hb HN HT HO d0 d1 d2 c
        obtain ⟨g, hg⟩ : ∃ g, Hid (segB y = g) := ⟨_, Lib.hid rfl⟩
        rw [hg.out] at HE
        go_upto_region 8 with fail
        go_cut [44] (fun t wx => wx = w2 ∧ t = .bool (!g && decide (0 < k % 3)))
        case first =>
          go_wp2_with fail
          ((with_reducible refine (segmentB_is y g hg w2 HY.out).mono ?_))
          rintro e w3 ⟨rfl, rfl⟩
          cases g
          · go_wp2_with fail
            go_meet
            have e3 : decide (0 < (k : Int) % 3) = decide (0 < k % 3) := by rw [decide_eq_decide]; omega
            exact ⟨rfl, by rw [e3]; rfl⟩
          · go_wp2_with fail
            go_meet
            exact ⟨rfl, rfl⟩
        case rest =>
          obtain ⟨e1, e2⟩ := hcut
          subst e2
          have e1 := e1.symm
          subst e1
          obtain ⟨z, hz⟩ : ∃ z, (!g && decide (0 < k % 3)) = z := ⟨_, rfl⟩
          rw [hz] at HE ⊢
          clear hz
          obtain ⟨yy, hyy⟩ : ∃ yy, Hid ((if z = true then [90] else y) = yy) := ⟨_, Lib.hid rfl⟩
          rw [hyy.out] at HE
          have HO3 : Hid (∀ w2 : World, (w2.alloc (.cells #[.string ⟨yy.toArray⟩] 9)).ownsRow 0 9 1 (.slice (some ⟨w2.heap.size, 0, none⟩) 1 1) 1 ([yy].map strV)) := Lib.hid (fun w2 => own_cells w2 0 (Nat.zero_le _) [yy] 1 rfl (by simp))
          cases z
          · have e9 : y = yy := hyy.out
            subst e9
            clear hyy
            obtain ⟨d0, d1, d2⟩ := cells3 HT2.out.1.2.2
            have f2 := free3 HT2.out.1.2.2 2
            obtain ⟨kb, kn⟩ := newBox w2 (.cells #[.string ⟨y.toArray⟩] 9)
            have HT3 := Lib.hid (HT2.out.below kb)
            have HO4 := Lib.hid (own_below HO2.out kb)
            have HO3' := Lib.hid (HO3.out w2)
            have HSZ : Hid (w.heap.size + 1 + 1 + 1 ≤ (w2.alloc (.cells #[.string ⟨y.toArray⟩] 9)).heap.size) := Lib.hid HT3.out.lt
            clear kb kn HT2 HO2 HO3
            go_wp2_with (at_builtin; refine wpList_append_strs rfl _ _ rfl (w.heap.size + 1 + 1 + 1) _ (pathK l k) rfl HO4.out (.slice (some ⟨w2.heap.size, 0, none⟩) 1 1) [y] rfl (StrsAt.of_own (l := [y]) HO3'.out (by simp)) (by have := HAl.out; simp; omega) HSZ.out ?_; intro v3 w3 ho hgr; obtain ⟨r1, r2, r3, rfl⟩ := own_slice ho; have HO5 := Lib.hid ho; have HT5 := Lib.hid (HT3.out.grown hgr (fun g h => own_row HO4.out h)); clear ho hgr d0 d1 d2 f2; obtain ⟨d0, d1, d2⟩ := cells3 HT5.out.1.2.2; have f2 := free3 HT5.out.1.2.2 2)
            go_roundw
            case rel => exact ⟨k + 1, by go_num, by omega, _, Lib.hid (HT5.out.segs _), Lib.hid (by rw [HE.out]; simpa using own_setCell HO5.out ⟨w.heap.size + 1 + 1, 2, none⟩ _ (by simp))⟩
            case measure => simp [intOf]; omega
          · have e9 : [90] = yy := hyy.out
            subst e9
            clear hyy
            obtain ⟨d0, d1, d2⟩ := cells3 HT2.out.1.2.2
            have f2 := free3 HT2.out.1.2.2 2
            obtain ⟨kb, kn⟩ := newBox w2 (.cells #[.string ⟨#[90]⟩] 9)
            have HT3 := Lib.hid (HT2.out.below kb)
            have HO4 := Lib.hid (own_below HO2.out kb)
            have HO3' := Lib.hid (HO3.out w2)
            have HSZ : Hid (w.heap.size + 1 + 1 + 1 ≤ (w2.alloc (.cells #[.string ⟨#[90]⟩] 9)).heap.size) := Lib.hid HT3.out.lt
            clear kb kn HT2 HO2 HO3
            go_wp2_with (at_builtin; refine wpList_append_strs rfl _ _ rfl (w.heap.size + 1 + 1 + 1) _ (pathK l k) rfl HO4.out (.slice (some ⟨w2.heap.size, 0, none⟩) 1 1) [[90]] rfl (StrsAt.of_own (l := [[90]]) HO3'.out (by simp)) (by have := HAl.out; simp; omega) HSZ.out ?_; intro v3 w3 ho hgr; obtain ⟨r1, r2, r3, rfl⟩ := own_slice ho; have HO5 := Lib.hid ho; have HT5 := Lib.hid (HT3.out.grown hgr (fun g h => own_row HO4.out h)); clear ho hgr d0 d1 d2 f2; obtain ⟨d0, d1, d2⟩ := cells3 HT5.out.1.2.2; have f2 := free3 HT5.out.1.2.2 2)
            go_roundw
            case rel => exact ⟨k + 1, by go_num, by omega, _, Lib.hid (HT5.out.segs _), Lib.hid (by rw [HE.out]; simpa using own_setCell HO5.out ⟨w.heap.size + 1 + 1, 2, none⟩ _ (by simp))⟩
            case measure => simp [intOf]; omega
      · obtain rfl : k = min l.length 34 := by omega
        have HF : Hid (pathK l (min l.length 34) = pathL l) := Lib.hid rfl
        rw [HF.out] at HO
        obtain ⟨d0, d1, d2⟩ := cells3 HT.out.1.1
        obtain ⟨e0, e1, e2⟩ := cells3 HT.out.1.2.2
        have hn := HT.out.1.2.1
        obtain ⟨g0, g1, g2⟩ := cells3 hn
        have f0 := free3 hn 0
        have f1 := free3 hn 1
        have f2 := free3 hn 2
        clear hn HF
        by_cases h12 : l.length ≤ 34
        · have e3 : min l.length 34 = l.length := by omega
          rw [e3]
          clear e3 hlt hk
          go_wp2_with fail
          exact bodyPost_ret (ret_pth _ _ _ _ _ _ rfl (put3 HT.out.1.2.1 _ _ _)) rfl ⟨_, by rw [HU.out], own_base (own_set3 HO.out _ _ _ _ (by omega)) (by omega), bel3 HT.out.2 (by omega) _ _ _⟩
        · have e3 : min l.length 34 = 34 := by omega
          have h13 : (34 : Int) < (l.length : Int) := by omega
          rw [e3]
          clear e3 hlt hk
          go_wp2_with fail
          exact bodyPost_ret (ret_pth _ _ _ _ _ _ rfl (put3 HT.out.1.2.1 _ _ _)) rfl ⟨_, by rw [HU.out], own_base (own_set3 HO.out _ _ _ _ (by omega)) (by omega), bel3 HT.out.2 (by omega) _ _ _⟩
theorem path_any (p : Value) (root : Bool) (up : Int) (l : List (List UInt8)) (w : World) (hp : PathV w p root up l) (hx : ∀ x ∈ l, x.length ≤ 9223372036854775000) (hy : ∀ x ∈ l, (segV x).length ≤ 9223372036854775000) :
    Calls Tryd.prog 13 #[p] w (QPost w root (upV root up) (pathL l)) := by
  cases root
  · by_cases h3 : 3 < modV up 7
    · have e : upV false up = 0 := by simp [upV, h3]
      rw [e]; exact path_case1 p up l w h3 hp hx hy
    · have e : upV false up = modV up 7 := by simp [upV, h3]
      rw [e]; exact path_case2 p up l w (by omega) hp hx hy
  · have e : upV true up = 0 := by simp [upV]
    rw [e]; exact path_case0 p up l w hp hx hy
end Go.Proofs.YtkalnblbplaheaaDoor
