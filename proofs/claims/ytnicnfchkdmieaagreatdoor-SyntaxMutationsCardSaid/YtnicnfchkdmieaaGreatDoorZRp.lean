/- Rp -/
import Derived.Test.YtnicnfchkdmieaaGreatDoorZv
set_option linter.unusedVariables false
set_option linter.unusedSimpArgs false
namespace Go.Proofs.YtnicnfchkdmieaaGreatDoor
open Go.RowKit
attribute [local go_sem] ByteArray.mk_append_mk bs_get bs_cut bs_end
attribute [local go_sem] SameB.some SameB.all
set_option maxRecDepth 100000 in
set_option maxHeartbeats 16000000 in
theorem node_if (m : Int) (B b : Nat) (L : List TokI) (sub : UInt8 → List TokI → PR) (n : Nat) (kd : UInt8) (i : Nat) (hs : i < L.length → RSub m B b L sub n) (hg : ∀ k r, PGood1 r (sub k r)) (hL1 : L.length ≤ 100000) (o : List Nd) (w : World)
 (h : RSt m B b w L i (-1) o) (hn : L.length - i ≤ n + 1) (hk31 : (lookP (L.drop i)).kind = 31) :
 Calls Tryz.prog 50 #[.pointer (some ⟨b, 0, none⟩), .int .u8 kd.toNat] w (RPost m B b L w o (nodeP sub kd (L.drop i))) := by
 have HS := Lib.hid hs
 have HGD := Lib.hid hg
 have hL : L.length ≤ 1000000 := by omega
 obtain ⟨X, hX⟩ : ∃ X, Hid (nodeP sub kd (L.drop i) = X) := ⟨_, Lib.hid rfl⟩
 rw [hX.out]
 have HK31 := Lib.hid hk31
 clear hk31
 have hFC := lookP_facts (L.drop i)
 have hpos := lookP_pos (L.drop i)
 have hsl : (lookP (L.drop i)).str.length ≤ 65536 := lookP_str (h.good.drop i)
 have HIX := Lib.hid h.ix
 have HOL := Lib.hid h.ol
 have HEM : Hid (L.drop i = [] → (lookP (L.drop i)).kind = 0) := Lib.hid (fun e => by rw [e]; rfl)
 clear hs hg
 have HLK := Lib.hid (look_ref m (-1) B b i w L o h hL)
 have H0 := Lib.hid h
 obtain ⟨⟨op, num, str, pos⟩, hx⟩ : ∃ x, lookP (L.drop i) = x := ⟨_, rfl⟩
 have HXX := Lib.hid hx
 rw [hx] at HLK
 unfold tokV at HLK
 simp only at HLK
 clear h hx
 go_enter Tryz.func50, Tryz.ntmps50
 go_wp2_with fail
 ((with_reducible refine HLK.out.mono ?_))
 rintro e w1 ⟨rfl, hb1⟩
 have hal : Below w1.heap.size w1 (w1.alloc (nObj op num str pos)) := (Below.refl _ _).alloc (Nat.le_refl _) _
 have hg2 : Below w.heap.size w (w1.alloc (nObj op num str pos)) := bel_then hb1 (Nat.le_refl _) hal
 have H2 := Lib.hid (H0.out.below hg2)
 have HB2 : Hid (Below B w (w1.alloc (nObj op num str pos))) := Lib.hid (hg2.mono H0.out.size)
 have HG2 := Lib.hid hg2
 have HQ2 := Lib.hid (heap_alloc_new w1 (nObj op num str pos))
 have hbQ : b < w1.heap.size := by
  obtain ⟨tv, nv, k1, _⟩ := (H0.out.below hb1).ex
  exact lt_of_block k1
 have hwQ : w.heap.size ≤ w1.heap.size := hb1.size
 clear hb1 hal hg2 HLK
 go_upto_region 1 with fail
 generalize w1.alloc (nObj op num str pos) = W2 at H2 HB2 HG2 HQ2 ⊢
 generalize w1.heap.size = Q at HQ2 hbQ hwQ ⊢
 go_cut [5] (fun z wx => ∃ nq, z = .bool (op == 3 && atT 5 (L.drop (i + 1))) ∧ wx = W2.drewN nq)
 case first =>
  obtain ⟨q0, q1, q2, q3⟩ := cells4 HQ2.out
  obtain ⟨⟨tv, nv, h1, h2, h3⟩, h4, h5, h6, h7, h8, h9, ha, hc', hd'⟩ := H2.out
  obtain ⟨c0, c1, c2, c3⟩ := cells4 h1
  by_cases e3 : op = 3
  ·subst e3
   cases hd : L.drop (i + 1) with
   | nil =>
     obtain ⟨a, cap, rfl, hl, hc⟩ := h2
     have hi1 : ¬ (i : Int) + 1 < (L.length : Int) := by
      have := congrArg List.length hd
      rw [List.length_drop] at this
      simp only [List.length_nil] at this
      omega
     have HD := Lib.hid hd
     clear hc h3 h6 h8 h1 hd h7 ha hc' hd'
     go_quiet (fail)
     go_wp2_with fail
     go_meet
     exact ⟨_, by rw [HD.out]; simp [atT], rfl⟩
   | cons t q =>
     obtain ⟨g, off, cap, rfl, hgB, hi, t0, t1, t2, t3⟩ := h2.drop_cells hd
     have hi1 : (i : Int) + 1 < (L.length : Int) := by omega
     have HD := Lib.hid hd
     clear h3 h6 h8 h1 hd h7 h9 ha hc' hd' h2 hi
     obtain ⟨tk, tn, ts, tp⟩ := t
     simp only at t0
     go_quiet (fail)
     go_wp2_with fail
     go_meet
     exact ⟨_, by rw [HD.out]; simp [atT], rfl⟩
  ·have e3' : (op == 3) = false := beq_eq_false_iff_ne.2 e3
   clear h3 h6 h8 h1 h7 h9 ha hc' hd' h2
   go_quiet (fail)
   go_wp2_with fail
   go_meet
   exact ⟨_, by simp [e3'], rfl⟩
 case rest =>
 obtain ⟨nq, rfl, rfl⟩ := hcut
 have H3 : Hid (RSt m B b (W2.drewN nq) L i (-1) o) := Lib.hid (H2.out.below (below_drewN (Below.refl _ _) _))
 have HB3 : Hid (Below B w (W2.drewN nq)) := Lib.hid (below_drewN HB2.out _)
 have HG3 : Hid (Below w.heap.size w (W2.drewN nq)) := Lib.hid (below_drewN HG2.out _)
 have HQ3 : Hid ((W2.drewN nq).heap[Q]? = some (nObj op num str pos)) := HQ2
 obtain ⟨op2, hop2⟩ : ∃ z, (if (op == 3 && (kd == 83 || (kd == 101 && atT 5 (L.drop (i + 1))))) = true then (5 : Int) else op) = z := ⟨_, rfl⟩
 have HOP2 := Lib.hid hop2
 generalize W2.drewN nq = W3 at H3 HB3 HG3 HQ3 ⊢
 obtain ⟨cl, hcl⟩ : ∃ z, atT 5 (L.drop (i + 1)) = z := ⟨_, rfl⟩
 rw [hcl] at hop2 ⊢
 clear H2 HB2 HG2 HQ2 hcl
 have hk83 := byte_int kd 83
 have hk101 := byte_int kd 101
 obtain ⟨b83, hb83⟩ : ∃ z, (kd == 83) = z := ⟨_, rfl⟩
 obtain ⟨b101, hb101⟩ : ∃ z, (kd == 101) = z := ⟨_, rfl⟩
 obtain ⟨b3, hb3⟩ : ∃ z, (op == 3) = z := ⟨_, rfl⟩
 rw [hb83] at hk83 hop2
 rw [hb101] at hk101 hop2
 rw [hb3] at hop2 ⊢
 have hk83' : ((kd.toNat : Int) == 83) = b83 := hk83
 have hk101' : ((kd.toNat : Int) == 101) = b101 := hk101
 clear hb83 hb101 hk83 hk101
 obtain ⟨q0, q1, q2, q3⟩ := cells4 HQ3.out
 have fq := free3 HQ3.out 0
 go_upto_region 2 with fail
 go_cut [55] (fun z wx => z = .bool (b3 && (b83 || (b101 && (b3 && cl)))) ∧ W3 = wx)
 case first =>
  cases b3
  ·go_wp2_with fail
   go_meet
   exact ⟨by simp, rfl⟩
  ·cases b83
   ·cases b101
    ·go_wp2_with fail
     go_meet
     exact ⟨by simp, rfl⟩
    ·go_wp2_with fail
     go_meet
     exact ⟨by simp, rfl⟩
   ·go_wp2_with fail
    go_meet
    exact ⟨by simp, rfl⟩
 case rest =>
 obtain ⟨rfl, rfl⟩ := hcut
 obtain ⟨W3, rfl⟩ : ∃ y : World, y = W3 := ⟨_, rfl⟩
 go_upto_if 55 with fail
 go_cut [56] (fun z wx => Hid (wx.heap[Q]? = some (nObj op2 num str pos)) ∧ Hid (Below w.heap.size w wx))
 case first =>
  have HS5 : Hid ((W3.setCell ⟨Q, 0, none⟩ (.int .i64 5)).heap[Q]? = some (nObj 5 num str pos)) := Lib.hid (heap_setCell_same _ _ 0 _ _ _ HQ3.out)
  have HG5 : Hid (Below w.heap.size w (W3.setCell ⟨Q, 0, none⟩ (.int .i64 5))) := Lib.hid (HG3.out.setCell hwQ _)
  cases hcb : (b3 && (b83 || (b101 && (b3 && cl)))) with
  | true =>
    have e2 : op2 = 5 := by
     rw [← hop2]
     refine if_pos ?_
     revert hcb
     cases b3 <;> cases b83 <;> cases b101 <;> cases cl <;> decide
    have E2 := Lib.hid e2
    clear e2
    go_wp2_with fail
    go_meet
    rw [E2.out]
    exact ⟨HS5, HG5⟩
  | false =>
    have e2 : op2 = op := by
     rw [← hop2]
     refine if_neg ?_
     revert hcb
     cases b3 <;> cases b83 <;> cases b101 <;> cases cl <;> decide
    have E2 := Lib.hid e2
    clear e2
    go_wp2_with fail
    go_meet
    rw [E2.out]
    exact ⟨HQ3, HG3⟩
 case rest =>
 obtain ⟨HQ5, HG5⟩ := hcut
 obtain ⟨W5, rfl⟩ : ∃ y : World, y = wc := ⟨_, rfl⟩
 have H5 : Hid (RSt m B b W5 L i (-1) o) := Lib.hid (H0.out.below HG5.out)
 clear H3 HB3 HG3 HQ3 q0 q1 q2 q3 fq hop2 hb3 hk83' hk101'
 rw [HXX.out] at hFC hpos hsl HEM HK31
 simp only at hFC hpos hsl HEM HK31
 have HXN : Hid (X = if (op2 == 0 || !accB kd op2 || (kd == 115 && !segB str)) = true then .no (L.drop i)
  else if op2 = 5 then (if atT 5 (L.drop (i + 1)) = true then callP sub str (L.drop (i + 2)) else .no (L.drop (i + 1)))
  else if op2 = 33 then (if atT 5 (L.drop (i + 1)) = true then wrapP ⟨33, 0, [], 1⟩ (opsP sub [101] (L.drop (i + 1))) else .ok (L.drop (i + 1)) [⟨33, 0, [], 0⟩])
  else if op2 = 31 then (match opsP sub [101, 83] (L.drop (i + 1)) with
   | .no x => .no x
   | .ok r1 n1 => if elseT r1 = true then (match blockP sub 83 r1.tail with | .no x => .no x | .ok r2 n2 => .ok r2 (⟨31, 0, [], 3⟩ :: (n1 ++ n2))) else .ok r1 (⟨31, 0, [], 2⟩ :: n1))
  else if op2 = 1 ∨ op2 = 2 ∨ op2 = 3 ∨ op2 = 6 ∨ op2 = 7 ∨ op2 = 34 ∨ op2 = 35 then .ok (L.drop (i + 1)) [⟨op2, num, str, 0⟩]
  else wrapP ⟨op2, 0, [], ((formP op2).2.length : Nat)⟩ (opsP sub (formP op2).2 (L.drop (i + 1)))) := Lib.hid (by
  rw [← hX.out, ← HOP2.out]
  unfold nodeP
  rw [HXX.out, List.tail_drop, List.tail_drop]
  rfl)
 have HO2 : Hid ((op2 = 5 ∧ op = 3) ∨ (op2 = op ∧ op ≠ 5)) := Lib.hid (by
  rw [← HOP2.out]
  by_cases hc : (op == 3 && (kd == 83 || (kd == 101 && atT 5 (L.drop (i + 1))))) = true
  ·rw [if_pos hc]
   simp only [Bool.and_eq_true, beq_iff_eq] at hc
   exact .inl ⟨rfl, hc.1⟩
  ·rw [if_neg hc]; exact .inr ⟨rfl, hFC.1⟩)
 have HFC := Lib.hid hFC
 subst hpos
 clear hFC HOP2 HXX
 obtain ⟨q0, q1, q2, q3⟩ := cells4 HQ5.out
 obtain ⟨rf, hrf⟩ : ∃ z, (op2 == 0 || !accB kd op2 || (kd == 115 && !segB str)) = z := ⟨_, rfl⟩
 have HRF := Lib.hid hrf
 rw [hrf] at HXN
 go_upto_region 4 with fail
 go_cut [83] (fun z wx => z = .bool rf ∧ W5 = wx)
 case first =>
  obtain ⟨⟨tv, nv, k1, k2, k3⟩, _⟩ := H5.out
  obtain ⟨c0, c1, c2, c3⟩ := cells4 k1
  clear k1 k2 k3
  cases h0 : op2 == 0 with
  | true =>
    have e : rf = true := by rw [← hrf, h0]; rfl
    subst e
    go_wp2_with fail
    go_meet
    exact ⟨rfl, rfl⟩
  | false =>
    obtain ⟨ab, hab⟩ : ∃ z, Hid (accB kd op2 = z) := ⟨_, Lib.hid rfl⟩
    have HPER := Lib.hid (fun w => per_is kd op2 ab hab w)
    cases ab with
    | false =>
      have e : rf = true := by rw [← hrf, h0, hab.out]; rfl
      subst e
      clear hrf HRF
      go_wp2_with fail
      ((with_reducible refine (HPER.out _).mono ?_))
      rintro e w6 ⟨rfl, rfl⟩
      go_wp2_with fail
      go_meet
      exact ⟨rfl, rfl⟩
    | true =>
      cases hk : kd == 115 with
      | false =>
        have e : rf = false := by rw [← hrf, h0, hab.out, hk]; rfl
        subst e
        have hks := inR_s hk
        clear hrf HRF
        go_wp2_with fail
        ((with_reducible refine (HPER.out _).mono ?_))
        rintro e w6 ⟨rfl, rfl⟩
        go_wp2_with fail
        go_meet
        exact ⟨rfl, rfl⟩
      | true =>
        have e : rf = !segB str := by rw [← hrf, h0, hab.out, hk]; rfl
        have hkd : kd = 115 := beq_iff_eq.1 hk
        subst hkd
        obtain ⟨sb, hsb⟩ : ∃ z, Hid (segB str = z) := ⟨_, Lib.hid rfl⟩
        have HSI := Lib.hid (fun w => rsingle_is str sb hsb w (by omega))
        have HPER2 : Hid (∀ w, Calls Tryz.prog 39 #[.int .u8 115, .int .i64 op2] w fun e w' => e = .returned (.bool true) ∧ w = w') := HPER
        rw [hsb.out] at e
        subst e
        clear hrf HRF HPER
        go_wp2_with fail
        ((with_reducible refine (HPER2.out _).mono ?_))
        rintro e w6 ⟨rfl, rfl⟩
        go_wp2_with fail
        ((with_reducible refine (HSI.out _).mono ?_))
        rintro e w6 ⟨rfl, rfl⟩
        go_wp2_with fail
        go_meet
        exact ⟨rfl, rfl⟩
 case rest =>
 obtain ⟨rfl, rfl⟩ := hcut
 obtain ⟨W5, rfl⟩ : ∃ y : World, y = W5 := ⟨_, rfl⟩
 cases rf with
 | true =>
   have HX2 : Hid (X = .no (L.drop i)) := Lib.hid (by rw [HXN.out, if_pos rfl])
   have HFN := Lib.hid (fail_new m B b i W5 L o H5.out)
   clear HXN
   go_wp2_with fail
   ((with_reducible refine HFN.out.mono ?_))
   rintro e w6 ⟨rfl, hp6, hb6⟩
   have HP6 := Lib.hid hp6
   have HB6 : Hid (Below B w w6) := Lib.hid ((HG5.out.mono H0.out.size).trans hb6)
   clear hp6 hb6
   go_wp2_with fail
   (try simp only [Exit.inBlock, Exit.then])
   refine bodyPost_ret (results_none rfl _ _ _) rfl ?_
   rw [HX2.out]
   exact ⟨rfl, HB6.out, _, _, _, rfl, HP6.out⟩
 | false =>
   have hrf2 := HRF.out
   simp only [Bool.or_eq_false_iff, beq_eq_false_iff_ne, Bool.not_eq_false'] at hrf2
   have h0 : op2 ≠ 0 := hrf2.1.1
   have hil : i < L.length := by
    rcases Nat.lt_or_ge i L.length with h | h
    ·exact h
    ·exfalso
     have e0 := HEM.out (List.drop_eq_nil_of_le h)
     rcases HO2.out with ⟨_, e3⟩ | ⟨e, _⟩
     ·omega
     ·exact h0 (e.trans e0)
   have HS2 := Lib.hid (HS.out hil)
   have HXB : Hid (X = if op2 = 5 then (if atT 5 (L.drop (i + 1)) = true then callP sub str (L.drop (i + 2)) else .no (L.drop (i + 1)))
    else if op2 = 33 then (if atT 5 (L.drop (i + 1)) = true then wrapP ⟨33, 0, [], 1⟩ (opsP sub [101] (L.drop (i + 1))) else .ok (L.drop (i + 1)) [⟨33, 0, [], 0⟩])
    else if op2 = 31 then (match opsP sub [101, 83] (L.drop (i + 1)) with
     | .no x => .no x
     | .ok r1 n1 => if elseT r1 = true then (match blockP sub 83 r1.tail with | .no x => .no x | .ok r2 n2 => .ok r2 (⟨31, 0, [], 3⟩ :: (n1 ++ n2))) else .ok r1 (⟨31, 0, [], 2⟩ :: n1))
    else if op2 = 1 ∨ op2 = 2 ∨ op2 = 3 ∨ op2 = 6 ∨ op2 = 7 ∨ op2 = 34 ∨ op2 = 35 then .ok (L.drop (i + 1)) [⟨op2, num, str, 0⟩]
    else wrapP ⟨op2, 0, [], ((formP op2).2.length : Nat)⟩ (opsP sub (formP op2).2 (L.drop (i + 1)))) := Lib.hid (by rw [HXN.out, if_neg (by decide)])
   have HH0 := Lib.hid h0
   clear HXN hrf hrf2 h0 HRF
   have KEY := Lib.hid (H5.out.setI (j := i + 1) (by omega) (by omega))
   rw [show ((i + 1 : Nat) : Int) = (i : Int) + 1 by omega] at KEY
   obtain ⟨⟨tv, nv, k1, k2, k3⟩, _⟩ := H5.out
   obtain ⟨c0, c1, c2, c3⟩ := cells4 k1
   have f1 := free3 k1 1
   have HQ6 : Hid ((W5.setCell ⟨b, 1, none⟩ (.int .i64 ((i : Int) + 1))).heap[Q]? = some (nObj op2 num str 0)) := Lib.hid (blk_other HQ5.out _ _ (by show Q ≠ b; omega))
   have HB6 : Hid (Below B w (W5.setCell ⟨b, 1, none⟩ (.int .i64 ((i : Int) + 1)))) := Lib.hid ((HG5.out.mono H0.out.size).setCell H0.out.base _)
   have hownQ : ∀ tv nv, (W5.setCell ⟨b, 1, none⟩ (.int .i64 ((i : Int) + 1))).heap[b]? = some (rpObj tv (i + 1 : Nat) nv (-1)) → nv.ownBlock ≠ some Q := by
    intro tv2 nv2 hk2 e
    obtain ⟨tv0, nv0, j1, j2, j3⟩ := H0.out.ex
    have j4 := blk_below j1 HG5.out
    have j5 := heap_setCell_same _ _ 1 _ _ (.int .i64 ((i : Int) + 1)) j4
    rw [j5] at hk2
    injection hk2 with hk2
    injection hk2 with hk2 _ _
    have : nv0 = nv2 := by
     have := congrArg (fun a : Array Value => a.getD 2 undef) hk2
     simpa using this
    subst this
    have := own_lt j3 e
    omega
   clear k1 k2 k3
   go_upto_region 7 with fail
   generalize W5.setCell ⟨b, 1, none⟩ (.int .i64 ((i : Int) + 1)) = W6 at KEY HQ6 HB6 hownQ ⊢
   clear c0 c1 c2 c3 f1 q0 q1 q2 q3
   have HAD := Lib.hid (add_ref4 m (-1) B b (i + 1) op2 num 0 str W6 L o KEY.out (by have := HOL.out; omega) (by have := HOL.out; omega))
   unfold tokV at HAD
   have hQ6 : Q < W6.heap.size := lt_of_block HQ6.out
   obtain ⟨q0, q1, q2, q3⟩ := cells4 HQ6.out
   go_wp2_with fail
   ((with_reducible refine HAD.out.mono ?_))
   rintro e w7 ⟨rfl, hp7, hb7, hfr⟩
   have HP7 := Lib.hid hp7
   have HB7 : Hid (Below B w w7) := Lib.hid (HB6.out.trans hb7)
   have HQ7 := Lib.hid ((hfr Q hQ6 (by omega) hownQ).trans HQ6.out)
   clear hp7 hb7 hfr HAD q0 q1 q2 q3 hQ6 hownQ KEY HQ6 HB6 HQ5 HG5
   obtain ⟨q0, q1, q2, q3⟩ := cells4 HQ7.out
   by_cases h5 : op2 = 5
   ·exfalso; rcases HO2.out with ⟨_, e⟩ | ⟨e, _⟩ <;> (have := HK31.out; omega)
   have e5 : (op2 == 5) = false := beq_eq_false_iff_ne.2 h5
   have hopo : op2 = op := by
    rcases HO2.out with ⟨e, _⟩ | ⟨e, _⟩
    ·exact absurd e h5
    ·exact e
   by_cases h33 : op2 = 33
   ·exfalso; rcases HO2.out with ⟨_, e⟩ | ⟨e, _⟩ <;> (have := HK31.out; omega)
   have e33 : (op2 == 33) = false := beq_eq_false_iff_ne.2 h33
   by_cases h31 : op2 = 31
   ·obtain ⟨hn0, hs0, _⟩ := HFC.out.2.2 (by omega) (by omega) (by omega) (by omega) (by omega) (by omega)
    subst hn0 hs0
    clear hopo
    subst h31
    have HXC : Hid (X = match opsP sub [101, 83] (L.drop (i + 1)) with
     | .no x => .no x
     | .ok r1 n1 => if elseT r1 = true then (match blockP sub 83 r1.tail with | .no x => .no x | .ok r2 n2 => .ok r2 (⟨31, 0, [], 3⟩ :: (n1 ++ n2))) else .ok r1 (⟨31, 0, [], 2⟩ :: n1)) := Lib.hid (by rw [HXB.out, if_neg (by decide), if_neg (by decide), if_pos rfl])
    have HCH := Lib.hid (rchildren_any m B b L sub n HS2.out HGD.out hL1 [101, 83] 1 kids10183 (by simp) (by decide) 31 0 0 [] (i + 1) o w7 HP7.out (by omega))
    have hgo := opsP_good HGD.out [101, 83] (L.drop i) 1 (by rw [List.length_drop]; omega) (Nat.le_refl _)
    rw [List.drop_drop] at hgo
    clear HXB h5 h33
    cases ho : opsP sub [101, 83] (L.drop (i + 1)) with
    | no x =>
      rw [ho] at HXC HCH
      have HX2 : Hid (X = .no x) := HXC
      clear ho hgo
      go_wp2_with fail
      ((with_reducible refine HCH.out.mono ?_))
      rintro e w8 ⟨rfl, hb8, i8, j8, o8, rfl, hp8⟩
      have HB8 : Hid (Below B w w8) := Lib.hid (HB7.out.trans hb8)
      have HP8 := Lib.hid hp8
      clear hb8 hp8 HCH q0 q1 q2 q3
      obtain ⟨⟨tv, nv, k1, k2, k3⟩, _⟩ := HP8.out
      obtain ⟨c0, c1, c2, c3⟩ := cells4 k1
      obtain ⟨Fv, hFv⟩ : ∃ Fv : Int, (j8 : Int) = Fv := ⟨_, rfl⟩
      have hF3 : decide (Fv < 0) = false := decide_eq_false (by omega)
      rw [hFv] at c3
      clear k1 k2 k3 hFv
      go_upto_region 25 with fail
      have k3 : ∀ x, Grows w8 x → x.cell? ⟨b, 3, none⟩ = some _ := fun x hx => (hx.cell (p := ⟨b, 3, none⟩) (World.block_lt_of_cell? _ ⟨b, 3, none⟩ c3)).trans c3
      clear c0 c1 c2 c3
      refine wp_region_plan (Grows w8) 24 [.reads [0, 1, 2, 3, 4, 5, 6], .act 7, .reads [8, 9, 10, 11, 12, 13, 14, 15, 16, 17, 18, 19, 20, 21, 22, 23]] (by kernel_rfl) (by kernel_rfl) (by kernel_rfl) (by kernel_rfl) (by kernel_rfl) (fun _ _ d _ _ h => by cases d <;> exact h) (Grows.self _) ?_
      refine wpPlan_reads ?_
      simp only [pickOps, List.drop_succ_cons, List.drop_zero, List.take_succ_cons, List.take_zero, List.cons_append, List.nil_append]
      repeat (go_big_quiet_step ((intro hb; rw [k3 _ hb]; exact ⟨rfl, rfl⟩)))
      (try simp only [hF3])
      repeat (go_big_quiet_step (fail))
      refine wpQuiet_nil ?_
      clear k3
      refine wpPlan_act rfl ?_
      simp only [pickOps, List.drop_succ_cons, List.drop_zero, List.take_succ_cons, List.take_zero, List.cons_append, List.nil_append]
      go_wp2_with fail
      refine ⟨fun _ => Grows.self _, ?_⟩
      refine wpPlan_reads ?_
      simp only [pickOps, List.drop_succ_cons, List.drop_zero, List.take_succ_cons, List.take_zero, List.cons_append, List.nil_append]
      repeat (go_big_quiet_step (fail))
      refine wpQuiet_nil ?_
      refine wpPlan_nil ?_
      go_wp2_with fail
      go_end0
      rw [HX2.out]
      exact ⟨rfl, below_drewN HB8.out 1, _, _, _, rfl, HP8.out.below (below_drewN (Below.refl _ _) 1)⟩
    | ok r1 n1 =>
      rw [ho] at HXC HCH hgo
      obtain ⟨kg, hk1, hk2, hk3, hk4⟩ := hgo
      have HK3 := Lib.hid hk3
      have HXD : Hid (X = if elseT r1 = true then (match blockP sub 83 r1.tail with | .no x => .no x | .ok r2 n2 => .ok r2 (⟨31, 0, [], 3⟩ :: (n1 ++ n2))) else .ok r1 (⟨31, 0, [], 2⟩ :: n1)) := HXC
      clear ho hk3 hk4
      go_wp2_with fail
      ((with_reducible refine HCH.out.mono ?_))
      rintro e w8 ⟨rfl, hb8, i8, rfl, hp8⟩
      have hii8 : i < i8 := good_drop hp8.ix rfl HK3.out hk1 hk2
      clear hk1 hk2 HK3
      have HB8 : Hid (Below B w w8) := Lib.hid (HB7.out.trans hb8)
      have HP8 : Hid (RSt m B b w8 L i8 (-1) (o ++ ⟨31, 0, [], 2⟩ :: n1)) := Lib.hid hp8
      clear hb8 hp8 HCH q0 q1 q2 q3 HXC
      go_upto_region 25 with fail
      go_cut [158] (fun z wx => z = .bool (elseT (L.drop i8)) ∧ Hid (Below w8.heap.size w8 wx))
      case first =>
       have HKK := Lib.hid (fun (x : World) (hx : Grows w8 x) => kind_ref m (-1) B b i8 x L _ (HP8.out.below hx) (by omega))
       obtain ⟨⟨tv, nv, h1, h2, h3⟩, _⟩ := HP8.out
       obtain ⟨c0, c1, c2, c3⟩ := cells4 h1
       have k3 : ∀ x, Grows w8 x → x.cell? ⟨b, 3, none⟩ = some _ := fun x hx => (hx.cell (p := ⟨b, 3, none⟩) (World.block_lt_of_cell? _ ⟨b, 3, none⟩ c3)).trans c3
       obtain ⟨z, hz0⟩ : ∃ z, kindT (L.drop i8) = z := ⟨_, rfl⟩
       rw [hz0] at HKK
       by_cases hz2 : z = 2
       ·subst hz2
        obtain ⟨t, q, hd⟩ : ∃ t q, L.drop i8 = t :: q := by
         cases hd : L.drop i8 with
         | nil => rw [hd] at hz0; cases hz0
         | cons t q => exact ⟨t, q, rfl⟩
        obtain ⟨g, off, cap, rfl, hgB, hi, t0, t1, t2, t3⟩ := h2.drop_cells hd
        have hi2 : (i8 : Int) < (L.length : Int) := by omega
        obtain ⟨tk, tn, ts, tp⟩ := t
        rw [hd] at hz0
        have htk : tk = 2 := hz0
        subst htk
        have HEL2 : Hid (elseT (L.drop i8) = (ts == [69, 108, 115, 101])) := Lib.hid (by rw [hd]; rfl)
        simp only at t2
        have k0 : ∀ x, Grows w8 x → x.cell? ⟨b, 0, none⟩ = some _ := fun x hx => (hx.cell (p := ⟨b, 0, none⟩) (World.block_lt_of_cell? _ ⟨b, 0, none⟩ c0)).trans c0
        have k1 : ∀ x, Grows w8 x → x.cell? ⟨b, 1, none⟩ = some _ := fun x hx => (hx.cell (p := ⟨b, 1, none⟩) (World.block_lt_of_cell? _ ⟨b, 1, none⟩ c1)).trans c1
        have q2 : ∀ x, Grows w8 x → x.cell? ⟨g, off + i8 * 4 + 2, none⟩ = some _ := fun x hx => (hx.cell (p := ⟨g, off + i8 * 4 + 2, none⟩) (World.block_lt_of_cell? _ ⟨g, off + i8 * 4 + 2, none⟩ t2)).trans t2
        obtain ⟨eb, heb⟩ : ∃ z, (ts == [69, 108, 115, 101]) = z := ⟨_, rfl⟩
        rw [heb] at HEL2
        clear h1 h3 hd c0 c1 c2 c3 t0 t1 t2 t3 h2 hi hz0
        refine wp_region_plan (Grows w8) 24 [.reads [0, 1, 2, 3, 4, 5, 6], .act 7, .reads [8, 9, 10, 11, 12, 13, 14, 15, 16, 17, 18, 19, 20, 21, 22, 23]] (by kernel_rfl) (by kernel_rfl) (by kernel_rfl) (by kernel_rfl) (by kernel_rfl) (fun _ _ d _ _ h => by cases d <;> exact h) (Grows.self _) ?_
        refine wpPlan_reads ?_
        simp only [pickOps, List.drop_succ_cons, List.drop_zero, List.take_succ_cons, List.take_zero, List.cons_append, List.nil_append]
        repeat (go_big_quiet_step ((intro hb; rw [k3 _ hb]; exact ⟨rfl, rfl⟩)))
        refine wpQuiet_nil ?_
        refine wpPlan_act rfl ?_
        simp only [pickOps, List.drop_succ_cons, List.drop_zero, List.take_succ_cons, List.take_zero, List.cons_append, List.nil_append]
        go_wp2_with fail
        ((with_reducible refine (HKK.out _ (Grows.self _)).mono ?_))
        rintro e w9 ⟨rfl, q9, rfl⟩
        go_wp2_with fail
        refine ⟨fun _ => below_drewN (Below.refl _ _) _, ?_⟩
        refine wpPlan_reads ?_
        simp only [pickOps, List.drop_succ_cons, List.drop_zero, List.take_succ_cons, List.take_zero, List.cons_append, List.nil_append]
        repeat (go_big_quiet_step (first | (intro hb; rw [k0 _ hb]; exact ⟨rfl, rfl⟩) | (intro hb; rw [k1 _ hb]; exact ⟨rfl, rfl⟩) | (intro hb; rw [q2 _ hb]; exact ⟨rfl, rfl⟩)))
        refine wpQuiet_nil ?_
        refine wpPlan_nil ?_
        go_wp2_with fail
        go_meet
        exact ⟨by rw [HEL2.out], Lib.hid (below_drewN (Below.refl _ _) _)⟩
       ·have hz : (z == 2) = false := beq_eq_false_iff_ne.2 hz2
        have HEL2 : Hid (elseT (L.drop i8) = false) := Lib.hid (by
         cases hd : L.drop i8 with
         | nil => rfl
         | cons t q =>
           rw [hd] at hz0
           have e : (t.kind == 2) = false := by rw [show t.kind = z from hz0]; exact hz
           show (t.kind == 2 && t.str == [69, 108, 115, 101]) = false
           rw [e]; rfl)
        clear h1 h2 h3 c0 c1 c2 c3 hz0 hz2
        refine wp_region_plan (Grows w8) 24 [.reads [0, 1, 2, 3, 4, 5, 6], .act 7, .reads [8, 9, 10, 11, 12, 13, 14, 15, 16, 17, 18, 19, 20, 21, 22, 23]] (by kernel_rfl) (by kernel_rfl) (by kernel_rfl) (by kernel_rfl) (by kernel_rfl) (fun _ _ d _ _ h => by cases d <;> exact h) (Grows.self _) ?_
        refine wpPlan_reads ?_
        simp only [pickOps, List.drop_succ_cons, List.drop_zero, List.take_succ_cons, List.take_zero, List.cons_append, List.nil_append]
        repeat (go_big_quiet_step ((intro hb; rw [k3 _ hb]; exact ⟨rfl, rfl⟩)))
        refine wpQuiet_nil ?_
        refine wpPlan_act rfl ?_
        simp only [pickOps, List.drop_succ_cons, List.drop_zero, List.take_succ_cons, List.take_zero, List.cons_append, List.nil_append]
        go_wp2_with fail
        ((with_reducible refine (HKK.out _ (Grows.self _)).mono ?_))
        rintro e w9 ⟨rfl, q9, rfl⟩
        go_wp2_with fail
        refine ⟨fun _ => below_drewN (Below.refl _ _) _, ?_⟩
        refine wpPlan_reads ?_
        simp only [pickOps, List.drop_succ_cons, List.drop_zero, List.take_succ_cons, List.take_zero, List.cons_append, List.nil_append]
        repeat (go_big_quiet_step (fail))
        refine wpQuiet_nil ?_
        refine wpPlan_nil ?_
        go_wp2_with fail
        go_meet
        exact ⟨by rw [HEL2.out], Lib.hid (below_drewN (Below.refl _ _) _)⟩
      case rest =>
      obtain ⟨rfl, HG9⟩ := hcut
      obtain ⟨w9, rfl⟩ : ∃ y : World, y = wc := ⟨_, rfl⟩
      have HP9 := Lib.hid (HP8.out.below HG9.out)
      have HB9 : Hid (Below B w w9) := Lib.hid (HB8.out.trans (HG9.out.mono HP8.out.size))
      clear HP8 HB8 HG9
      cases he : elseT (L.drop i8) with
      | false =>
        rw [he] at HXD
        have HX2 : Hid (X = .ok (L.drop i8) (⟨31, 0, [], 2⟩ :: n1)) := Lib.hid (by rw [HXD.out, if_neg (by decide)])
        go_wp2_with fail
        go_end0
        rw [HX2.out]
        exact ⟨rfl, HB9.out, _, rfl, HP9.out⟩
      | true =>
        rw [he, if_pos rfl, List.tail_drop] at HXD
        have hi8 : i8 < L.length := by
         rcases Nat.lt_or_ge i8 L.length with h | h
         ·exact h
         ·rw [List.drop_eq_nil_of_le h] at he; cases he
        have KEY := Lib.hid (HP9.out.setI (j := i8 + 1) (by omega) (by omega))
        rw [show ((i8 + 1 : Nat) : Int) = (i8 : Int) + 1 by omega] at KEY
        have HBK : Hid (Below B w (w9.setCell ⟨b, 1, none⟩ (.int .i64 ((i8 : Int) + 1)))) := Lib.hid (HB9.out.setCell HP9.out.base _)
        obtain ⟨⟨tv, nv, k1, k2, k3⟩, _⟩ := HP9.out
        obtain ⟨c0, c1, c2, c3⟩ := cells4 k1
        have f1 := free3 k1 1
        clear k1 k2 k3 he
        go_upto_region 27 with fail
        generalize w9.setCell ⟨b, 1, none⟩ (.int .i64 ((i8 : Int) + 1)) = W10 at KEY HBK ⊢
        clear c0 c1 c2 c3 f1
        obtain ⟨tv, g, c, k1, k2, k3, k4⟩ := KEY.out.kids
        have HU := Lib.hid (k4 3)
        obtain ⟨c0, c1, c2, c3⟩ := cells4 k1
        obtain ⟨LL, hLL⟩ : ∃ z, (o ++ (⟨31, 0, [], 2⟩ : Nd) :: n1).length = z := ⟨_, rfl⟩
        have hLo : o.length < LL := by rw [← hLL]; simp
        have hLo' : (o.length : Int) < (LL : Int) := by omega
        rw [hLL] at c2
        have hol8 := HOL.out
        clear k1 k4 hLL
        go_upto_region 28 with fail
        have HP11 := Lib.hid HU.out.1
        have HB11 : Hid (Below B w (W10.setCell ⟨g, o.length * 4 + 3, none⟩ (.int .i64 3))) := Lib.hid (HBK.out.trans HU.out.2)
        generalize W10.setCell ⟨g, o.length * 4 + 3, none⟩ (.int .i64 3) = W11 at HP11 HB11 ⊢
        clear c0 c1 c2 c3 k2 k3 HU hLo hLo'
        have HBL : Hid (Calls Tryz.prog 107 #[.pointer (some ⟨b, 0, none⟩), .int .u8 83] W11 (RPost m B b L W11 (o ++ ⟨31, 0, [], 3⟩ :: n1) (blockP sub 83 (L.drop (i8 + 1))))) := Lib.hid (rblock_any m B b L sub n HS2.out HGD.out hL1 83 (i8 + 1) _ W11 HP11.out (by omega))
        cases hbp : blockP sub 83 (L.drop (i8 + 1)) with
        | no x =>
          rw [hbp] at HXD HBL
          have HX2 : Hid (X = .no x) := HXD
          clear hbp
          go_wp2_with fail
          ((with_reducible refine HBL.out.mono ?_))
          rintro e w12 ⟨rfl, hb12, i12, j12, o12, rfl, hp12⟩
          have HB12 : Hid (Below B w w12) := Lib.hid (HB11.out.trans hb12)
          have HP12 := Lib.hid hp12
          clear hb12 hp12
          go_wp2_with fail
          go_end0
          rw [HX2.out]
          exact ⟨rfl, HB12.out, _, _, _, rfl, HP12.out⟩
        | ok r2 n2 =>
          rw [hbp] at HXD HBL
          have HX2 : Hid (X = .ok r2 (⟨31, 0, [], 3⟩ :: (n1 ++ n2))) := HXD
          clear hbp
          go_wp2_with fail
          ((with_reducible refine HBL.out.mono ?_))
          rintro e w12 ⟨rfl, hb12, i12, rfl, hp12⟩
          rw [List.append_assoc, List.cons_append] at hp12
          have HB12 : Hid (Below B w w12) := Lib.hid (HB11.out.trans hb12)
          have HP12 := Lib.hid hp12
          clear hb12 hp12
          go_wp2_with fail
          go_end0
          rw [HX2.out]
          exact ⟨rfl, HB12.out, _, rfl, HP12.out⟩
   have e31 : (op2 == 31) = false := beq_eq_false_iff_ne.2 h31
   by_cases hlf : op2 = 1 ∨ op2 = 2 ∨ op2 = 3 ∨ op2 = 6 ∨ op2 = 7 ∨ op2 = 34 ∨ op2 = 35
   ·exfalso; rcases HO2.out with ⟨_, e⟩ | ⟨e, _⟩ <;> (have := HK31.out; omega)
   ·exfalso; rcases HO2.out with ⟨_, e⟩ | ⟨e, _⟩ <;> (have := HK31.out; omega)
end Go.Proofs.YtnicnfchkdmieaaGreatDoor
