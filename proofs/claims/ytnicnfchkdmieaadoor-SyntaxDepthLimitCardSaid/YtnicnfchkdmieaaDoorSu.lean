/- SyntaxDepthLimit: the walk. -/
import Derived.Test.YtnicnfchkdmieaaDoorSt
import Derived.Test.YtnicnfchkdmieaaDoorSs
namespace Go.Proofs.YtnicnfchkdmieaaDoor
open Go.RowKit
set_option linter.unusedVariables false
set_option linter.unusedSimpArgs false
attribute [local go_sem] ByteArray.mk_append_mk bs_get bs_cut bs_end

theorem rep_len (x : List UInt8) : ∀ k, (rep x k).length = k * x.length
  | 0 => by simp [rep]
  | k + 1 => by rw [rep, List.length_append, rep_len x k, Nat.add_mul]; omega
theorem pre_len (d : Bool) : (preD d).length = 12 := by cases d <;> rfl
theorem mod40 (v r : Int) (H : Hid (modV v 40 = r)) (w : World) : Calls Tryd.prog 4 #[.int .i64 v, .int .i64 40] w fun e w' => e = .returned (.int .i64 r) ∧ w = w' := by
  have := mod_any v 40 w (by omega) (by omega)
  rw [H.out] at this
  exact this
theorem parseL_nds (s : List UInt8) : NdsOk (parseL s).1 := by
  unfold parseL
  split
  · exact .nil
  · unfold parseT
    have h := progF_ng ((scanL s).1.map Tok.toI).length ((scanL s).1.map Tok.toI).length [] _ .nil (toI_nds _ (scanL_ok s))
    cases hx : progF ((scanL s).1.map Tok.toI).length ((scanL s).1.map Tok.toI).length [] ((scanL s).1.map Tok.toI) with
    | no x => exact .nil
    | ok r ns =>
      rw [hx] at h
      unfold parseR
      simp only []
      split
      · exact h.2
      · exact .nil
set_option maxRecDepth 100000 in
set_option maxHeartbeats 8000000 in
theorem law_depth (n : Int) (d : Bool) (m : Int) (w : World) (hm : SynG m w) : Calls Tryd.prog 3 #[.int .i64 n, .bool d] w fun e w' => e = .returned (.bool true) ∧ Below w.heap.size w w' := by
  have HG := Lib.hid hm
  obtain ⟨k, hk⟩ : ∃ k : Nat, modV n 40 = k := ⟨(modV n 40).toNat, by have := modV_nonneg n 40 (by omega); omega⟩
  have hk40 : k < 40 := by have := modV_lt n 40 (by omega); omega
  have HMD := Lib.hid (fun w => mod40 n k (Lib.hid hk) w)
  have HNO := Lib.hid (nest_ok k hk40 d)
  obtain ⟨⟨ns, pos, er⟩, hR⟩ : ∃ x, parseL (nestT k d) = x := ⟨_, rfl⟩
  have HRR := Lib.hid hR
  clear hm hk hR
  go_enter Tryd.func3, Tryd.ntmps3
  go_wp2_with fail
  ((with_reducible refine (HMD.out _).mono ?_))
  rintro e w1 ⟨rfl, rfl⟩
  go_wp2_with fail
  go_loopw [5, 6, 8] (fun s t i wr => ∃ j : Nat, i = .int .i64 j ∧ j ≤ k ∧ s = .string ⟨(rep (preD d) j).toArray⟩ ∧ t = .string ⟨(rep [125] j).toArray⟩ ∧ w = wr) (fun _ _ i _ => k - (intOf i).toNat)
  case atStart => exact ⟨0, rfl, by omega, rfl, rfl, rfl⟩
  case round =>
    obtain ⟨j, rfl, hj, rfl, rfl, rfl⟩ := hrel
    by_cases hlt : j < k
    · have hlt' : (j : Int) < (k : Int) := by omega
      have h1 := rep_len (preD d) j
      have h2 := rep_len [125] j
      rw [pre_len] at h1
      rw [List.length_singleton] at h2
      obtain ⟨a, ha⟩ : ∃ a, rep (preD d) j = a := ⟨_, rfl⟩
      obtain ⟨b, hb⟩ : ∃ a, rep [125] j = a := ⟨_, rfl⟩
      have HA : Hid (∀ x, x = preD d → a ++ x = rep (preD d) (j + 1)) := Lib.hid (fun x hx => by rw [hx, ← ha]; rfl)
      have HBR : Hid (b ++ [125] = rep [125] (j + 1)) := Lib.hid (by rw [← hb]; rfl)
      rw [ha] at h1 ⊢
      rw [hb] at h2 ⊢
      clear ha hb
      cases d
      all_goals
        go_wp2_with fail
        go_roundw
        case rel => exact ⟨j + 1, by go_num, by omega, by rw [← HA.out _ rfl]; rfl, by rw [← HBR.out], by trivial⟩
        case measure => simp [intOf]; omega
    · obtain rfl : j = k := by omega
      have h1 := rep_len (preD d) j
      have h2 := rep_len [125] j
      rw [pre_len] at h1
      rw [List.length_singleton] at h2
      have hlen : (nestT j d).length ≤ 4611686018427380000 := by unfold nestT; simp only [List.length_append, h1, h2, List.length_cons, List.length_nil]; omega
      have HPA := Lib.hid (parse_is (nestT j d) ns pos er m HRR w HG.out hlen)
      have HAW := Lib.hid (fun w hm => awake_any m w hm)
      have HNB : Hid (if 32 < 2 * j + 2 then (ns, pos, er) = ([], 0, 11) else er = 0 ∧ validL ns = true ∧ ns.length = 3 * j + 2) := Lib.hid (by
        have h := HNO.out
        unfold nestB at h
        rw [HRR.out] at h
        simp only at h
        by_cases hc : 32 < 2 * j + 2
        · rw [if_pos hc] at h ⊢; simpa using h
        · rw [if_neg hc] at h ⊢
          simp only [Bool.and_eq_true, beq_iff_eq] at h
          exact ⟨h.1.1, h.1.2, h.2⟩)
      unfold nestT at HPA
      have HND : Hid (NdsOk ns) := Lib.hid (by have := parseL_nds (nestT j d); rw [HRR.out] at this; exact this)
      obtain ⟨S, hS⟩ : ∃ z, rep (preD d) j = z := ⟨_, rfl⟩
      obtain ⟨T, hT⟩ : ∃ z, rep [125] j = z := ⟨_, rfl⟩
      rw [hS] at HPA h1 ⊢
      rw [hT] at HPA h2 ⊢
      simp only [List.append_assoc, List.cons_append, List.nil_append] at HPA
      clear hS hT hlen HMD HNO HRR
      by_cases hc : 32 < 2 * j + 2
      · have HE : Hid ((ns, pos, er) = ([], 0, 11)) := Lib.hid (by have h := HNB.out; rw [if_pos hc] at h; exact h)
        have hc' : (32 : Int) < 2 * (j : Int) + 2 := by omega
        have he := HE.out
        injection he with he1 he2
        injection he2 with he2 he3
        subst he1 he2 he3
        clear HNB HE hc hlt hj
        go_wp2_with fail
        ((with_reducible refine HPA.out.mono ?_))
        rintro e w2 ⟨v, rfl, hv, hb⟩
        obtain ⟨va, vc, rfl⟩ := hv.form
        have HG2 := Lib.hid (HG.out.below hb HG.out.low)
        have HB2 := Lib.hid hb
        clear hv hb
        go_wp2_with fail
        ((with_reducible refine (HAW.out _ HG2.out).mono ?_))
        rintro e w3 ⟨rfl, hb⟩
        have HB3 := Lib.hid (bel_then HB2.out (Nat.le_refl _) hb)
        clear hb
        go_wp2_with fail
        go_ret
        exact ⟨rfl, HB3.out⟩
      · have HE : Hid (er = 0 ∧ validL ns = true ∧ ns.length = 3 * j + 2) := Lib.hid (by have h := HNB.out; rw [if_neg hc] at h; exact h)
        have hc' : ¬ (32 : Int) < 2 * (j : Int) + 2 := by omega
        obtain ⟨he1, he2, he3⟩ := HE.out
        subst he1
        obtain ⟨L, hL⟩ : ∃ z, ns.length = z := ⟨_, rfl⟩
        have hLe : ((L : Int) == 3 * (j : Int) + 2) = true := by rw [beq_iff_eq]; omega
        have hL2 : L ≤ 1000 := by omega
        have HVT := Lib.hid he2
        have HLL := Lib.hid hL
        clear HNB HE hc hlt hj he2 he3
        go_wp2_with fail
        ((with_reducible refine HPA.out.mono ?_))
        rintro e w2 ⟨v, rfl, hv, hb⟩
        obtain ⟨va, vc, rfl⟩ := hv.form
        have HG2 := Lib.hid (HG.out.below hb HG.out.low)
        have HB2 := Lib.hid hb
        have HN2 := Lib.hid (hv.sl HND.out)
        rw [hL] at HN2 ⊢
        clear hv hb hL
        go_wp2_with fail
        ((with_reducible refine (HAW.out _ HG2.out).mono ?_))
        rintro e w3 ⟨rfl, hb⟩
        have HG3 := Lib.hid (HG2.out.below hb HG2.out.low)
        have HN3 := Lib.hid (HN2.out.below hb)
        have HB3 := Lib.hid (bel_then HB2.out (Nat.le_refl _) hb)
        have HVA := Lib.hid (valid_is m ns true HVT _ w3 HN3.out HG3.out (by have := HLL.out; omega))
        clear hb
        go_wp2_with fail
        ((with_reducible refine HVA.out.mono ?_))
        rintro e w4 ⟨rfl, hb⟩
        have HB4 := Lib.hid (bel_then HB3.out (Nat.le_refl _) hb)
        clear hb
        go_wp2_with fail
        go_ret
        exact ⟨rfl, HB4.out⟩
end Go.Proofs.YtnicnfchkdmieaaDoor
