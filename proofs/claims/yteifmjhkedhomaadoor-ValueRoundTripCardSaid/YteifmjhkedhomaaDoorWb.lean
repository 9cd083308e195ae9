/- ValueArithmetic: the walk. -/
import Derived.Test.YteifmjhkedhomaaDoorWa
namespace Go.Proofs.YteifmjhkedhomaaDoor
open Go.RowKit
set_option linter.unusedVariables false
attribute [local go_sem] ByteArray.mk_append_mk bs_get bs_cut bs_end conv1 conv2

/-- These blocks hold these objects. -/
def Bls (w : World) (l : List (Nat × Obj)) : Prop := ∀ p ∈ l, w.heap[p.1]? = some p.2
theorem Bls.below {w w2 : World} {l : List (Nat × Obj)} (h : Bls w l) (hb : Below w.heap.size w w2) : Bls w2 l := fun p hp => blk_below (h p hp) hb
theorem Bls.new {w : World} {l : List (Nat × Obj)} (h : Bls w l) (o : Obj) : Bls (w.alloc o) ((w.heap.size, o) :: l) := by
  intro p hp
  rcases List.mem_cons.1 hp with rfl | hp
  · exact heap_alloc_new w o
  · exact blk_alloc (h p hp) o
theorem Bls.has {w : World} {l : List (Nat × Obj)} (h : Bls w l) {b : Nat} {o : Obj} (hm : (b, o) ∈ l) : w.heap[b]? = some o := h _ hm
theorem Bls.nil (w : World) : Bls w [] := fun p hp => by cases hp
theorem shl_le (s : Int) (h0 : 0 ≤ s) (h : s < 64) : 0 ≤ (2 : Int) ^ s.toNat ∧ (2 : Int) ^ s.toNat ≤ 9223372036854775808 := by
  have h1 : (2 : Nat) ^ s.toNat ≤ 2 ^ 63 := Nat.pow_le_pow_right (by omega) (by omega)
  have e : (2 : Nat) ^ 63 = 9223372036854775808 := by decide
  rw [e] at h1
  have h2 : ((2 : Nat) ^ s.toNat : Nat) = ((2 : Int) ^ s.toNat) := by rw [Int.natCast_pow]; rfl
  rw [← h2]
  exact ⟨Int.natCast_nonneg _, Int.ofNat_le.2 h1⟩
theorem ar_in (op x y : Int) (hx : 0 ≤ x) (hx2 : x ≤ 18446744073709551615) (hy : 0 ≤ y) (ho : op = 60 ∨ op = 61 ∨ op = 62 ∨ op = 63 ∨ op = 64 ∨ op = 65) (hy0 : op = 63 ∨ op = 64 → y ≠ 0) (hy2 : y ≤ 18446744073709551615) : 0 ≤ (arV op x y).1 ∧ (arV op x y).1 ≤ 18446744073709551615 := by
  rcases ho with rfl | rfl | rfl | rfl | rfl | rfl
  · rw [ar60]; omega
  · rw [ar61]; omega
  · rw [ar62]; omega
  · rw [(ar63 x y (hy0 (by omega))).1]
    have h1 : 0 ≤ x / y := Int.ediv_nonneg hx hy
    have h2 : x / y ≤ x := Int.ediv_le_self _ hx
    omega
  · rw [ar64 x y (hy0 (by omega))]
    have h1 := Int.emod_nonneg x (hy0 (by omega))
    have h2 := Int.emod_lt_of_pos x (show 0 < y by have := hy0 (by omega); omega)
    omega
  · rw [ar65]; exact bits_within .and .u64 _ _
set_option maxRecDepth 100000 in
set_option maxHeartbeats 4000000 in
theorem law_arith (a b kd : Int) (w : World) (ha : 0 ≤ a) (ha2 : a ≤ 18446744073709551615) (hb0 : 0 ≤ b) (hb2 : b ≤ 18446744073709551615) (hk0 : 0 ≤ kd) (hk1 : kd ≤ 255) :
    Calls Tryd.prog 5 #[.int .u64 a, .int .u64 b, .int .u8 kd] w fun e w' => e = .returned (.bool true) ∧ Below w.heap.size w w' := by
  obtain ⟨A, hA⟩ : ∃ r, (arV 65 a b).1 = r := ⟨_, rfl⟩
  have hA1 := ar_in 65 a b ha ha2 hb0 (by omega) (by omega) hb2
  rw [hA] at hA1
  obtain ⟨hA1, hA2⟩ := hA1
  have HA := Lib.hid hA
  clear hA
  obtain ⟨N1, hN1⟩ : ∃ r, notV A = r := ⟨_, rfl⟩
  obtain ⟨n1a, n1b⟩ := notV_in A
  rw [hN1] at n1a n1b
  obtain ⟨N2, hN2⟩ : ∃ r, notV a = r := ⟨_, rfl⟩
  obtain ⟨n2a, n2b⟩ := notV_in a
  rw [hN2] at n2a n2b
  obtain ⟨N3, hN3⟩ : ∃ r, notV b = r := ⟨_, rfl⟩
  obtain ⟨n3a, n3b⟩ := notV_in b
  rw [hN3] at n3a n3b
  have HD : Hid ((arV 66 N2 N3).1 = N1) := Lib.hid (by rw [ar66, ← hN1, ← hN2, ← hN3, ← HA.out, ar65, de_morgan a b ha ha2 hb0 hb2])
  have HN1 := Lib.hid hN1
  have HN2 := Lib.hid hN2
  have HN3 := Lib.hid hN3
  clear hN1 hN2 hN3
  obtain ⟨P, hP⟩ : ∃ r, (arV 60 a b).1 = r := ⟨_, rfl⟩
  have hP1 := ar_in 60 a b ha ha2 hb0 (by omega) (by omega) hb2
  rw [hP] at hP1
  obtain ⟨hP1, hP2⟩ := hP1
  have HQ : Hid ((arV 61 P b).1 = a) := Lib.hid (by rw [← hP]; exact add_sub a b ha ha2)
  have HP := Lib.hid hP
  clear hP
  obtain ⟨da, dt, dc, hf⟩ := num_form 63 a b
  obtain ⟨Dv, hDv⟩ : ∃ r, (arV 63 a b).1 = r := ⟨_, rfl⟩
  have HE : Hid ((b = 0 ∧ (arV 63 a b).2 = 12) ∨ (b ≠ 0 ∧ (arV 63 a b).2 = 0)) := Lib.hid (by
    by_cases h : b = 0
    · left; subst h; exact ⟨rfl, rfl⟩
    · right; exact ⟨h, (ar63 a b h).2⟩)
  have HBD := Lib.hid (bin_num 63 a b (by omega) (by omega))
  obtain ⟨er, her⟩ : ∃ r, (arV 63 a b).2 = r := ⟨_, rfl⟩
  rw [hf, hDv, her] at HBD
  rw [her] at HE
  have HDV := Lib.hid hDv
  clear hDv her hf
  have hs0 : 0 ≤ kd % 64 := by omega
  have hs1 : kd % 64 < 64 := by omega
  obtain ⟨sh0, sh1⟩ := shl_le (kd % 64) hs0 hs1
  obtain ⟨Q, hQ8⟩ : ∃ r, (arV 68 a (kd % 64)).1 = r := ⟨_, rfl⟩
  have HQ8 := Lib.hid hQ8
  have HQ9 : Hid ((arV 62 a (2 ^ (kd % 64).toNat)).1 = Q) := Lib.hid (by rw [ar62, ← hQ8, ar68 a _ hs1])
  clear hQ8
  have HB := Lib.hid (Below.refl w.heap.size w)
  have HL := Lib.hid (Bls.nil w)
  go_enter Tryd.func5, Tryd.ntmps5
  go_wp2_with fail
  ((with_reducible refine (number_op 65 a b A HA _ (by omega) (by omega) ha ha2 hb0 hb2).mono ?_))
  rintro e w1 ⟨rfl, hb⟩
  have HB2 := Lib.hid (bel_then HB.out (Nat.le_refl _) hb)
  have HL2 := Lib.hid (HL.out.below hb)
  clear hb HB HL
  have HB := HB2
  have HL := HL2
  clear HB2 HL2
  go_wp2_with fail
  ((with_reducible refine (number_any A _).mono ?_))
  rintro e w2 ⟨rfl, hb⟩
  have HB2 := Lib.hid (bel_then HB.out (Nat.le_refl _) hb)
  have HL2 := Lib.hid (HL.out.below hb)
  clear hb HB HL
  have HB := HB2
  have HL := HL2
  clear HB2 HL2
  go_wp2_with fail
  ((with_reducible refine (un_not A N1 HN1 _ hA1 hA2).mono ?_))
  rintro e w3 ⟨rfl, hb⟩
  have HB2 := Lib.hid (bel_then HB.out (Nat.le_refl _) hb)
  have HL2 := Lib.hid (HL.out.below hb)
  clear hb HB HL
  have HB := HB2
  have HL := HL2
  clear HB2 HL2
  go_wp2_with fail
  ((with_reducible refine (number_any a _).mono ?_))
  rintro e w4 ⟨rfl, hb⟩
  have HB2 := Lib.hid (bel_then (HB.out.alloc HB.out.size _) (Nat.le_refl _) hb)
  have HL2 := Lib.hid ((HL.out.new _).below hb)
  clear hb HB HL
  have HB := HB2
  have HL := HL2
  clear HB2 HL2
  go_wp2_with fail
  ((with_reducible refine (un_not a N2 HN2 _ ha ha2).mono ?_))
  rintro e w5 ⟨rfl, hb⟩
  have HB2 := Lib.hid (bel_then HB.out (Nat.le_refl _) hb)
  have HL2 := Lib.hid (HL.out.below hb)
  clear hb HB HL
  have HB := HB2
  have HL := HL2
  clear HB2 HL2
  go_wp2_with fail
  ((with_reducible refine (number_any b _).mono ?_))
  rintro e w6 ⟨rfl, hb⟩
  have HB2 := Lib.hid (bel_then (HB.out.alloc HB.out.size _) (Nat.le_refl _) hb)
  have HL2 := Lib.hid ((HL.out.new _).below hb)
  clear hb HB HL
  have HB := HB2
  have HL := HL2
  clear HB2 HL2
  go_wp2_with fail
  ((with_reducible refine (un_not b N3 HN3 _ hb0 hb2).mono ?_))
  rintro e w7 ⟨rfl, hb⟩
  have HB2 := Lib.hid (bel_then HB.out (Nat.le_refl _) hb)
  have HL2 := Lib.hid (HL.out.below hb)
  clear hb HB HL
  have HB := HB2
  have HL := HL2
  clear HB2 HL2
  go_wp2_with fail
  ((with_reducible refine (number_any a _).mono ?_))
  rintro e w8 ⟨rfl, hb⟩
  have HB2 := Lib.hid (bel_then (HB.out.alloc HB.out.size _) (Nat.le_refl _) hb)
  have HL2 := Lib.hid ((HL.out.new _).below hb)
  clear hb HB HL
  have HB := HB2
  have HL := HL2
  clear HB2 HL2
  go_wp2_with fail
  ((with_reducible refine (number_any b _).mono ?_))
  rintro e w9 ⟨rfl, hb⟩
  have HB2 := Lib.hid (bel_then HB.out (Nat.le_refl _) hb)
  have HL2 := Lib.hid (HL.out.below hb)
  clear hb HB HL
  have HB := HB2
  have HL := HL2
  clear HB2 HL2
  go_wp2_with fail
  ((with_reducible refine (bin_is 63 1 a 0 1 b 0 [] [] _ _ HBD _ (by simp) (by simp) ha hb0 ha2 hb2).mono ?_))
  rintro e w10 ⟨rfl, hb⟩
  have HB2 := Lib.hid (bel_then HB.out (Nat.le_refl _) hb)
  have HL2 := Lib.hid (HL.out.below hb)
  clear hb HB HL
  have HB := HB2
  have HL := HL2
  clear HB2 HL2
  go_upto_region 6 with fail
  have HL2 := Lib.hid (HL.out.new (vObj da Dv dt dc))
  have HB2 := Lib.hid (HB.out.alloc HB.out.size (vObj da Dv dt dc))
  clear HL HB
  generalize w10.alloc (vObj da Dv dt dc) = w11 at *
  have HL := HL2
  have HB := HB2
  clear HL2 HB2
  have k1 : ∀ x, Grows w11 x → _ := fun x h => (cells4 ((HL.out.below h).has (b := w3.heap.size) (o := vObj 1 N1 [] 0) (by simp))).2.1
  have k2 : ∀ x, Grows w11 x → _ := fun x h => (cells4 ((HL.out.below h).has (b := w5.heap.size) (o := vObj 1 N2 [] 0) (by simp))).2.1
  have k3 : ∀ x, Grows w11 x → _ := fun x h => (cells4 ((HL.out.below h).has (b := w7.heap.size) (o := vObj 1 N3 [] 0) (by simp))).2.1
  refine wp_region_plan (Grows w11) 31 [.act 0, .reads [1, 2, 3, 4, 6, 8], .act 5, .act 7, .reads [9, 10, 11, 12, 13, 14, 15, 16, 17], .act 18, .reads [19, 20, 21, 22, 23, 25, 26, 27], .act 24, .act 28, .reads [29, 30]] (by kernel_rfl) (by kernel_rfl) (by kernel_rfl) (by kernel_rfl) (by kernel_rfl) (fun _ _ d _ _ h => by cases d <;> exact h) (Grows.self _) ?_
  refine wpPlan_act rfl ?_
  simp only [pickOps, List.drop_zero, List.take_succ_cons, List.take_zero, List.cons_append, List.nil_append]
  go_wp2_with fail
  ((with_reducible refine (awake_any _).mono ?_))
  rintro e w12 ⟨rfl, hb⟩
  have HG2 := Lib.hid ((Grows.self w11).trans hb)
  clear hb
  have HG := HG2
  clear HG2
  go_wp2_with fail
  refine ⟨fun _ => HG.out, ?_⟩
  refine wpPlan_reads ?_
  simp only [pickOps, List.drop_succ_cons, List.drop_zero, List.take_succ_cons, List.take_zero, List.cons_append, List.nil_append]
  repeat (go_big_quiet_step (fail))
  refine wpQuiet_nil ?_
  refine wpPlan_act rfl ?_
  simp only [pickOps, List.drop_succ_cons, List.drop_zero, List.take_succ_cons, List.take_zero, List.cons_append, List.nil_append]
  go_wp2_with fail
  ((with_reducible refine (number_op 60 a b P HP _ (by omega) (by omega) ha ha2 hb0 hb2).mono ?_))
  rintro e w13 ⟨rfl, hb⟩
  have HG2 := Lib.hid (HG.out.trans hb)
  clear hb HG
  have HG := HG2
  clear HG2
  go_wp2_with fail
  refine ⟨fun _ => HG.out, ?_⟩
  refine wpPlan_act rfl ?_
  simp only [pickOps, List.drop_succ_cons, List.drop_zero, List.take_succ_cons, List.take_zero, List.cons_append, List.nil_append]
  go_wp2_with fail
  ((with_reducible refine (number_op 61 P b a HQ _ (by omega) (by omega) hP1 hP2 hb0 hb2).mono ?_))
  rintro e w14 ⟨rfl, hb⟩
  have HG2 := Lib.hid (HG.out.trans hb)
  clear hb HG
  have HG := HG2
  clear HG2
  go_wp2_with fail
  refine ⟨fun _ => HG.out, ?_⟩
  refine wpPlan_reads ?_
  simp only [pickOps, List.drop_succ_cons, List.drop_zero, List.take_succ_cons, List.take_zero, List.cons_append, List.nil_append]
  repeat (go_big_quiet_step (first | (intro hb; rw [k1 _ hb]; exact ⟨rfl, rfl⟩) | (intro hb; rw [k2 _ hb]; exact ⟨rfl, rfl⟩) | (intro hb; rw [k3 _ hb]; exact ⟨rfl, rfl⟩)))
  refine wpQuiet_nil ?_
  clear k1 k2 k3
  refine wpPlan_act rfl ?_
  simp only [pickOps, List.drop_succ_cons, List.drop_zero, List.take_succ_cons, List.take_zero, List.cons_append, List.nil_append]
  go_wp2_with fail
  ((with_reducible refine (number_op 66 N2 N3 N1 HD _ (by omega) (by omega) n2a n2b n3a n3b).mono ?_))
  rintro e w15 ⟨rfl, hb⟩
  have HG2 := Lib.hid (HG.out.trans hb)
  clear hb HG
  have HG := HG2
  clear HG2
  go_wp2_with fail
  refine ⟨fun _ => HG.out, ?_⟩
  refine wpPlan_reads ?_
  simp only [pickOps, List.drop_succ_cons, List.drop_zero, List.take_succ_cons, List.take_zero, List.cons_append, List.nil_append]
  repeat (go_big_quiet_step (fail))
  refine wpQuiet_nil ?_
  refine wpPlan_act rfl ?_
  simp only [pickOps, List.drop_succ_cons, List.drop_zero, List.take_succ_cons, List.take_zero, List.cons_append, List.nil_append]
  go_wp2_with fail
  ((with_reducible refine (number_op 68 a (kd % 64) Q HQ8 _ (by omega) (by omega) ha ha2 hs0 (by omega)).mono ?_))
  rintro e w16 ⟨rfl, hb⟩
  have HG2 := Lib.hid (HG.out.trans hb)
  clear hb HG
  have HG := HG2
  clear HG2
  go_wp2_with fail
  refine ⟨fun _ => HG.out, ?_⟩
  refine wpPlan_act rfl ?_
  simp only [pickOps, List.drop_succ_cons, List.drop_zero, List.take_succ_cons, List.take_zero, List.cons_append, List.nil_append]
  go_wp2_with fail
  ((with_reducible refine (number_op 62 a (2 ^ (kd % 64).toNat) Q HQ9 _ (by omega) (by omega) ha ha2 sh0 (by omega)).mono ?_))
  rintro e w17 ⟨rfl, hb⟩
  have HG2 := Lib.hid (HG.out.trans hb)
  clear hb HG
  have HG := HG2
  clear HG2
  go_wp2_with fail
  refine ⟨fun _ => HG.out, ?_⟩
  refine wpPlan_reads ?_
  simp only [pickOps, List.drop_succ_cons, List.drop_zero, List.take_succ_cons, List.take_zero, List.cons_append, List.nil_append]
  repeat (go_big_quiet_step (fail))
  refine wpQuiet_nil ?_
  refine wpPlan_nil ?_
  have HB3 := Lib.hid (bel_then HB.out (Nat.le_refl _) HG.out)
  clear HB HG HL
  rcases HE.out with ⟨h0, h1⟩ | ⟨h0, h1⟩
  · subst h0
    subst h1
    go_wp2_with fail
    go_ret
    exact ⟨rfl, HB3.out⟩
  · subst h1
    have hz : (b == 0) = false := by rw [beq_eq_false_iff_ne]; exact h0
    have hpos : 0 < b := by omega
    obtain ⟨R, hR⟩ : ∃ r, (arV 64 a b).1 = r := ⟨_, rfl⟩
    have hR1 := ar_in 64 a b ha ha2 hb0 (by omega) (fun _ => h0) hb2
    have hRb : R < b := by rw [← hR, ar64 a b h0]; exact Int.emod_lt_of_pos a hpos
    rw [hR] at hR1
    obtain ⟨hR1, hR2⟩ := hR1
    have hD1 := ar_in 63 a b ha ha2 hb0 (by omega) (fun _ => h0) hb2
    rw [HDV.out] at hD1
    obtain ⟨hD1, hD2⟩ := hD1
    obtain ⟨M, hM⟩ : ∃ r, (arV 62 Dv b).1 = r := ⟨_, rfl⟩
    have hM1 := ar_in 62 Dv b hD1 hD2 hb0 (by omega) (by omega) hb2
    rw [hM] at hM1
    obtain ⟨hM1, hM2⟩ := hM1
    have HF : Hid ((arV 60 M R).1 = a) := Lib.hid (by rw [← hM, ← hR, ← HDV.out]; exact div_mod a b ha ha2 hpos)
    have HM := Lib.hid hM
    have HR := Lib.hid hR
    clear hM hR h0
    go_wp2_with fail
    ((with_reducible refine (number_op 64 a b R HR _ (by omega) (by omega) ha ha2 hb0 hb2).mono ?_))
    rintro e w18 ⟨rfl, hb⟩
    have HB4 := Lib.hid (bel_then HB3.out (Nat.le_refl _) hb)
    clear hb HB3
    have HB3 := HB4
    clear HB4
    go_wp2_with fail
    ((with_reducible refine (number_op 63 a b Dv HDV _ (by omega) (by omega) ha ha2 hb0 hb2).mono ?_))
    rintro e w19 ⟨rfl, hb⟩
    have HB4 := Lib.hid (bel_then HB3.out (Nat.le_refl _) hb)
    clear hb HB3
    have HB3 := HB4
    clear HB4
    go_wp2_with fail
    ((with_reducible refine (number_op 62 Dv b M HM _ (by omega) (by omega) hD1 hD2 hb0 hb2).mono ?_))
    rintro e w20 ⟨rfl, hb⟩
    have HB4 := Lib.hid (bel_then HB3.out (Nat.le_refl _) hb)
    clear hb HB3
    have HB3 := HB4
    clear HB4
    go_wp2_with fail
    ((with_reducible refine (number_op 60 M R a HF _ (by omega) (by omega) hM1 hM2 hR1 hR2).mono ?_))
    rintro e w21 ⟨rfl, hb⟩
    have HB4 := Lib.hid (bel_then HB3.out (Nat.le_refl _) hb)
    clear hb HB3
    have HB3 := HB4
    clear HB4
    go_wp2_with fail
    go_ret
    exact ⟨rfl, HB3.out⟩
end Go.Proofs.YteifmjhkedhomaaDoor
