/- Tkp -/
import Derived.Test.YtnicnfchkdmieaaGreatDoorZTko
set_option linter.unusedVariables false
set_option linter.unusedSimpArgs false
namespace Go.Proofs.YtnicnfchkdmieaaGreatDoor
open Go.RowKit
attribute [local go_sem] ByteArray.mk_append_mk bs_get bs_cut bs_end
def RItem (o : Option (Nat × Nat × List UInt8 × Nat)) (p : Nat) (w : World) (e : Ending) (w' : World) : Prop :=
 (∃ (a b d n : Int) (c : List UInt8), e = .returned (.tuple #[tokV a b c d, .int .i64 n]) ∧ (o = none → n = -1) ∧ ∀ x, o = some x → a = x.1 ∧ b = x.2.1 ∧ c = x.2.2.1 ∧ d = (p : Nat) ∧ n = (p + x.2.2.2 : Nat)) ∧ Below w.heap.size w w'
theorem ret_ritem (tmps : Array Value) (w : World) (b : Nat) (c0 c1 c2 c3 : Value) (h2 : tmps.getD 4 undef = .pointer (some ⟨b, 0, none⟩)) (hb : w.heap[b]? = some (.cells #[c0, c1, c2, c3] 37 (0, 0))) :
 (results Tryz.f29 tmps).run Tryz.prog w = .ok (.tuple #[.agg #[c0, c1, c2, c3], tmps.getD 5 undef]) w := by
 obtain ⟨e0, e1, e2, e3⟩ := cells4 hb
 have h2' : tmps[4]?.getD undef = .pointer (some ⟨b, 0, none⟩) := by rw [← h2]; simp
 simp [results]
 go_simp
theorem digit_letter {c : UInt8} (h : digitB c = true) : letterB c = false := by
 unfold digitB at h
 unfold letterB
 rw [decide_eq_true_eq] at h
 rw [decide_eq_false_iff_not]
 omega
set_option maxRecDepth 100000 in
set_option maxHeartbeats 4000000 in
theorem rItem_word (s : List UInt8) (p : Nat) (w : World) (hs : s.length ≤ 4611686018427380000) (hp : p < s.length) (hd : digitB s[p] = false) (hl : letterB s[p] = true) :
 Calls Tryz.prog 29 #[.string ⟨s.toArray⟩, .int .i64 p] w (RItem (itemL (s.drop p)) p w) := by
 have HI : Hid (itemL (s.drop p) = if lowerB ((s.drop p).take (wordN (s.drop p))) = true then (if wordN (s.drop p) ≤ 32 then some (2, 0, (s.drop p).take (wordN (s.drop p)), wordN (s.drop p)) else none) else nameO (s.drop p)) := Lib.hid (by rw [itemL_at hp, if_neg (by rw [hd]; decide), if_pos hl])
 obtain ⟨X, hX⟩ : ∃ X, Hid (itemL (s.drop p) = X) := ⟨_, Lib.hid rfl⟩
 rw [hX.out] at HI ⊢
 clear hX
 have HW := Lib.hid (fun w => ident_any s p w (by omega) (by omega))
 rw [idEnd_word] at HW
 have HNI := Lib.hid (fun w => rName_any s p w (by omega) (by omega))
 obtain ⟨n, hn⟩ : ∃ n, wordN (s.drop p) = n := ⟨_, rfl⟩
 have hnl : n ≤ s.length - p := by rw [← hn, ← List.length_drop]; exact wordN_le _
 rw [hn] at HW HI
 clear hn
 have HL := Lib.hid (fun w => lower_any ((s.drop p).take n) w (by rw [List.length_take, List.length_drop]; omega))
 obtain ⟨lw, hlw⟩ : ∃ o, Hid (lowerB ((s.drop p).take n) = o) := ⟨_, Lib.hid rfl⟩
 rw [hlw.out] at HL HI
 obtain ⟨O, hO⟩ : ∃ o, Hid (nameN (s.drop p) = o) := ⟨_, Lib.hid rfl⟩
 unfold nameO at HI
 rw [hO.out] at HNI HI
 have HD := Lib.hid (fun w => letter_is s[p] true hl w)
 obtain ⟨q, hq⟩ : ∃ q, p + n = q := ⟨_, rfl⟩
 have hqn : q - p = n := by omega
 have hpq : p ≤ q := by omega
 have hql : q ≤ s.length := by omega
 rw [hq] at HW
 clear hd hl
 have HQ := Lib.hid hq
 clear hq
 go_enter Tryz.func29, Tryz.ntmps29
 go_wp2_with fail
 ((with_reducible refine (HD.out _).mono ?_))
 rintro e w2 ⟨rfl, rfl⟩
 go_wp2_with fail
 ((with_reducible refine (HW.out _).mono ?_))
 rintro e w2 ⟨rfl, rfl⟩
 go_wp2_with fail
 ((with_reducible refine (HL.out _).mono ?_))
 rintro e w2 ⟨rfl, rfl⟩
 clear HL
 cases lw
 ·obtain rfl : X = O.map fun m => (1, 0, (s.drop p).take m, m) := by have := HI.out; rw [if_neg (by decide)] at this; exact this
  clear HI HW
  go_wp2_with fail
  ((with_reducible refine (HD.out _).mono ?_))
  rintro e w2 ⟨rfl, rfl⟩
  go_wp2_with fail
  ((with_reducible refine (HNI.out _).mono ?_))
  rintro e w2 ⟨rfl, rfl⟩
  clear hqn hpq hql
  cases O with
  | none =>
    unfold nameI
    simp only []
    go_wp2_with fail
    exact bodyPost_ret (v := .tuple #[tokV 0 0 [] 0, .int .i64 (-1)]) (by simp [results, Tryz.results29, go_sem, tokV]) rfl ⟨⟨0, 0, 0, -1, _, rfl, fun _ => rfl, fun x h => by cases h⟩, (Below.refl _ _).alloc (Nat.le_refl _) _⟩
  | some m =>
    have hm := nameN_le hO.out
    rw [List.length_drop] at hm
    clear hO
    unfold nameI
    simp only []
    obtain ⟨q, hq⟩ : ∃ q, p + m = q := ⟨_, rfl⟩
    have hqn : q - p = m := by omega
    have hpq : p ≤ q := by omega
    have hql : q ≤ s.length := by omega
    rw [hq]
    have HQ := Lib.hid hq
    clear hq
    go_wp2_with fail
    refine bodyPost_ret (v := .tuple #[tokV 1 0 ((s.drop p).take m) p, .int .i64 q]) (by simp [results, Tryz.results29, go_sem, tokV, hqn]) rfl ⟨⟨1, 0, p, q, _, rfl, fun h => (by cases h), fun x h => ?_⟩, (Below.refl _ _).alloc (Nat.le_refl _) _⟩
    injection h with h
    subst h
    exact ⟨rfl, rfl, rfl, rfl, by rw [← HQ.out]⟩
 ·by_cases h32 : (32 : Int) < (q : Int) - (p : Int)
  ·obtain rfl : X = none := by have := HI.out; rw [if_pos rfl, if_neg (by omega)] at this; exact this
   clear HI
   go_wp2_with fail
   ((with_reducible refine (HW.out _).mono ?_))
   rintro e w2 ⟨rfl, rfl⟩
   go_wp2_with fail
   exact bodyPost_ret (v := .tuple #[tokV 0 0 [] 0, .int .i64 (-1)]) (by simp [results, Tryz.results29, go_sem, tokV]) rfl ⟨⟨0, 0, 0, -1, _, rfl, fun _ => rfl, fun x h => by cases h⟩, (Below.refl _ _).alloc (Nat.le_refl _) _⟩
  ·obtain rfl : X = some (2, 0, (s.drop p).take n, n) := by have := HI.out; rw [if_pos rfl, if_pos (by omega)] at this; exact this
   clear HI
   go_wp2_with fail
   ((with_reducible refine (HW.out _).mono ?_))
   rintro e w2 ⟨rfl, rfl⟩
   go_wp2_with fail
   refine bodyPost_ret (v := .tuple #[tokV 2 0 ((s.drop p).take n) p, .int .i64 q]) (by simp [results, Tryz.results29, go_sem, tokV, hqn]) rfl ⟨⟨2, 0, p, q, _, rfl, fun h => (by cases h), fun x h => ?_⟩, (Below.refl _ _).alloc (Nat.le_refl _) _⟩
   injection h with h
   subst h
   exact ⟨rfl, rfl, rfl, rfl, by rw [← HQ.out]⟩
set_option maxRecDepth 100000 in
set_option maxHeartbeats 4000000 in
theorem rItem_caret (s : List UInt8) (p : Nat) (w : World) (hs : s.length ≤ 4611686018427380000) (hp : p < s.length) (hd : digitB s[p] = false) (hl : letterB s[p] = false) (h9 : s[p] = 92 ∨ s[p] = 94) :
 Calls Tryz.prog 29 #[.string ⟨s.toArray⟩, .int .i64 p] w (RItem (itemL (s.drop p)) p w) := by
 have HI : Hid (itemL (s.drop p) = nameO (s.drop p)) := Lib.hid (by rw [itemL_at hp, if_neg (by rw [hd]; decide), if_neg (by rw [hl]; decide), if_pos h9])
 rw [HI.out]
 clear HI
 have HNI := Lib.hid (fun w => rName_any s p w (by omega) (by omega))
 unfold nameO
 obtain ⟨O, hO⟩ : ∃ o, Hid (nameN (s.drop p) = o) := ⟨_, Lib.hid rfl⟩
 rw [hO.out] at HNI ⊢
 have HD := Lib.hid (fun w => letter_is s[p] false hl w)
 have HB9 : Hid (((s[p].toNat : Int) == 92) = true ∨ (((s[p].toNat : Int) == 92) = false ∧ ((s[p].toNat : Int) == 94) = true)) := Lib.hid (by
  rcases byte_cases s[p] 92 92 rfl with ⟨_, h⟩ | ⟨e, h⟩
  ·exact .inl h
  ·rcases byte_cases s[p] 94 94 rfl with ⟨_, h'⟩ | ⟨e', h'⟩
   ·exact .inr ⟨h, h'⟩
   ·rcases h9 with h9 | h9
    ·exact absurd h9 e
    ·exact absurd h9 e')
 clear hd hl h9
 go_enter Tryz.func29, Tryz.ntmps29
 go_wp2_with fail
 ((with_reducible refine (HD.out _).mono ?_))
 rintro e w2 ⟨rfl, rfl⟩
 go_wp2_with fail
 ((with_reducible refine (HD.out _).mono ?_))
 rintro e w2 ⟨rfl, rfl⟩
 clear HD
 rcases HB9.out with h92 | ⟨h92, h94⟩
 all_goals
  go_wp2_with fail
  ((with_reducible refine (HNI.out _).mono ?_))
  rintro e w2 ⟨rfl, rfl⟩
  cases O with
  | none =>
    unfold nameI
    simp only []
    go_wp2_with fail
    exact bodyPost_ret (v := .tuple #[tokV 0 0 [] 0, .int .i64 (-1)]) (by simp [results, Tryz.results29, go_sem, tokV]) rfl ⟨⟨0, 0, 0, -1, _, rfl, fun _ => rfl, fun x h => by cases h⟩, (Below.refl _ _).alloc (Nat.le_refl _) _⟩
  | some m =>
    have hm := nameN_le hO.out
    rw [List.length_drop] at hm
    clear hO
    unfold nameI
    simp only []
    obtain ⟨q, hq⟩ : ∃ q, p + m = q := ⟨_, rfl⟩
    have hqn : q - p = m := by omega
    have hpq : p ≤ q := by omega
    have hql : q ≤ s.length := by omega
    rw [hq]
    have HQ := Lib.hid hq
    clear hq
    go_wp2_with fail
    refine bodyPost_ret (v := .tuple #[tokV 1 0 ((s.drop p).take m) p, .int .i64 q]) (by simp [results, Tryz.results29, go_sem, tokV, hqn]) rfl ⟨⟨1, 0, p, q, _, rfl, fun h => (by cases h), fun x h => ?_⟩, (Below.refl _ _).alloc (Nat.le_refl _) _⟩
    injection h with h
    subst h
    exact ⟨rfl, rfl, rfl, rfl, by rw [← HQ.out]⟩
set_option maxRecDepth 100000 in
set_option maxHeartbeats 4000000 in
theorem rItem_digit (s : List UInt8) (p : Nat) (w : World) (hs : s.length ≤ 4611686018427380000) (hp : p < s.length) (hd : digitB s[p] = true) :
 Calls Tryz.prog 29 #[.string ⟨s.toArray⟩, .int .i64 p] w (RItem (itemL (s.drop p)) p w) := by
 have HI : Hid (itemL (s.drop p) = (intV ((s.drop p).take (wordN (s.drop p)))).map fun v => (3, v, [], wordN (s.drop p))) := Lib.hid (by rw [itemL_at hp, if_pos hd])
 rw [HI.out]
 clear HI
 have hw1 := wordN_drop hp (by unfold idB; rw [hd]; simp)
 have HW := Lib.hid (fun w => ident_any s p w (by omega) (by omega))
 rw [idEnd_word] at HW
 obtain ⟨n, hn⟩ : ∃ n, wordN (s.drop p) = n := ⟨_, rfl⟩
 have hnl : n ≤ s.length - p := by rw [← hn, ← List.length_drop]; exact wordN_le _
 rw [hn] at HW hw1 ⊢
 clear hn
 have HV := Lib.hid (fun w => rInt_any ((s.drop p).take n) w (by rw [List.length_take, List.length_drop]; omega) (by
  intro h
  have := congrArg List.length h
  rw [List.length_take, List.length_drop, List.length_nil] at this
  omega))
 obtain ⟨o, ho⟩ : ∃ o, Hid (intV ((s.drop p).take n) = o) := ⟨_, Lib.hid rfl⟩
 rw [ho.out] at HV ⊢
 have HD := Lib.hid (fun w => letter_is s[p] false (digit_letter hd) w)
 have HE := Lib.hid (fun w => digit_is s[p] true hd w)
 have h92 : ((s[p].toNat : Int) == 92) = false := by
  obtain ⟨k1, k2⟩ := digitB_range hd
  rw [beq_eq_false_iff_ne]; omega
 have h94 : ((s[p].toNat : Int) == 94) = false := by
  obtain ⟨k1, k2⟩ := digitB_range hd
  rw [beq_eq_false_iff_ne]; omega
 obtain ⟨q, hq⟩ : ∃ q, p + n = q := ⟨_, rfl⟩
 have hqn : q - p = n := by omega
 have hpq : p ≤ q := by omega
 have hql : q ≤ s.length := by omega
 rw [hq] at HW
 have HQ := Lib.hid hq
 clear hd hq ho hw1
 go_enter Tryz.func29, Tryz.ntmps29
 go_wp2_with fail
 ((with_reducible refine (HD.out _).mono ?_))
 rintro e w2 ⟨rfl, rfl⟩
 go_wp2_with fail
 ((with_reducible refine (HD.out _).mono ?_))
 rintro e w2 ⟨rfl, rfl⟩
 go_wp2_with fail
 ((with_reducible refine (HE.out _).mono ?_))
 rintro e w2 ⟨rfl, rfl⟩
 clear HD HE
 go_wp2_with fail
 ((with_reducible refine (HW.out _).mono ?_))
 rintro e w2 ⟨rfl, rfl⟩
 go_wp2_with fail
 ((with_reducible refine (HV.out _).mono ?_))
 rintro e w2 ⟨rfl, rfl⟩
 unfold intPair
 cases o with
 | none =>
   simp only [Option.getD_none, Option.isSome_none]
   go_wp2_with fail
   exact bodyPost_ret (v := .tuple #[tokV 0 0 [] 0, .int .i64 (-1)]) (by simp [results, Tryz.results29, go_sem, tokV]) rfl ⟨⟨0, 0, 0, -1, _, rfl, fun _ => rfl, fun x h => by cases h⟩, (Below.refl _ _).alloc (Nat.le_refl _) _⟩
 | some v =>
   simp only [Option.getD_some, Option.isSome_some]
   go_wp2_with fail
   refine bodyPost_ret (v := .tuple #[tokV 3 v [] p, .int .i64 q]) (by simp [results, Tryz.results29, go_sem, tokV]) rfl ⟨⟨3, v, p, q, _, rfl, fun h => (by cases h), fun x h => ?_⟩, (Below.refl _ _).alloc (Nat.le_refl _) _⟩
   injection h with h
   subst h
   exact ⟨rfl, rfl, rfl, rfl, by rw [← HQ.out]⟩
set_option maxRecDepth 100000 in
set_option maxHeartbeats 4000000 in
theorem rItem_quote (s : List UInt8) (p : Nat) (w : World) (hs : s.length ≤ 4611686018427380000) (hp : p < s.length) (h9 : s[p] = 34) :
 Calls Tryz.prog 29 #[.string ⟨s.toArray⟩, .int .i64 p] w (RItem (itemL (s.drop p)) p w) := by
 have hd : digitB s[p] = false := by rw [h9]; rfl
 have hl : letterB s[p] = false := by rw [h9]; rfl
 have HI : Hid (itemL (s.drop p) = (textF (s.drop (p + 1)) []).map fun q => (4, 0, q.1, (s.drop p).length - q.2.length)) := Lib.hid (by rw [itemL_at hp, if_neg (by rw [hd]; decide), if_neg (by rw [hl]; decide), if_neg (by rw [h9]; decide), if_pos h9])
 rw [HI.out]
 clear HI
 have HT := Lib.hid (fun w => rText_any s p w hs hp)
 obtain ⟨O, hO⟩ : ∃ o, Hid (textF (s.drop (p + 1)) [] = o) := ⟨_, Lib.hid rfl⟩
 rw [hO.out] at HT ⊢
 have HD := Lib.hid (fun w => digit_is s[p] false hd w)
 have HS := Lib.hid (fun w => letter_is s[p] false hl w)
 have h34 : ((s[p].toNat : Int) == 34) = true := by rw [h9]; rfl
 have h92 : ((s[p].toNat : Int) == 92) = false := by rw [h9]; rfl
 have h94 : ((s[p].toNat : Int) == 94) = false := by rw [h9]; rfl
 clear hd hl h9
 go_enter Tryz.func29, Tryz.ntmps29
 go_wp2_with fail
 ((with_reducible refine (HS.out _).mono ?_))
 rintro e w2 ⟨rfl, rfl⟩
 go_wp2_with fail
 ((with_reducible refine (HS.out _).mono ?_))
 rintro e w2 ⟨rfl, rfl⟩
 go_wp2_with fail
 ((with_reducible refine (HD.out _).mono ?_))
 rintro e w2 ⟨rfl, rfl⟩
 clear HD HS
 go_wp2_with fail
 ((with_reducible refine (HT.out _).mono ?_))
 rintro e w2 ⟨rfl, hb⟩
 obtain ⟨hb1, hn⟩ := bel_alloc hb
 clear hb
 have HB := Lib.hid hb1
 have HN := Lib.hid hn
 obtain ⟨c0, c1, c2, c3⟩ := cells4 hn
 have f0 := free3 hn 0
 have f1 := free3 hn 1
 have f2 := free3 hn 2
 have f3 := free3 hn 3
 clear hn hb1
 cases O with
 | none =>
   simp only [textPair]
   go_wp2_with fail
   exact bodyPost_ret (ret_ritem _ _ _ _ _ _ _ rfl (put4 HN.out _ _ _ _)) rfl ⟨⟨4, 0, p, -1, [], rfl, fun _ => rfl, fun x h => by cases h⟩, bel4 HB.out (Nat.le_refl _) _ _ _ _⟩
 | some q =>
   obtain ⟨v, r⟩ := q
   simp only [textPair]
   have hr := textF_le _ _ _ _ _ (Nat.le_refl _) hO.out
   rw [List.length_drop] at hr
   obtain ⟨k, hk⟩ : ∃ k, s.length - r.length = k := ⟨_, rfl⟩
   rw [hk]
   go_wp2_with fail
   refine bodyPost_ret (ret_ritem _ _ _ _ _ _ _ rfl (put4 HN.out _ _ _ _)) rfl ⟨⟨4, 0, p, k, v, rfl, fun h => (by cases h), fun x h => ?_⟩, bel4 HB.out (Nat.le_refl _) _ _ _ _⟩
   injection h with h
   subst h
   refine ⟨rfl, rfl, rfl, rfl, ?_⟩
   simp only [List.length_drop]
   omega
set_option maxRecDepth 100000 in
set_option maxHeartbeats 4000000 in
theorem rItem_punct (s : List UInt8) (p : Nat) (w : World) (hs : s.length ≤ 4611686018427380000) (hp : p < s.length) (hd : digitB s[p] = false) (hl : letterB s[p] = false) (h92 : s[p] ≠ 92) (h94 : s[p] ≠ 94) (h34 : s[p] ≠ 34) :
 Calls Tryz.prog 29 #[.string ⟨s.toArray⟩, .int .i64 p] w (RItem (itemL (s.drop p)) p w) := by
 have HI : Hid (itemL (s.drop p) = if punctK s[p] = 0 then none else some (punctK s[p], 0, [], 1)) := Lib.hid (by rw [itemL_at hp, if_neg (by rw [hd]; decide), if_neg (by rw [hl]; decide), if_neg (by rintro (h | h); exact h92 h; exact h94 h), if_neg h34])
 have HP := Lib.hid (fun w => rPunct_any s[p] w)
 obtain ⟨K, hK⟩ : ∃ K, punctK s[p] = K := ⟨_, rfl⟩
 rw [hK] at HI HP
 obtain ⟨X, hX⟩ : ∃ X, Hid (itemL (s.drop p) = X) := ⟨_, Lib.hid rfl⟩
 rw [hX.out] at HI ⊢
 clear hX hK
 have HD := Lib.hid (fun w => digit_is s[p] false hd w)
 have HS := Lib.hid (fun w => letter_is s[p] false hl w)
 have k34 : ((s[p].toNat : Int) == 34) = false := ((byte_cases s[p] 34 34 rfl).resolve_left fun h => h34 h.1).2
 have k92 : ((s[p].toNat : Int) == 92) = false := ((byte_cases s[p] 92 92 rfl).resolve_left fun h => h92 h.1).2
 have k94 : ((s[p].toNat : Int) == 94) = false := ((byte_cases s[p] 94 94 rfl).resolve_left fun h => h94 h.1).2
 clear hd hl h92 h94 h34
 go_enter Tryz.func29, Tryz.ntmps29
 go_wp2_with fail
 ((with_reducible refine (HS.out _).mono ?_))
 rintro e w2 ⟨rfl, rfl⟩
 go_wp2_with fail
 ((with_reducible refine (HS.out _).mono ?_))
 rintro e w2 ⟨rfl, rfl⟩
 go_wp2_with fail
 ((with_reducible refine (HD.out _).mono ?_))
 rintro e w2 ⟨rfl, rfl⟩
 clear HD HS
 go_wp2_with fail
 ((with_reducible refine (HP.out _).mono ?_))
 rintro e w2 ⟨rfl, rfl⟩
 by_cases k0 : (0 : Int) < (K : Int)
 ·obtain rfl : X = some (K, 0, [], 1) := by rw [HI.out, if_neg (by omega)]
  clear HI
  go_wp2_with fail
  ((with_reducible refine (HP.out _).mono ?_))
  rintro e w2 ⟨rfl, rfl⟩
  go_wp2_with fail
  refine bodyPost_ret (v := .tuple #[tokV K 0 [] p, .int .i64 ((p : Int) + 1)]) (by simp [results, Tryz.results29, go_sem, tokV]) rfl ⟨⟨K, 0, p, _, _, rfl, fun h => (by cases h), fun x h => ?_⟩, (Below.refl _ _).alloc (Nat.le_refl _) _⟩
  injection h with h
  subst h
  exact ⟨rfl, rfl, rfl, rfl, by simp⟩
 ·obtain rfl : X = none := by rw [HI.out, if_pos (by omega)]
  clear HI
  go_wp2_with fail
  exact bodyPost_ret (v := .tuple #[tokV 0 0 [] 0, .int .i64 (-1)]) (by simp [results, Tryz.results29, go_sem, tokV]) rfl ⟨⟨0, 0, 0, -1, _, rfl, fun _ => rfl, fun x h => by cases h⟩, (Below.refl _ _).alloc (Nat.le_refl _) _⟩
theorem rItem_any (s : List UInt8) (p : Nat) (w : World) (hs : s.length ≤ 4611686018427380000) (hp : p < s.length) :
 Calls Tryz.prog 29 #[.string ⟨s.toArray⟩, .int .i64 p] w (RItem (itemL (s.drop p)) p w) := by
 cases hd : digitB s[p]
 ·cases hl : letterB s[p]
  ·by_cases h9 : s[p] = 92 ∨ s[p] = 94
   ·exact rItem_caret s p w hs hp hd hl h9
   ·by_cases h34 : s[p] = 34
    ·exact rItem_quote s p w hs hp h34
    ·exact rItem_punct s p w hs hp hd hl (fun h => h9 (.inl h)) (fun h => h9 (.inr h)) h34
  ·exact rItem_word s p w hs hp hd hl
 ·exact rItem_digit s p w hs hp hd
end Go.Proofs.YtnicnfchkdmieaaGreatDoor
