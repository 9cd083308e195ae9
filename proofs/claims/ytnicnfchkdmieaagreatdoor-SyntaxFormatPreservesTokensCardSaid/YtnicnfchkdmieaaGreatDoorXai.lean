/- Tkp Tkq -/
import Derived.Test.YtnicnfchkdmieaaGreatDoorXah
set_option linter.unusedVariables false
set_option linter.unusedSimpArgs false
namespace Go.Proofs.YtnicnfchkdmieaaGreatDoor
section
open Go.RowKit
attribute [local go_sem] ByteArray.mk_append_mk bs_get bs_cut bs_end
def RItem (o : Option (Nat × Nat × List UInt8 × Nat)) (p : Nat) (w : World) (e : Ending) (w' : World) : Prop :=
 (∃ (a b d n : Int) (c : List UInt8),e = .returned (.tuple #[tokV a b c d,.int .i64 n]) ∧ (o = none → n = -1) ∧ ∀ x,o = some x → a = x.1 ∧ b = x.2.1 ∧ c = x.2.2.1 ∧ d = (p : Nat) ∧ n = (p + x.2.2.2 : Nat)) ∧ Below w.heap.size w w'
theorem ret_ritem (tmps : Array Value) (w : World) (b : Nat) (c0 c1 c2 c3 : Value) (h2 : tmps.getD 4 undef = .pointer (some ⟨b,0,none⟩)) (hb : w.heap[b]? = some (.cells #[c0,c1,c2,c3] 37 (0,0))) :
  (results Tryz.f29 tmps).run Tryz.prog w = .ok (.tuple #[.agg #[c0,c1,c2,c3],tmps.getD 5 undef]) w:=by
 obtain ⟨e0,e1,e2,e3⟩:=cells4 hb
 have h2' : tmps[4]?.getD undef = .pointer (some ⟨b,0,none⟩):=by rw [← h2]; simp
 simp [results]
 go_simp
theorem digit_letter {c : UInt8} (h : digitB c = true) : letterB c = false:=by
 unfold digitB at h
 unfold letterB
 rw [decide_eq_true_eq] at h
 rw [decide_eq_false_iff_not]
 omega
set_option maxRecDepth 100000 in
set_option maxHeartbeats 4000000 in
theorem rItem_word (s : List UInt8) (p : Nat) (w : World) (hs : s.length ≤ 4611686018427380000) (hp : p < s.length) (hd : digitB s[p] = false) (hl : letterB s[p] = true) :
  Calls Tryz.prog 29 #[.string ⟨s.toArray⟩,.int .i64 p] w (RItem (itemL (s.drop p)) p w):=by
 have HI : Hid (itemL (s.drop p) = if lowerB ((s.drop p).take (wordN (s.drop p))) = true then (if wordN (s.drop p) ≤ 32 then some (2,0,(s.drop p).take (wordN (s.drop p)),wordN (s.drop p)) else none) else nameO (s.drop p)):=Lib.hid (by rw [itemL_at hp,if_neg (by rw [hd]; decide),if_pos hl])
 obtain ⟨X,hX⟩ : ∃ X,Hid (itemL (s.drop p) = X):=⟨_,Lib.hid rfl⟩
 rw [hX.out] at HI ⊢
 clear hX
 have HW:=Lib.hid (fun w => ident_any s p w (by omega) (by omega))
 rw [idEnd_word] at HW
 have HNI:=Lib.hid (fun w => rName_any s p w (by omega) (by omega))
 obtain ⟨n,hn⟩ : ∃ n,wordN (s.drop p) = n:=⟨_,rfl⟩
 have hnl : n ≤ s.length - p:=by rw [← hn,← List.length_drop]; exact wordN_le _
 rw [hn] at HW HI
 clear hn
 have HL:=Lib.hid (fun w => lower_any ((s.drop p).take n) w (by rw [List.length_take,List.length_drop]; omega))
 obtain ⟨lw,hlw⟩ : ∃ o,Hid (lowerB ((s.drop p).take n) = o):=⟨_,Lib.hid rfl⟩
 rw [hlw.out] at HL HI
 obtain ⟨O,hO⟩ : ∃ o,Hid (nameN (s.drop p) = o):=⟨_,Lib.hid rfl⟩
 unfold nameO at HI
 rw [hO.out] at HNI HI
 have HD:=Lib.hid (fun w => letter_is s[p] true hl w)
 obtain ⟨q,hq⟩ : ∃ q,p + n = q:=⟨_,rfl⟩
 have hqn : q - p = n:=by omega
 have hpq : p ≤ q:=by omega
 have hql : q ≤ s.length:=by omega
 rw [hq] at HW
 clear hd hl
 have HQ:=Lib.hid hq
 clear hq
 go_enter Tryz.func29,Tryz.ntmps29
 go_wp2_with fail
 ((with_reducible refine (HD.out _).mono ?_))
 rintro e w2 ⟨rfl,rfl⟩
 go_wp2_with fail
 ((with_reducible refine (HW.out _).mono ?_))
 rintro e w2 ⟨rfl,rfl⟩
 go_wp2_with fail
 ((with_reducible refine (HL.out _).mono ?_))
 rintro e w2 ⟨rfl,rfl⟩
 clear HL
 cases lw
 ·obtain rfl : X = O.map fun m => (1,0,(s.drop p).take m,m):=by have:=HI.out; rw [if_neg (by decide)] at this; exact this
  clear HI HW
  go_wp2_with fail
  ((with_reducible refine (HD.out _).mono ?_))
  rintro e w2 ⟨rfl,rfl⟩
  go_wp2_with fail
  ((with_reducible refine (HNI.out _).mono ?_))
  rintro e w2 ⟨rfl,rfl⟩
  clear hqn hpq hql
  cases O with
  | none =>
    unfold nameI
    simp only []
    go_wp2_with fail
    exact bodyPost_ret (v:=.tuple #[tokV 0 0 [] 0,.int .i64 (-1)]) (by simp [results,Tryz.results29,go_sem,tokV]) rfl ⟨⟨0,0,0,-1,_,rfl,fun _ => rfl,fun x h => by cases h⟩,(Below.refl _ _).alloc (Nat.le_refl _) _⟩
  | some m =>
    have hm:=nameN_le hO.out
    rw [List.length_drop] at hm
    clear hO
    unfold nameI
    simp only []
    obtain ⟨q,hq⟩ : ∃ q,p + m = q:=⟨_,rfl⟩
    have hqn : q - p = m:=by omega
    have hpq : p ≤ q:=by omega
    have hql : q ≤ s.length:=by omega
    rw [hq]
    have HQ:=Lib.hid hq
    clear hq
    go_wp2_with fail
    refine bodyPost_ret (v:=.tuple #[tokV 1 0 ((s.drop p).take m) p,.int .i64 q]) (by simp [results,Tryz.results29,go_sem,tokV,hqn]) rfl ⟨⟨1,0,p,q,_,rfl,fun h => (by cases h),fun x h => ?_⟩,(Below.refl _ _).alloc (Nat.le_refl _) _⟩
    injection h with h
    subst h
    exact ⟨rfl,rfl,rfl,rfl,by rw [← HQ.out]⟩
 ·by_cases h32 : (32 : Int) < (q : Int) - (p : Int)
  ·obtain rfl : X = none:=by have:=HI.out; rw [if_pos rfl,if_neg (by omega)] at this; exact this
   clear HI
   go_wp2_with fail
   ((with_reducible refine (HW.out _).mono ?_))
   rintro e w2 ⟨rfl,rfl⟩
   go_wp2_with fail
   exact bodyPost_ret (v:=.tuple #[tokV 0 0 [] 0,.int .i64 (-1)]) (by simp [results,Tryz.results29,go_sem,tokV]) rfl ⟨⟨0,0,0,-1,_,rfl,fun _ => rfl,fun x h => by cases h⟩,(Below.refl _ _).alloc (Nat.le_refl _) _⟩
  ·obtain rfl : X = some (2,0,(s.drop p).take n,n):=by have:=HI.out; rw [if_pos rfl,if_pos (by omega)] at this; exact this
   clear HI
   go_wp2_with fail
   ((with_reducible refine (HW.out _).mono ?_))
   rintro e w2 ⟨rfl,rfl⟩
   go_wp2_with fail
   refine bodyPost_ret (v:=.tuple #[tokV 2 0 ((s.drop p).take n) p,.int .i64 q]) (by simp [results,Tryz.results29,go_sem,tokV,hqn]) rfl ⟨⟨2,0,p,q,_,rfl,fun h => (by cases h),fun x h => ?_⟩,(Below.refl _ _).alloc (Nat.le_refl _) _⟩
   injection h with h
   subst h
   exact ⟨rfl,rfl,rfl,rfl,by rw [← HQ.out]⟩
set_option maxRecDepth 100000 in
set_option maxHeartbeats 4000000 in
theorem rItem_caret (s : List UInt8) (p : Nat) (w : World) (hs : s.length ≤ 4611686018427380000) (hp : p < s.length) (hd : digitB s[p] = false) (hl : letterB s[p] = false) (h9 : s[p] = 92 ∨ s[p] = 94) :
  Calls Tryz.prog 29 #[.string ⟨s.toArray⟩,.int .i64 p] w (RItem (itemL (s.drop p)) p w):=by
 have HI : Hid (itemL (s.drop p) = nameO (s.drop p)):=Lib.hid (by rw [itemL_at hp,if_neg (by rw [hd]; decide),if_neg (by rw [hl]; decide),if_pos h9])
 rw [HI.out]
 clear HI
 have HNI:=Lib.hid (fun w => rName_any s p w (by omega) (by omega))
 unfold nameO
 obtain ⟨O,hO⟩ : ∃ o,Hid (nameN (s.drop p) = o):=⟨_,Lib.hid rfl⟩
 rw [hO.out] at HNI ⊢
 have HD:=Lib.hid (fun w => letter_is s[p] false hl w)
 have HB9 : Hid (((s[p].toNat : Int) == 92) = true ∨ (((s[p].toNat : Int) == 92) = false ∧ ((s[p].toNat : Int) == 94) = true)):=Lib.hid (by
  rcases byte_cases s[p] 92 92 rfl with ⟨_,h⟩ | ⟨e,h⟩
  ·exact .inl h
  ·rcases byte_cases s[p] 94 94 rfl with ⟨_,h'⟩ | ⟨e',h'⟩
   ·exact .inr ⟨h,h'⟩
   ·rcases h9 with h9 | h9
    ·exact absurd h9 e
    ·exact absurd h9 e')
 clear hd hl h9
 go_enter Tryz.func29,Tryz.ntmps29
 go_wp2_with fail
 ((with_reducible refine (HD.out _).mono ?_))
 rintro e w2 ⟨rfl,rfl⟩
 go_wp2_with fail
 ((with_reducible refine (HD.out _).mono ?_))
 rintro e w2 ⟨rfl,rfl⟩
 clear HD
 rcases HB9.out with h92 | ⟨h92,h94⟩
 all_goals
  go_wp2_with fail
  ((with_reducible refine (HNI.out _).mono ?_))
  rintro e w2 ⟨rfl,rfl⟩
  cases O with
  | none =>
    unfold nameI
    simp only []
    go_wp2_with fail
    exact bodyPost_ret (v:=.tuple #[tokV 0 0 [] 0,.int .i64 (-1)]) (by simp [results,Tryz.results29,go_sem,tokV]) rfl ⟨⟨0,0,0,-1,_,rfl,fun _ => rfl,fun x h => by cases h⟩,(Below.refl _ _).alloc (Nat.le_refl _) _⟩
  | some m =>
    have hm:=nameN_le hO.out
    rw [List.length_drop] at hm
    clear hO
    unfold nameI
    simp only []
    obtain ⟨q,hq⟩ : ∃ q,p + m = q:=⟨_,rfl⟩
    have hqn : q - p = m:=by omega
    have hpq : p ≤ q:=by omega
    have hql : q ≤ s.length:=by omega
    rw [hq]
    have HQ:=Lib.hid hq
    clear hq
    go_wp2_with fail
    refine bodyPost_ret (v:=.tuple #[tokV 1 0 ((s.drop p).take m) p,.int .i64 q]) (by simp [results,Tryz.results29,go_sem,tokV,hqn]) rfl ⟨⟨1,0,p,q,_,rfl,fun h => (by cases h),fun x h => ?_⟩,(Below.refl _ _).alloc (Nat.le_refl _) _⟩
    injection h with h
    subst h
    exact ⟨rfl,rfl,rfl,rfl,by rw [← HQ.out]⟩
set_option maxRecDepth 100000 in
set_option maxHeartbeats 4000000 in
theorem rItem_digit (s : List UInt8) (p : Nat) (w : World) (hs : s.length ≤ 4611686018427380000) (hp : p < s.length) (hd : digitB s[p] = true) :
  Calls Tryz.prog 29 #[.string ⟨s.toArray⟩,.int .i64 p] w (RItem (itemL (s.drop p)) p w):=by
 have HI : Hid (itemL (s.drop p) = (intV ((s.drop p).take (wordN (s.drop p)))).map fun v => (3,v,[],wordN (s.drop p))):=Lib.hid (by rw [itemL_at hp,if_pos hd])
 rw [HI.out]
 clear HI
 have hw1:=wordN_drop hp (by unfold idB; rw [hd]; simp)
 have HW:=Lib.hid (fun w => ident_any s p w (by omega) (by omega))
 rw [idEnd_word] at HW
 obtain ⟨n,hn⟩ : ∃ n,wordN (s.drop p) = n:=⟨_,rfl⟩
 have hnl : n ≤ s.length - p:=by rw [← hn,← List.length_drop]; exact wordN_le _
 rw [hn] at HW hw1 ⊢
 clear hn
 have HV:=Lib.hid (fun w => rInt_any ((s.drop p).take n) w (by rw [List.length_take,List.length_drop]; omega) (by
  intro h
  have:=congrArg List.length h
  rw [List.length_take,List.length_drop,List.length_nil] at this
  omega))
 obtain ⟨o,ho⟩ : ∃ o,Hid (intV ((s.drop p).take n) = o):=⟨_,Lib.hid rfl⟩
 rw [ho.out] at HV ⊢
 have HD:=Lib.hid (fun w => letter_is s[p] false (digit_letter hd) w)
 have HE:=Lib.hid (fun w => digit_is s[p] true hd w)
 have h92 : ((s[p].toNat : Int) == 92) = false:=by
  obtain ⟨k1,k2⟩:=digitB_range hd
  rw [beq_eq_false_iff_ne]; omega
 have h94 : ((s[p].toNat : Int) == 94) = false:=by
  obtain ⟨k1,k2⟩:=digitB_range hd
  rw [beq_eq_false_iff_ne]; omega
 obtain ⟨q,hq⟩ : ∃ q,p + n = q:=⟨_,rfl⟩
 have hqn : q - p = n:=by omega
 have hpq : p ≤ q:=by omega
 have hql : q ≤ s.length:=by omega
 rw [hq] at HW
 have HQ:=Lib.hid hq
 clear hd hq ho hw1
 go_enter Tryz.func29,Tryz.ntmps29
 go_wp2_with fail
 ((with_reducible refine (HD.out _).mono ?_))
 rintro e w2 ⟨rfl,rfl⟩
 go_wp2_with fail
 ((with_reducible refine (HD.out _).mono ?_))
 rintro e w2 ⟨rfl,rfl⟩
 go_wp2_with fail
 ((with_reducible refine (HE.out _).mono ?_))
 rintro e w2 ⟨rfl,rfl⟩
 clear HD HE
 go_wp2_with fail
 ((with_reducible refine (HW.out _).mono ?_))
 rintro e w2 ⟨rfl,rfl⟩
 go_wp2_with fail
 ((with_reducible refine (HV.out _).mono ?_))
 rintro e w2 ⟨rfl,rfl⟩
 unfold intPair
 cases o with
 | none =>
   simp only [Option.getD_none,Option.isSome_none]
   go_wp2_with fail
   exact bodyPost_ret (v:=.tuple #[tokV 0 0 [] 0,.int .i64 (-1)]) (by simp [results,Tryz.results29,go_sem,tokV]) rfl ⟨⟨0,0,0,-1,_,rfl,fun _ => rfl,fun x h => by cases h⟩,(Below.refl _ _).alloc (Nat.le_refl _) _⟩
 | some v =>
   simp only [Option.getD_some,Option.isSome_some]
   go_wp2_with fail
   refine bodyPost_ret (v:=.tuple #[tokV 3 v [] p,.int .i64 q]) (by simp [results,Tryz.results29,go_sem,tokV]) rfl ⟨⟨3,v,p,q,_,rfl,fun h => (by cases h),fun x h => ?_⟩,(Below.refl _ _).alloc (Nat.le_refl _) _⟩
   injection h with h
   subst h
   exact ⟨rfl,rfl,rfl,rfl,by rw [← HQ.out]⟩
set_option maxRecDepth 100000 in
set_option maxHeartbeats 4000000 in
theorem rItem_quote (s : List UInt8) (p : Nat) (w : World) (hs : s.length ≤ 4611686018427380000) (hp : p < s.length) (h9 : s[p] = 34) :
  Calls Tryz.prog 29 #[.string ⟨s.toArray⟩,.int .i64 p] w (RItem (itemL (s.drop p)) p w):=by
 have hd : digitB s[p] = false:=by rw [h9]; rfl
 have hl : letterB s[p] = false:=by rw [h9]; rfl
 have HI : Hid (itemL (s.drop p) = (textF (s.drop (p + 1)) []).map fun q => (4,0,q.1,(s.drop p).length - q.2.length)):=Lib.hid (by rw [itemL_at hp,if_neg (by rw [hd]; decide),if_neg (by rw [hl]; decide),if_neg (by rw [h9]; decide),if_pos h9])
 rw [HI.out]
 clear HI
 have HT:=Lib.hid (fun w => rText_any s p w hs hp)
 obtain ⟨O,hO⟩ : ∃ o,Hid (textF (s.drop (p + 1)) [] = o):=⟨_,Lib.hid rfl⟩
 rw [hO.out] at HT ⊢
 have HD:=Lib.hid (fun w => digit_is s[p] false hd w)
 have HS:=Lib.hid (fun w => letter_is s[p] false hl w)
 have h34 : ((s[p].toNat : Int) == 34) = true:=by rw [h9]; rfl
 have h92 : ((s[p].toNat : Int) == 92) = false:=by rw [h9]; rfl
 have h94 : ((s[p].toNat : Int) == 94) = false:=by rw [h9]; rfl
 clear hd hl h9
 go_enter Tryz.func29,Tryz.ntmps29
 go_wp2_with fail
 ((with_reducible refine (HS.out _).mono ?_))
 rintro e w2 ⟨rfl,rfl⟩
 go_wp2_with fail
 ((with_reducible refine (HS.out _).mono ?_))
 rintro e w2 ⟨rfl,rfl⟩
 go_wp2_with fail
 ((with_reducible refine (HD.out _).mono ?_))
 rintro e w2 ⟨rfl,rfl⟩
 clear HD HS
 go_wp2_with fail
 ((with_reducible refine (HT.out _).mono ?_))
 rintro e w2 ⟨rfl,hb⟩
 obtain ⟨hb1,hn⟩:=bel_alloc hb
 clear hb
 have HB:=Lib.hid hb1
 have HN:=Lib.hid hn
 obtain ⟨c0,c1,c2,c3⟩:=cells4 hn
 have f0:=free3 hn 0
 have f1:=free3 hn 1
 have f2:=free3 hn 2
 have f3:=free3 hn 3
 clear hn hb1
 cases O with
 | none =>
   simp only [textPair]
   go_wp2_with fail
   exact bodyPost_ret (ret_ritem _ _ _ _ _ _ _ rfl (put4 HN.out _ _ _ _)) rfl ⟨⟨4,0,p,-1,[],rfl,fun _ => rfl,fun x h => by cases h⟩,bel4 HB.out (Nat.le_refl _) _ _ _ _⟩
 | some q =>
   obtain ⟨v,r⟩:=q
   simp only [textPair]
   have hr:=textF_le _ _ _ _ _ (Nat.le_refl _) hO.out
   rw [List.length_drop] at hr
   obtain ⟨k,hk⟩ : ∃ k,s.length - r.length = k:=⟨_,rfl⟩
   rw [hk]
   go_wp2_with fail
   refine bodyPost_ret (ret_ritem _ _ _ _ _ _ _ rfl (put4 HN.out _ _ _ _)) rfl ⟨⟨4,0,p,k,v,rfl,fun h => (by cases h),fun x h => ?_⟩,bel4 HB.out (Nat.le_refl _) _ _ _ _⟩
   injection h with h
   subst h
   refine ⟨rfl,rfl,rfl,rfl,?_⟩
   simp only [List.length_drop]
   omega
set_option maxRecDepth 100000 in
set_option maxHeartbeats 4000000 in
theorem rItem_punct (s : List UInt8) (p : Nat) (w : World) (hs : s.length ≤ 4611686018427380000) (hp : p < s.length) (hd : digitB s[p] = false) (hl : letterB s[p] = false) (h92 : s[p] ≠ 92) (h94 : s[p] ≠ 94) (h34 : s[p] ≠ 34) :
  Calls Tryz.prog 29 #[.string ⟨s.toArray⟩,.int .i64 p] w (RItem (itemL (s.drop p)) p w):=by
 have HI : Hid (itemL (s.drop p) = if punctK s[p] = 0 then none else some (punctK s[p],0,[],1)):=Lib.hid (by rw [itemL_at hp,if_neg (by rw [hd]; decide),if_neg (by rw [hl]; decide),if_neg (by rintro (h | h); exact h92 h; exact h94 h),if_neg h34])
 have HP:=Lib.hid (fun w => rPunct_any s[p] w)
 obtain ⟨K,hK⟩ : ∃ K,punctK s[p] = K:=⟨_,rfl⟩
 rw [hK] at HI HP
 obtain ⟨X,hX⟩ : ∃ X,Hid (itemL (s.drop p) = X):=⟨_,Lib.hid rfl⟩
 rw [hX.out] at HI ⊢
 clear hX hK
 have HD:=Lib.hid (fun w => digit_is s[p] false hd w)
 have HS:=Lib.hid (fun w => letter_is s[p] false hl w)
 have k34 : ((s[p].toNat : Int) == 34) = false:=((byte_cases s[p] 34 34 rfl).resolve_left fun h => h34 h.1).2
 have k92 : ((s[p].toNat : Int) == 92) = false:=((byte_cases s[p] 92 92 rfl).resolve_left fun h => h92 h.1).2
 have k94 : ((s[p].toNat : Int) == 94) = false:=((byte_cases s[p] 94 94 rfl).resolve_left fun h => h94 h.1).2
 clear hd hl h92 h94 h34
 go_enter Tryz.func29,Tryz.ntmps29
 go_wp2_with fail
 ((with_reducible refine (HS.out _).mono ?_))
 rintro e w2 ⟨rfl,rfl⟩
 go_wp2_with fail
 ((with_reducible refine (HS.out _).mono ?_))
 rintro e w2 ⟨rfl,rfl⟩
 go_wp2_with fail
 ((with_reducible refine (HD.out _).mono ?_))
 rintro e w2 ⟨rfl,rfl⟩
 clear HD HS
 go_wp2_with fail
 ((with_reducible refine (HP.out _).mono ?_))
 rintro e w2 ⟨rfl,rfl⟩
 by_cases k0 : (0 : Int) < (K : Int)
 ·obtain rfl : X = some (K,0,[],1):=by rw [HI.out,if_neg (by omega)]
  clear HI
  go_wp2_with fail
  ((with_reducible refine (HP.out _).mono ?_))
  rintro e w2 ⟨rfl,rfl⟩
  go_wp2_with fail
  refine bodyPost_ret (v:=.tuple #[tokV K 0 [] p,.int .i64 ((p : Int) + 1)]) (by simp [results,Tryz.results29,go_sem,tokV]) rfl ⟨⟨K,0,p,_,_,rfl,fun h => (by cases h),fun x h => ?_⟩,(Below.refl _ _).alloc (Nat.le_refl _) _⟩
  injection h with h
  subst h
  exact ⟨rfl,rfl,rfl,rfl,by simp⟩
 ·obtain rfl : X = none:=by rw [HI.out,if_pos (by omega)]
  clear HI
  go_wp2_with fail
  exact bodyPost_ret (v:=.tuple #[tokV 0 0 [] 0,.int .i64 (-1)]) (by simp [results,Tryz.results29,go_sem,tokV]) rfl ⟨⟨0,0,0,-1,_,rfl,fun _ => rfl,fun x h => by cases h⟩,(Below.refl _ _).alloc (Nat.le_refl _) _⟩
theorem rItem_any (s : List UInt8) (p : Nat) (w : World) (hs : s.length ≤ 4611686018427380000) (hp : p < s.length) :
  Calls Tryz.prog 29 #[.string ⟨s.toArray⟩,.int .i64 p] w (RItem (itemL (s.drop p)) p w):=by
 cases hd : digitB s[p]
 ·cases hl : letterB s[p]
  ·by_cases h9 : s[p] = 92 ∨ s[p] = 94
   ·exact rItem_caret s p w hs hp hd hl h9
   ·by_cases h34 : s[p] = 34
    ·exact rItem_quote s p w hs hp h34
    ·exact rItem_punct s p w hs hp hd hl (fun h => h9 (.inl h)) (fun h => h9 (.inr h)) h34
  ·exact rItem_word s p w hs hp hd hl
 ·exact rItem_digit s p w hs hp hd
end
section
open Go.RowKit
theorem closeL_suffix : ∀ (d r : List UInt8),closeL d = some r → ∃ k,k ≤ d.length ∧ r = d.drop k
 | [],r,h => by cases h
 | c :: t,r,h => by
   unfold closeL at h
   split at h
   ·cases h
   ·next heq =>
    injection heq with h1 h2; subst h1 h2
    injection h with h; subst h
    exact ⟨2,by simp,rfl⟩
   ·next heq =>
    injection heq with h1 h2; subst h1 h2
    obtain ⟨k,hk,e⟩:=closeL_suffix _ r h
    exact ⟨k + 1,by simp; omega,by rw [e]; rfl⟩
theorem dropW_suffix : ∀ d : List UInt8,∃ k,k ≤ d.length ∧ d.dropWhile (· != 10) = d.drop k
 | [] => ⟨0,by simp,rfl⟩
 | c :: t => by
   rw [List.dropWhile_cons]
   split
   ·obtain ⟨k,hk,e⟩:=dropW_suffix t
    exact ⟨k + 1,by simp; omega,by rw [e]; rfl⟩
   ·exact ⟨0,by simp,rfl⟩
theorem skipF_suffix : ∀ (f : Nat) (d : List UInt8),∃ k,k ≤ d.length ∧ (skipF f d).1 = d.drop k
 | 0,d => ⟨0,by simp,rfl⟩
 | f + 1,d => by
   unfold skipF
   split
   ·exact ⟨0,by simp,rfl⟩
   ·next r =>
    obtain ⟨k1,hk1,e1⟩:=dropW_suffix (47 :: 47 :: r)
    obtain ⟨k2,hk2,e2⟩:=skipF_suffix f ((47 :: 47 :: r).dropWhile (· != 10))
    rw [e2]
    rw [e1] at hk2 ⊢
    rw [List.length_drop] at hk2
    exact ⟨k1 + k2,by omega,by rw [List.drop_drop]⟩
   ·next r =>
    split
    ·next t ht =>
     obtain ⟨k1,hk1,e1⟩:=closeL_suffix _ _ ht
     obtain ⟨k2,hk2,e2⟩:=skipF_suffix f t
     rw [e2]
     rw [e1] at hk2 ⊢
     rw [List.length_drop] at hk2
     exact ⟨2 + (k1 + k2),by simp; omega,by rw [show 2 + (k1 + k2) = k1 + k2 + 2 by omega,List.drop_drop]; rfl⟩
    ·exact ⟨0,by simp,rfl⟩
   ·next c r _ _ =>
    split
    ·obtain ⟨k2,hk2,e2⟩:=skipF_suffix f r
     exact ⟨k2 + 1,by simp; omega,by rw [e2]; rfl⟩
    ·exact ⟨0,by simp,rfl⟩
theorem skipL_suffix (d : List UInt8) : ∃ k,k ≤ d.length ∧ (skipL d).1 = d.drop k:=skipF_suffix _ d
theorem skip_place (s : List UInt8) (p : Nat) (hp : p ≤ s.length) : ∃ q,p ≤ q ∧ q ≤ s.length ∧ (skipL (s.drop p)).1 = s.drop q ∧ s.length - (skipL (s.drop p)).1.length = q:=by
 obtain ⟨k,hk,e⟩:=skipL_suffix (s.drop p)
 rw [List.length_drop] at hk
 refine ⟨p + k,by omega,by omega,by rw [e,List.drop_drop],?_⟩
 rw [e,List.drop_drop,List.length_drop]
 omega
theorem segsN_pos : ∀ (f : Nat) (r : List UInt8) (m : Nat),segsN f r = some m → 1 ≤ m
 | 0,_,_,h => by cases h
 | _ + 1,[],_,h => by cases h
 | f + 1,c :: r,m,h => by
   unfold segsN at h
   split at h
   ·cases h
   ·next hl =>
    have hw : 1 ≤ wordN (c :: r):=wordN_pos (by unfold idB; rw [Bool.not_eq_false] at hl; rw [hl] <;> rfl)
    split at h
    ·cases h
    ·split at h
     ·next t ht =>
      cases hs : segsN f t with
      | none => rw [hs] at h; cases h
      | some k =>
        rw [hs] at h
        simp only [Option.map_some,Option.some.injEq] at h
        omega
     ·injection h with h
      omega
theorem nameN_pos {s : List UInt8} {m : Nat} (h : nameN s = some m) : 1 ≤ m:=by
 unfold nameN at h
 split at h
 ·split at h
  ·injection h with h; omega
  ·cases h
 ·next c r hd =>
  split at h
  ·cases hs : segsN (c :: r).length (c :: r) with
   | none => rw [hs] at h; cases h
   | some k =>
     rw [hs] at h
     have:=segsN_pos _ _ k hs
     simp only [Option.map_some,Option.some.injEq] at h
     omega
  ·split at h
   ·injection h with h; omega
   ·cases h
theorem nameO_le {d : List UInt8} {x : Nat × Nat × List UInt8 × Nat} (h : nameO d = some x) : 1 ≤ x.2.2.2 ∧ x.2.2.2 ≤ d.length:=by
 unfold nameO at h
 cases hn : nameN d with
 | none => rw [hn] at h; cases h
 | some m =>
   rw [hn] at h
   injection h with h
   subst h
   exact ⟨nameN_pos hn,nameN_le hn⟩
theorem itemL_le {d : List UInt8} {x : Nat × Nat × List UInt8 × Nat} (h : itemL d = some x) : 1 ≤ x.2.2.2 ∧ x.2.2.2 ≤ d.length:=by
 cases d with
 | nil => cases h
 | cons c r =>
   have h':=itemL_at (s:=c :: r) (p:=0) (by simp)
   simp only [List.drop_zero,List.getElem_cons_zero,Nat.zero_add,List.drop_succ_cons] at h'
   rw [h'] at h
   clear h'
   split at h
   ·next hd =>
    cases hv : intV ((c :: r).take (wordN (c :: r))) with
    | none => rw [hv] at h; cases h
    | some v =>
      rw [hv] at h
      injection h with h
      subst h
      exact ⟨wordN_pos (by unfold idB; rw [hd]; simp),wordN_le _⟩
   ·split at h
    ·next hl =>
     split at h
     ·split at h
      ·injection h with h
       subst h
       exact ⟨wordN_pos (by unfold idB; rw [hl] <;> rfl),wordN_le _⟩
      ·cases h
     ·exact nameO_le h
    ·split at h
     ·exact nameO_le h
     ·split at h
      ·cases ht : textF r [] with
       | none => rw [ht] at h; cases h
       | some q =>
         rw [ht] at h
         injection h with h
         subst h
         have:=textF_le _ _ _ q.1 q.2 (Nat.le_refl _) ht
         simp only [List.length_cons]
         omega
      ·split at h
       ·cases h
       ·injection h with h
        subst h
        simp
theorem scanF_fuel (s : List UInt8) : ∀ (f g p : Nat) (acc : List Tok),p ≤ s.length → s.length + 1 ≤ f + p → s.length + 1 ≤ g + p → scanF s f p acc = scanF s g p acc
 | 0,_,p,_,hp,h,_ => absurd h (by omega)
 | _ + 1,0,p,_,hp,_,h => absurd h (by omega)
 | f + 1,g + 1,p,acc,hp,h1,h2 => by
   obtain ⟨q,hq1,hq2,e1,e2⟩:=skip_place s p hp
   unfold scanF
   rw [e2,e1]
   split
   ·rfl
   ·split
    ·rfl
    ·split
     ·rfl
     ·next k v t n hi =>
      have:=itemL_le hi
      rw [List.length_drop] at this
      simp only [] at this
      exact scanF_fuel s f g (q + n) _ (by omega) (by omega) (by omega)
def scanG (s : List UInt8) (p : Nat) (acc : List Tok) : List Tok × Nat × Nat:=scanF s (s.length + 1) p acc
theorem scanG_open {s : List UInt8} {p q : Nat} {acc : List Tok} (hq : s.length - (skipL (s.drop p)).1.length = q) (h : (skipL (s.drop p)).2 = false) : scanG s p acc = ([],q,2):=by
 unfold scanG
 rw [scanF,if_pos h,hq]
theorem scanG_done {s : List UInt8} {p : Nat} {acc : List Tok} (h : (skipL (s.drop p)).2 = true) (h1 : (skipL (s.drop p)).1 = []) : scanG s p acc = (acc,0,0):=by
 unfold scanG
 rw [scanF,if_neg (by rw [h]; decide),if_pos h1]
theorem scanG_bad {s : List UInt8} {p q : Nat} {acc : List Tok} (hq : s.length - (skipL (s.drop p)).1.length = q) (h : (skipL (s.drop p)).2 = true) (h0 : (skipL (s.drop p)).1 = s.drop q) (h1 : q < s.length) (h2 : itemL (s.drop q) = none) : scanG s p acc = ([],q,2):=by
 unfold scanG
 rw [scanF,if_neg (by rw [h]; decide),if_neg (by rw [h0]; intro e; have:=congrArg List.length e; rw [List.length_drop,List.length_nil] at this; omega),hq,h0,h2]
theorem scanG_next {s : List UInt8} {p q k v n : Nat} {t : List UInt8} {acc : List Tok} (hp : p ≤ q) (hq : s.length - (skipL (s.drop p)).1.length = q) (h : (skipL (s.drop p)).2 = true) (h0 : (skipL (s.drop p)).1 = s.drop q) (h1 : q < s.length) (h2 : itemL (s.drop q) = some (k,v,t,n)) : scanG s p acc = scanG s (q + n) (acc ++ [⟨k,v,t,q⟩]):=by
 have hn : 1 ≤ n ∧ n ≤ (s.drop q).length:=itemL_le h2
 rw [List.length_drop] at hn
 unfold scanG
 rw [scanF,if_neg (by rw [h]; decide),if_neg (by rw [h0]; intro e; have:=congrArg List.length e; rw [List.length_drop,List.length_nil] at this; omega),hq,h0,h2]
 exact scanF_fuel s _ _ _ _ (by omega) (by omega) (by omega)
theorem scanL_long {s : List UInt8} (h : 65536 < s.length) : scanL s = ([],0,11):=by unfold scanL; rw [if_pos h]
theorem scanL_go {s : List UInt8} (h : ¬ 65536 < s.length) : scanL s = scanG s 0 []:=by unfold scanL scanG; rw [if_neg h]
def tokCells : List Tok → List Value
 | [] => []
 | t :: r => .int .i64 t.kind :: .int .u64 t.num :: .string ⟨t.str.toArray⟩ :: .int .i64 t.pos :: tokCells r
theorem tokCells_app : ∀ l m : List Tok,tokCells (l ++ m) = tokCells l ++ tokCells m
 | [],m => rfl
 | t :: r,m => by rw [List.cons_append,tokCells,tokCells,tokCells_app r m]; rfl
theorem tokCells_at : ∀ (l : List Tok) (i : Nat) (h : i < l.length),(tokCells l)[i * 4]? = some (.int .i64 l[i].kind) ∧ (tokCells l)[i * 4 + 1]? = some (.int .u64 l[i].num) ∧ (tokCells l)[i * 4 + 2]? = some (.string ⟨l[i].str.toArray⟩) ∧ (tokCells l)[i * 4 + 3]? = some (.int .i64 l[i].pos)
 | t :: r,0,_ => ⟨rfl,rfl,rfl,rfl⟩
 | t :: r,i + 1,h => by
   have:=tokCells_at r i (by simpa using h)
   rw [show (i + 1) * 4 = i * 4 + 4 by omega]
   exact this
theorem infoTok : (Tryz.prog.info? 37).map (fun i => (i.zero,i.size,i.bytes)) = some (some (.agg #[.int .i64 0,.int .u64 0,.string ⟨#[]⟩,.int .i64 0]),4,40):=by kernel_rfl
def Toks (w : World) (B : Nat) (v : Value) (l : List Tok) : Prop:=w.ownsRow B 37 4 v l.length (tokCells l)
theorem Toks.nil (w : World) (B : Nat) : Toks w B (.slice none 0 0) []:=⟨rfl,.inl ⟨rfl,rfl⟩⟩
theorem Toks.below {w w' : World} {B : Nat} {v : Value} {l : List Tok} (h : Toks w B v l) (hb : Below w.heap.size w w') : Toks w' B v l:=own_below h hb
theorem Toks.base {w : World} {B B' : Nat} {v : Value} {l : List Tok} (h : Toks w B v l) (hB : B' ≤ B) : Toks w B' v l:=own_base h hB
theorem Toks.form {w : World} {B : Nat} {v : Value} {l : List Tok} (h : Toks w B v l) : ∃ a c,v = .slice a l.length c:=by
 rcases h.2 with ⟨rfl,h0⟩ | ⟨g,cap,cur,rfl,_⟩
 ·exact ⟨none,0,by rw [h0]⟩
 ·exact ⟨_,cap,rfl⟩
theorem Toks.kept {w w1 w2 : World} {B B0 : Nat} {v : Value} {l : List Tok} (ho : Toks w1 B v l) (h : Below B0 w w1) (hg : w1.grownBy w2 v.ownBlock) (hB : B0 ≤ w1.heap.size) (hB2 : B0 ≤ B) : Below B0 w w2 :=
 h.grown hg hB (fun k hk => Nat.le_trans hB2 (own_row ho hk))
theorem Toks.cells {w : World} {B : Nat} {a : Option Addr} {n c : Nat} {l : List Tok} (h : Toks w B (.slice a n c) l) (i : Nat) (hi : i < l.length) : ∃ b,a = some ⟨b,0,none⟩ ∧ B ≤ b ∧
  w.cell? ⟨b,i * 4,none⟩ = some (.int .i64 l[i].kind) ∧ w.cell? ⟨b,i * 4 + 1,none⟩ = some (.int .u64 l[i].num) ∧ w.cell? ⟨b,i * 4 + 2,none⟩ = some (.string ⟨l[i].str.toArray⟩) ∧ w.cell? ⟨b,i * 4 + 3,none⟩ = some (.int .i64 l[i].pos):=by
 obtain ⟨h1,h2⟩:=h
 rcases h2 with ⟨hv,h0⟩ | ⟨g,cap,cur,hv,hb,hg,hn,hm,hs,ht⟩
 ·omega
 ·injection hv with e1 e2 e3
  obtain ⟨k0,k1,k2,k3⟩:=tokCells_at l i hi
  rw [← ht] at k0 k1 k2 k3
  rw [List.getElem?_take,if_pos (by omega)] at k0 k1 k2 k3
  refine ⟨g,e1,hb,?_,?_,?_,?_⟩
  ·rw [cell_of_row w g _ cur _ (0,0) hg]; simpa using k0
  ·rw [cell_of_row w g _ cur _ (0,0) hg]; simpa using k1
  ·rw [cell_of_row w g _ cur _ (0,0) hg]; simpa using k2
  ·rw [cell_of_row w g _ cur _ (0,0) hg]; simpa using k3
theorem wpList_append_tok {w : World} {ops : Array Oper} {rest : List Oper} {o : Oper} {a : Act} {Q : Exit → Act → World → Prop} (hgd : o.guard = none) (s x : Operand)
  (ho : o.op = .call { callee:=.builtin .append,args:=#[s,x],argTypes:=#[28,28] })
  (B : Nat) (v : Value) (l : List Tok) (hs : a.eval s = v) (hown : Toks w B v l) (g : Nat) (t : Tok)
  (hx : a.eval x = .slice (some ⟨g,0,none⟩) 1 1) (hb : w.heap[g]? = some (.cells #[.int .i64 t.kind,.int .u64 t.num,.string ⟨t.str.toArray⟩,.int .i64 t.pos] 37 (0,0))) (hlen : l.length ≤ 1000000) (hB : B ≤ w.heap.size)
  (h : ∀ v' w',Toks w' B v' (l ++ [t]) → w.grownBy w' v.ownBlock → wpList Tryz.prog ops Q rest (a.put o.dst v') w') : wpList Tryz.prog ops Q (o :: rest) a w:=by
 obtain ⟨i0,hi,hz0,hz1,hz2⟩:=info_parts infoTok
 obtain ⟨c0,c1,c2,c3⟩:=cells4 hb
 refine wpList_append_own _ hgd s x _ ho B 37 i0 _ 4 40 Tryz.underlying28 hi hz0 hz1 hz2 rfl (by decide) v l.length _ hs hown ⟨g,0,none⟩ 1 1 (tokCells [t]) hx rfl ?_ ?_ (by unfold maxLen; omega) (by omega) hB ?_
 ·intro j z hj
  match j,hj with
  | 0,hj => cases hj; exact c0
  | 1,hj => cases hj; exact c1
  | 2,hj => cases hj; exact c2
  | 3,hj => cases hj; exact c3
 ·intro z hz
  simp only [tokCells,List.mem_cons,List.not_mem_nil,or_false] at hz
  rcases hz with rfl | rfl | rfl | rfl <;> rfl
 ·intro v' w' h1 h2 _
  refine h v' w' ?_ h2
  unfold Toks
  rw [List.length_append,tokCells_app]
  exact h1
end
end Go.Proofs.YtnicnfchkdmieaaGreatDoor
