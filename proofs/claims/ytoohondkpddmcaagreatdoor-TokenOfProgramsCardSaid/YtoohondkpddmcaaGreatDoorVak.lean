/- Tkn Tko -/
import Derived.Test.YtoohondkpddmcaaGreatDoorVaj
set_option linter.unusedVariables false
set_option linter.unusedSimpArgs false
namespace Go.Proofs.YtoohondkpddmcaaGreatDoor
section
open Go.RowKit
attribute [local go_sem] ByteArray.mk_append_mk bs_get bs_cut bs_end
def tokV (a b : Int) (c : List UInt8) (d : Int) : Value:=.agg #[.int .i64 a,.int .u64 b,.string ⟨c.toArray⟩,.int .i64 d]
def ItemPost (o : Option (Nat × Nat × List UInt8 × Nat)) (p : Nat) (w : World) (e : Ending) (w' : World) : Prop :=
 (∃ (a b d n : Int) (c : List UInt8),e = .returned (.tuple #[tokV a b c d,.int .i64 n,.bool o.isSome]) ∧ ∀ x,o = some x → a = x.1 ∧ b = x.2.1 ∧ c = x.2.2.1 ∧ n = (p + x.2.2.2 : Nat)) ∧ Below w.heap.size w w'
def nameO (D : List UInt8) : Option (Nat × Nat × List UInt8 × Nat):=(nameN D).map fun m => (1,0,D.take m,m)
theorem segsN_le : ∀ (f : Nat) (r : List UInt8) (m : Nat),segsN f r = some m → m ≤ r.length
 | 0,_,_,h => by cases h
 | _ + 1,[],_,h => by cases h
 | f + 1,c :: r,m,h => by
   unfold segsN at h
   split at h
   ·cases h
   ·split at h
    ·cases h
    ·split at h
     ·next t ht =>
      cases hs : segsN f t with
      | none => rw [hs] at h; cases h
      | some k =>
        rw [hs] at h
        have:=segsN_le f t k hs
        have hl:=congrArg List.length ht
        rw [List.length_drop,List.length_cons,List.length_cons] at hl
        simp only [Option.map_some,Option.some.injEq] at h
        simp only [List.length_cons]
        omega
     ·injection h with h
      subst h
      exact wordN_le _
theorem nameN_le {s : List UInt8} {m : Nat} (h : nameN s = some m) : m ≤ s.length:=by
 have hp:=preN_le s
 unfold nameN at h
 split at h
 ·split at h
  ·injection h with h; omega
  ·cases h
 ·next c r hd =>
  split at h
  ·cases hs : segsN (c :: r).length (c :: r) with
   | none => rw [hs] at h; cases h
   | some k =>
     rw [hs] at h
     have:=segsN_le _ _ k hs
     rw [← hd,List.length_drop] at this
     simp only [Option.map_some,Option.some.injEq] at h
     omega
  ·split at h
   ·injection h with h; omega
   ·cases h
set_option maxRecDepth 100000 in
set_option maxHeartbeats 4000000 in
theorem tNameItem_any (s : List UInt8) (p : Nat) (w : World) (hs : s.length ≤ 9223372036854770000) (hp : p ≤ s.length) :
  Calls Tryz.prog 71 #[.string ⟨s.toArray⟩,.int .i64 p] w (ItemPost (nameO (s.drop p)) p w):=by
 have HN:=Lib.hid (fun w => tName_any (s.drop p) w (by rw [List.length_drop]; omega))
 unfold nameO
 obtain ⟨o,ho⟩ : ∃ o,Hid (nameN (s.drop p) = o):=⟨_,Lib.hid rfl⟩
 rw [ho.out] at HN ⊢
 cases o with
 | none =>
   go_enter Tryz.func71,Tryz.ntmps71
   go_wp2_with fail
   ((with_reducible refine (HN.out _).mono ?_))
   rintro e w2 ⟨rfl,rfl⟩
   unfold namePair
   simp only [Option.getD_none,Option.isSome_none]
   go_wp2_with fail
   exact bodyPost_ret (v:=.tuple #[tokV 0 0 [] 0,.int .i64 0,.bool false]) (by simp [results,Tryz.results71,go_sem,tokV]) rfl ⟨⟨0,0,0,0,[],rfl,fun x h => by cases h⟩,(Below.refl _ _).alloc (Nat.le_refl _) _⟩
 | some n =>
   have hn : n ≤ s.length - p:=by rw [← List.length_drop]; exact nameN_le ho.out
   go_enter Tryz.func71,Tryz.ntmps71
   go_wp2_with fail
   ((with_reducible refine (HN.out _).mono ?_))
   rintro e w2 ⟨rfl,rfl⟩
   unfold namePair
   simp only [Option.getD_some,Option.isSome_some]
   go_wp2_with fail
   exact bodyPost_ret (v:=.tuple #[tokV 1 0 ((s.drop p).take n) 0,.int .i64 ((p : Int) + n),.bool true]) (by simp [results,Tryz.results71,go_sem,tokV]) rfl ⟨⟨1,0,0,_,_,rfl,fun x h => by injection h with h; subst h; exact ⟨rfl,rfl,rfl,by simp⟩⟩,(Below.refl _ _).alloc (Nat.le_refl _) _⟩
theorem ret_titem (tmps : Array Value) (w : World) (b : Nat) (c0 c1 c2 c3 : Value) (h2 : tmps.getD 4 undef = .pointer (some ⟨b,0,none⟩)) (hb : w.heap[b]? = some (.cells #[c0,c1,c2,c3] 34 (0,0))) :
  (results Tryz.f32 tmps).run Tryz.prog w = .ok (.tuple #[.agg #[c0,c1,c2,c3],tmps.getD 5 undef,tmps.getD 6 undef]) w:=by
 obtain ⟨e0,e1,e2,e3⟩:=cells4 hb
 have h2' : tmps[4]?.getD undef = .pointer (some ⟨b,0,none⟩):=by rw [← h2]; simp
 simp [results]
 go_simp
theorem itemL_at {s : List UInt8} {p : Nat} (h : p < s.length) : itemL (s.drop p) =
  if digitB s[p] = true then (intV ((s.drop p).take (wordN (s.drop p)))).map fun v => (3,v,[],wordN (s.drop p))
  else if letterB s[p] = true then
   (if lowerB ((s.drop p).take (wordN (s.drop p))) = true then (if wordN (s.drop p) ≤ 32 then some (2,0,(s.drop p).take (wordN (s.drop p)),wordN (s.drop p)) else none)
    else nameO (s.drop p))
  else if s[p] = 92 ∨ s[p] = 94 then nameO (s.drop p)
  else if s[p] = 34 then (textF (s.drop (p + 1)) []).map fun q => (4,0,q.1,(s.drop p).length - q.2.length)
  else if punctK s[p] = 0 then none else some (punctK s[p],0,[],1):=by
 rw [List.drop_eq_getElem_cons h]
 rfl
set_option maxRecDepth 100000 in
set_option maxHeartbeats 4000000 in
theorem tItem_digit (s : List UInt8) (p : Nat) (w : World) (hs : s.length ≤ 9223372036854770000) (hp : p < s.length) (hd : digitB s[p] = true) :
  Calls Tryz.prog 32 #[.string ⟨s.toArray⟩,.int .i64 p] w (ItemPost (itemL (s.drop p)) p w):=by
 have HI : Hid (itemL (s.drop p) = (intV ((s.drop p).take (wordN (s.drop p)))).map fun v => (3,v,[],wordN (s.drop p))):=Lib.hid (by rw [itemL_at hp,if_pos hd])
 rw [HI.out]
 clear HI
 have HW:=Lib.hid (fun w => tWord_any (s.drop p) w (by rw [List.length_drop]; omega))
 obtain ⟨n,hn⟩ : ∃ n,wordN (s.drop p) = n:=⟨_,rfl⟩
 have hnl : n ≤ s.length - p:=by rw [← hn,← List.length_drop]; exact wordN_le _
 rw [hn] at HW ⊢
 clear hn
 have HV:=Lib.hid (fun w => tInt_any ((s.drop p).take n) w (by rw [List.length_take,List.length_drop]; omega))
 obtain ⟨o,ho⟩ : ∃ o,Hid (intV ((s.drop p).take n) = o):=⟨_,Lib.hid rfl⟩
 rw [ho.out] at HV ⊢
 have HD:=Lib.hid (fun w => tIsDigit_is s[p] true hd w)
 clear hd
 go_enter Tryz.func32,Tryz.ntmps32
 go_wp2_with fail
 ((with_reducible refine (HD.out _).mono ?_))
 rintro e w2 ⟨rfl,rfl⟩
 go_wp2_with fail
 ((with_reducible refine (HW.out _).mono ?_))
 rintro e w2 ⟨rfl,rfl⟩
 go_wp2_with fail
 ((with_reducible refine (HV.out _).mono ?_))
 rintro e w2 ⟨rfl,rfl⟩
 unfold intPair
 obtain ⟨v,hv⟩ : ∃ v,Hid (o.getD 0 = v):=⟨_,Lib.hid rfl⟩
 obtain ⟨b,hb⟩ : ∃ b,Hid (o.isSome = b):=⟨_,Lib.hid rfl⟩
 rw [hv.out,hb.out]
 go_wp2_with fail
 refine bodyPost_ret (v:=.tuple #[tokV 3 v [] 0,.int .i64 ((p : Int) + n),.bool b]) (by simp [results,Tryz.results32,go_sem,tokV]) rfl ⟨⟨3,v,0,_,_,by rw [← hb.out,Option.isSome_map],fun x h => ?_⟩,(Below.refl _ _).alloc (Nat.le_refl _) _⟩
 cases o with
 | none => cases h
 | some y =>
   simp only [Option.map_some,Option.some.injEq] at h
   subst h
   have:=hv.out
   simp only [Option.getD_some] at this
   subst this
   exact ⟨rfl,rfl,rfl,by simp⟩
set_option maxRecDepth 100000 in
set_option maxHeartbeats 4000000 in
theorem tItem_word (s : List UInt8) (p : Nat) (w : World) (hs : s.length ≤ 9223372036854770000) (hp : p < s.length) (hd : digitB s[p] = false) (hl : letterB s[p] = true) :
  Calls Tryz.prog 32 #[.string ⟨s.toArray⟩,.int .i64 p] w (ItemPost (itemL (s.drop p)) p w):=by
 have HI : Hid (itemL (s.drop p) = if lowerB ((s.drop p).take (wordN (s.drop p))) = true then (if wordN (s.drop p) ≤ 32 then some (2,0,(s.drop p).take (wordN (s.drop p)),wordN (s.drop p)) else none) else nameO (s.drop p)):=Lib.hid (by rw [itemL_at hp,if_neg (by rw [hd]; decide),if_pos hl])
 obtain ⟨X,hX⟩ : ∃ X,Hid (itemL (s.drop p) = X):=⟨_,Lib.hid rfl⟩
 rw [hX.out] at HI ⊢
 clear hX
 have HW:=Lib.hid (fun w => tWord_any (s.drop p) w (by rw [List.length_drop]; omega))
 have HNI:=Lib.hid (fun w => tNameItem_any s p w hs (by omega))
 obtain ⟨n,hn⟩ : ∃ n,wordN (s.drop p) = n:=⟨_,rfl⟩
 have hnl : n ≤ s.length - p:=by rw [← hn,← List.length_drop]; exact wordN_le _
 rw [hn] at HW HI
 clear hn
 have HL:=Lib.hid (fun w => tLower_any ((s.drop p).take n) w (by rw [List.length_take,List.length_drop]; omega))
 obtain ⟨lw,hlw⟩ : ∃ o,Hid (lowerB ((s.drop p).take n) = o):=⟨_,Lib.hid rfl⟩
 rw [hlw.out] at HL HI
 obtain ⟨O,hO⟩ : ∃ o,Hid (nameO (s.drop p) = o):=⟨_,Lib.hid rfl⟩
 rw [hO.out] at HNI HI
 have HD:=Lib.hid (fun w => tIsDigit_is s[p] false hd w)
 have HS:=Lib.hid (fun w => tIsStart_is s[p] true hl w)
 clear hd hl
 go_enter Tryz.func32,Tryz.ntmps32
 go_wp2_with fail
 ((with_reducible refine (HD.out _).mono ?_))
 rintro e w2 ⟨rfl,rfl⟩
 go_wp2_with fail
 ((with_reducible refine (HS.out _).mono ?_))
 rintro e w2 ⟨rfl,rfl⟩
 go_wp2_with fail
 ((with_reducible refine (HW.out _).mono ?_))
 rintro e w2 ⟨rfl,rfl⟩
 go_wp2_with fail
 ((with_reducible refine (HL.out _).mono ?_))
 rintro e w2 ⟨rfl,rfl⟩
 clear HD HS HW HL
 cases lw
 ·obtain rfl : X = O:=HI.out
  clear hO HI
  go_wp2_with fail
  ((with_reducible refine (HNI.out _).mono ?_))
  rintro e w2 ⟨⟨a,b,d,n2,c,rfl,HX⟩,hb⟩
  unfold tokV
  obtain ⟨hb1,hn⟩:=bel_alloc hb
  clear hb
  have HB:=Lib.hid hb1
  have HN:=Lib.hid hn
  obtain ⟨c0,c1,c2,c3⟩:=cells4 hn
  have f0:=free3 hn 0
  have f1:=free3 hn 1
  have f2:=free3 hn 2
  have f3:=free3 hn 3
  have HXX:=Lib.hid HX
  clear hn hb1 HX
  go_wp2_with fail
  exact bodyPost_ret (ret_titem _ _ _ _ _ _ _ rfl (put4 HN.out _ _ _ _)) rfl ⟨⟨a,b,d,n2,c,rfl,HXX.out⟩,bel4 HB.out (Nat.le_refl _) _ _ _ _⟩
 ·by_cases h32 : (n : Int) ≤ 32
  ·obtain rfl : X = some (2,0,(s.drop p).take n,n):=by have:=HI.out; rw [if_pos rfl,if_pos (by omega)] at this; exact this
   clear HI
   go_wp2_with fail
   refine bodyPost_ret (v:=.tuple #[tokV 2 0 ((s.drop p).take n) 0,.int .i64 ((p : Int) + n),.bool true]) (by simp [results,Tryz.results32,go_sem,tokV]; omega) rfl ⟨⟨2,0,0,_,_,rfl,fun x h => ?_⟩,(Below.refl _ _).alloc (Nat.le_refl _) _⟩
   injection h with h
   subst h
   exact ⟨rfl,rfl,rfl,by simp⟩
  ·obtain rfl : X = none:=by have:=HI.out; rw [if_pos rfl,if_neg (by omega)] at this; exact this
   clear HI
   go_wp2_with fail
   exact bodyPost_ret (v:=.tuple #[tokV 2 0 ((s.drop p).take n) 0,.int .i64 ((p : Int) + n),.bool false]) (by simp [results,Tryz.results32,go_sem,tokV]; omega) rfl ⟨⟨2,0,0,_,_,rfl,fun x h => by cases h⟩,(Below.refl _ _).alloc (Nat.le_refl _) _⟩
end
section
open Go.RowKit
attribute [local go_sem] ByteArray.mk_append_mk bs_get bs_cut bs_end
theorem textF_le : ∀ (n : Nat) (s v x r : List UInt8),s.length ≤ n → textF s v = some (x,r) → r.length < s.length
 | 0,s,v,x,r,hs,h => by
   have : s = []:=List.eq_nil_of_length_eq_zero (by omega)
   subst this; cases h
 | n + 1,[],v,x,r,hs,h => by cases h
 | n + 1,c :: t,v,x,r,hs,h => by
   simp only [List.length_cons] at hs ⊢
   by_cases h1 : c = 34
   ·subst h1
    rw [textF_quote] at h
    split at h
    ·cases h
    ·injection h with h; injection h with _ h; subst h; omega
   ·by_cases h2 : c = 92
    ·subst h2
     rw [textF_esc] at h
     split at h
     ·next b m he =>
      have hm:=(escL_le he).1
      have:=textF_le n _ _ x r (by rw [List.length_drop,List.length_cons]; omega) h
      rw [List.length_drop,List.length_cons] at this
      omega
     ·cases h
    ·rw [textF_plain h1 h2] at h
     split at h
     ·have:=textF_le n _ _ x r (by omega) h
      omega
     ·cases h
set_option maxRecDepth 100000 in
set_option maxHeartbeats 4000000 in
theorem tItem_caret (s : List UInt8) (p : Nat) (w : World) (hs : s.length ≤ 9223372036854770000) (hp : p < s.length) (hd : digitB s[p] = false) (hl : letterB s[p] = false) (h9 : s[p] = 92 ∨ s[p] = 94) :
  Calls Tryz.prog 32 #[.string ⟨s.toArray⟩,.int .i64 p] w (ItemPost (itemL (s.drop p)) p w):=by
 have HI : Hid (itemL (s.drop p) = nameO (s.drop p)):=Lib.hid (by rw [itemL_at hp,if_neg (by rw [hd]; decide),if_neg (by rw [hl]; decide),if_pos h9])
 rw [HI.out]
 clear HI
 have HNI:=Lib.hid (fun w => tNameItem_any s p w hs (by omega))
 obtain ⟨O,hO⟩ : ∃ o,Hid (nameO (s.drop p) = o):=⟨_,Lib.hid rfl⟩
 rw [hO.out] at HNI ⊢
 have HD:=Lib.hid (fun w => tIsDigit_is s[p] false hd w)
 have HS:=Lib.hid (fun w => tIsStart_is s[p] false hl w)
 have HB9 : Hid (((s[p].toNat : Int) == 92) = true ∨ (((s[p].toNat : Int) == 92) = false ∧ ((s[p].toNat : Int) == 94) = true)):=Lib.hid (by
  rcases byte_cases s[p] 92 92 rfl with ⟨_,h⟩ | ⟨e,h⟩
  ·exact .inl h
  ·rcases byte_cases s[p] 94 94 rfl with ⟨_,h'⟩ | ⟨e',h'⟩
   ·exact .inr ⟨h,h'⟩
   ·rcases h9 with h9 | h9
    ·exact absurd h9 e
    ·exact absurd h9 e')
 clear hd hl h9 hO
 go_enter Tryz.func32,Tryz.ntmps32
 go_wp2_with fail
 ((with_reducible refine (HD.out _).mono ?_))
 rintro e w2 ⟨rfl,rfl⟩
 go_wp2_with fail
 ((with_reducible refine (HS.out _).mono ?_))
 rintro e w2 ⟨rfl,rfl⟩
 clear HD HS
 rcases HB9.out with h92 | ⟨h92,h94⟩
 all_goals
  go_wp2_with fail
  ((with_reducible refine (HNI.out _).mono ?_))
  rintro e w2 ⟨⟨a,b,d,n2,c,rfl,HX⟩,hb⟩
  unfold tokV
  obtain ⟨hb1,hn⟩:=bel_alloc hb
  clear hb
  have HB:=Lib.hid hb1
  have HN:=Lib.hid hn
  obtain ⟨c0,c1,c2,c3⟩:=cells4 hn
  have f0:=free3 hn 0
  have f1:=free3 hn 1
  have f2:=free3 hn 2
  have f3:=free3 hn 3
  have HXX:=Lib.hid HX
  clear hn hb1 HX
  go_wp2_with fail
  exact bodyPost_ret (ret_titem _ _ _ _ _ _ _ rfl (put4 HN.out _ _ _ _)) rfl ⟨⟨a,b,d,n2,c,rfl,HXX.out⟩,bel4 HB.out (Nat.le_refl _) _ _ _ _⟩
set_option maxRecDepth 100000 in
set_option maxHeartbeats 4000000 in
theorem tItem_quote (s : List UInt8) (p : Nat) (w : World) (hs : s.length ≤ 9223372036854770000) (hp : p < s.length) (h9 : s[p] = 34) :
  Calls Tryz.prog 32 #[.string ⟨s.toArray⟩,.int .i64 p] w (ItemPost (itemL (s.drop p)) p w):=by
 have hd : digitB s[p] = false:=by rw [h9]; rfl
 have hl : letterB s[p] = false:=by rw [h9]; rfl
 have HI : Hid (itemL (s.drop p) = (textF (s.drop (p + 1)) []).map fun q => (4,0,q.1,(s.drop p).length - q.2.length)):=Lib.hid (by rw [itemL_at hp,if_neg (by rw [hd]; decide),if_neg (by rw [hl]; decide),if_neg (by rw [h9]; decide),if_pos h9])
 rw [HI.out]
 clear HI
 have HT:=Lib.hid (fun w => tText_any s p w hs hp)
 obtain ⟨O,hO⟩ : ∃ o,Hid (textF (s.drop (p + 1)) [] = o):=⟨_,Lib.hid rfl⟩
 rw [hO.out] at HT ⊢
 have HD:=Lib.hid (fun w => tIsDigit_is s[p] false hd w)
 have HS:=Lib.hid (fun w => tIsStart_is s[p] false hl w)
 have h34 : ((s[p].toNat : Int) == 34) = true:=by rw [h9]; rfl
 have h92 : ((s[p].toNat : Int) == 92) = false:=by rw [h9]; rfl
 have h94 : ((s[p].toNat : Int) == 94) = false:=by rw [h9]; rfl
 clear hd hl h9
 go_enter Tryz.func32,Tryz.ntmps32
 go_wp2_with fail
 ((with_reducible refine (HD.out _).mono ?_))
 rintro e w2 ⟨rfl,rfl⟩
 go_wp2_with fail
 ((with_reducible refine (HS.out _).mono ?_))
 rintro e w2 ⟨rfl,rfl⟩
 clear HD HS
 go_wp2_with fail
 ((with_reducible refine (HT.out _).mono ?_))
 rintro e w2 ⟨rfl,hb⟩
 obtain ⟨hb1,hn⟩:=bel_alloc hb
 clear hb
 have HB:=Lib.hid hb1
 have HN:=Lib.hid hn
 obtain ⟨c0,c1,c2,c3⟩:=cells4 hn
 have f0:=free3 hn 0
 have f1:=free3 hn 1
 have f2:=free3 hn 2
 have f3:=free3 hn 3
 clear hn hb1
 cases O with
 | none =>
   simp only [textTup]
   go_wp2_with fail
   exact bodyPost_ret (ret_titem _ _ _ _ _ _ _ rfl (put4 HN.out _ _ _ _)) rfl ⟨⟨4,0,0,0,[],rfl,fun x h => by cases h⟩,bel4 HB.out (Nat.le_refl _) _ _ _ _⟩
 | some q =>
   obtain ⟨v,r⟩:=q
   simp only [textTup]
   have hr:=textF_le _ _ _ _ _ (Nat.le_refl _) hO.out
   rw [List.length_drop] at hr
   obtain ⟨k,hk⟩ : ∃ k,s.length - r.length = k:=⟨_,rfl⟩
   rw [hk]
   go_wp2_with fail
   refine bodyPost_ret (ret_titem _ _ _ _ _ _ _ rfl (put4 HN.out _ _ _ _)) rfl ⟨⟨4,0,0,k,v,rfl,fun x h => ?_⟩,bel4 HB.out (Nat.le_refl _) _ _ _ _⟩
   injection h with h
   subst h
   refine ⟨rfl,rfl,rfl,?_⟩
   simp only [List.length_drop]
   omega
set_option maxRecDepth 100000 in
set_option maxHeartbeats 4000000 in
theorem tItem_punct (s : List UInt8) (p : Nat) (w : World) (hs : s.length ≤ 9223372036854770000) (hp : p < s.length) (hd : digitB s[p] = false) (hl : letterB s[p] = false) (h92 : s[p] ≠ 92) (h94 : s[p] ≠ 94) (h34 : s[p] ≠ 34) :
  Calls Tryz.prog 32 #[.string ⟨s.toArray⟩,.int .i64 p] w (ItemPost (itemL (s.drop p)) p w):=by
 have HI : Hid (itemL (s.drop p) = if punctK s[p] = 0 then none else some (punctK s[p],0,[],1)):=Lib.hid (by rw [itemL_at hp,if_neg (by rw [hd]; decide),if_neg (by rw [hl]; decide),if_neg (by rintro (h | h); exact h92 h; exact h94 h),if_neg h34])
 have HP:=Lib.hid (fun w => tPunct_any s[p] w)
 obtain ⟨K,hK⟩ : ∃ K,punctK s[p] = K:=⟨_,rfl⟩
 rw [hK] at HI HP
 obtain ⟨X,hX⟩ : ∃ X,Hid (itemL (s.drop p) = X):=⟨_,Lib.hid rfl⟩
 rw [hX.out] at HI ⊢
 clear hX hK
 have HD:=Lib.hid (fun w => tIsDigit_is s[p] false hd w)
 have HS:=Lib.hid (fun w => tIsStart_is s[p] false hl w)
 have k34 : ((s[p].toNat : Int) == 34) = false:=((byte_cases s[p] 34 34 rfl).resolve_left fun h => h34 h.1).2
 have k92 : ((s[p].toNat : Int) == 92) = false:=((byte_cases s[p] 92 92 rfl).resolve_left fun h => h92 h.1).2
 have k94 : ((s[p].toNat : Int) == 94) = false:=((byte_cases s[p] 94 94 rfl).resolve_left fun h => h94 h.1).2
 have HK : Hid ((K = 0 ∧ ((K : Int) != 0) = false) ∨ (K ≠ 0 ∧ ((K : Int) != 0) = true)):=Lib.hid (by
  by_cases h : K = 0
  ·left; subst h; exact ⟨rfl,rfl⟩
  ·right; exact ⟨h,by rw [bne_iff_ne]; omega⟩)
 clear hd hl h92 h94 h34
 go_enter Tryz.func32,Tryz.ntmps32
 go_wp2_with fail
 ((with_reducible refine (HD.out _).mono ?_))
 rintro e w2 ⟨rfl,rfl⟩
 go_wp2_with fail
 ((with_reducible refine (HS.out _).mono ?_))
 rintro e w2 ⟨rfl,rfl⟩
 clear HD HS
 go_wp2_with fail
 ((with_reducible refine (HP.out _).mono ?_))
 rintro e w2 ⟨rfl,rfl⟩
 rcases HK.out with ⟨k0,hk⟩ | ⟨k0,hk⟩
 ·obtain rfl : X = none:=by rw [HI.out,if_pos k0]
  clear HI k0
  go_wp2_with fail
  exact bodyPost_ret (v:=.tuple #[tokV K 0 [] 0,.int .i64 ((p : Int) + 1),.bool false]) (by simp [results,Tryz.results32,go_sem,tokV]) rfl ⟨⟨K,0,0,_,_,rfl,fun x h => by cases h⟩,(Below.refl _ _).alloc (Nat.le_refl _) _⟩
 ·obtain rfl : X = some (K,0,[],1):=by rw [HI.out,if_neg k0]
  clear HI k0
  go_wp2_with fail
  refine bodyPost_ret (v:=.tuple #[tokV K 0 [] 0,.int .i64 ((p : Int) + 1),.bool true]) (by simp [results,Tryz.results32,go_sem,tokV]) rfl ⟨⟨K,0,0,_,_,rfl,fun x h => ?_⟩,(Below.refl _ _).alloc (Nat.le_refl _) _⟩
  injection h with h
  subst h
  exact ⟨rfl,rfl,rfl,by simp⟩
theorem tItem_any (s : List UInt8) (p : Nat) (w : World) (hs : s.length ≤ 9223372036854770000) (hp : p < s.length) :
  Calls Tryz.prog 32 #[.string ⟨s.toArray⟩,.int .i64 p] w (ItemPost (itemL (s.drop p)) p w):=by
 cases hd : digitB s[p]
 ·cases hl : letterB s[p]
  ·by_cases h9 : s[p] = 92 ∨ s[p] = 94
   ·exact tItem_caret s p w hs hp hd hl h9
   ·by_cases h34 : s[p] = 34
    ·exact tItem_quote s p w hs hp h34
    ·exact tItem_punct s p w hs hp hd hl (fun h => h9 (.inl h)) (fun h => h9 (.inr h)) h34
  ·exact tItem_word s p w hs hp hd hl
 ·exact tItem_digit s p w hs hp hd
end
end Go.Proofs.YtoohondkpddmcaaGreatDoor
