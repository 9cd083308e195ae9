/- Tkv Tkw Tkx -/
import Derived.Test.YtnicnfchkdmieaaGreatDoorXai
set_option linter.unusedVariables false
set_option linter.unusedSimpArgs false
namespace Go.Proofs.YtnicnfchkdmieaaGreatDoor
section
open Go.RowKit
def Brk (y : List UInt8) : Prop:=∀ c r,y = c :: r → idB c = false ∧ c ≠ 46 ∧ c ≠ 94
theorem Brk.nil : Brk []:=fun c r h => by cases h
theorem idB_letter {c : UInt8} (h : idB c = false) : letterB c = false:=by unfold idB at h; rw [Bool.or_eq_false_iff] at h; exact h.1
theorem tw_all {p : UInt8 → Bool} : ∀ {u : List UInt8},(u.takeWhile p).length = u.length → ∀ x,(u ++ x).takeWhile p = u ++ x.takeWhile p
 | [],_,x => rfl
 | c :: u,h,x => by
   rw [List.takeWhile_cons] at h
   split at h
   ·next hc =>
    rw [List.cons_append,List.takeWhile_cons,if_pos hc,tw_all (by simpa using h) x]
    rfl
   ·simp at h
theorem tw_part {p : UInt8 → Bool} : ∀ {u : List UInt8},(u.takeWhile p).length < u.length → ∀ x,(u ++ x).takeWhile p = u.takeWhile p
 | [],h,x => by simp at h
 | c :: u,h,x => by
   rw [List.takeWhile_cons] at h
   rw [List.cons_append,List.takeWhile_cons,List.takeWhile_cons]
   split at h
   ·next hc => rw [if_pos hc,if_pos hc,tw_part (by simpa using h) x]
   ·next hc => rw [if_neg hc,if_neg hc]
theorem tw_le {p : UInt8 → Bool} (u : List UInt8) : (u.takeWhile p).length ≤ u.length:=(List.takeWhile_sublist p).length_le
theorem tw_local {p : UInt8 → Bool} {u x y : List UInt8} (h : ((u ++ x).takeWhile p).length ≤ u.length) (hy : ∀ c r,y = c :: r → p c = false) : ((u ++ y).takeWhile p).length = ((u ++ x).takeWhile p).length:=by
 rcases Nat.lt_or_ge (u.takeWhile p).length u.length with h1 | h1
 ·rw [tw_part h1,tw_part h1]
 ·have h2 : (u.takeWhile p).length = u.length:=Nat.le_antisymm (tw_le u) h1
  rw [tw_all h2] at h ⊢
  rw [tw_all h2]
  have e : y.takeWhile p = []:=by
   cases y with
   | nil => rfl
   | cons c r => rw [List.takeWhile_cons,hy c r rfl]; rfl
  rw [e]
  rw [List.length_append] at h
  rw [List.length_append,List.length_append]
  simp only [List.length_nil]; omega
theorem wordN_local {u x y : List UInt8} (h : wordN (u ++ x) ≤ u.length) (hy : Brk y) : wordN (u ++ y) = wordN (u ++ x) :=
 tw_local h (fun c r e => (hy c r e).1)
theorem caretN_local {u x y : List UInt8} (h : caretN (u ++ x) ≤ u.length) (hy : Brk y) : caretN (u ++ y) = caretN (u ++ x) :=
 tw_local h (fun c r e => by rw [beq_eq_false_iff_ne]; exact (hy c r e).2.2)
theorem take_app {u x : List UInt8} {n : Nat} (h : n ≤ u.length) : (u ++ x).take n = u.take n:=List.take_append_of_le_length h
theorem drop_app {u x : List UInt8} {n : Nat} (h : n ≤ u.length) : (u ++ x).drop n = u.drop n ++ x:=List.drop_append_of_le_length h
theorem preN_other {c : UInt8} {r : List UInt8} (h : c ≠ 92) : preN (c :: r) = caretN (c :: r):=by
 unfold preN
 split
 ·next heq => injection heq with h1 _; exact absurd h1 h
 ·rfl
theorem preN_local {u x y : List UInt8} (hu : u ≠ []) (h : preN (u ++ x) ≤ u.length) (hy : Brk y) : preN (u ++ y) = preN (u ++ x):=by
 cases u with
 | nil => exact absurd rfl hu
 | cons c r =>
   by_cases hc : c = 92
   ·subst hc; rfl
   ·rw [List.cons_append,preN_other hc] at h
    rw [List.cons_append,List.cons_append,preN_other hc,preN_other hc]
    exact caretN_local (u:=c :: r) h hy
theorem segs_local : ∀ (n : Nat) (u x y : List UInt8) (m : Nat),u.length ≤ n → u ≠ [] → segsL (u ++ x) = some m → m ≤ u.length → Brk y → segsL (u ++ y) = some m
 | 0,u,x,y,m,hn,hu,_,_,_ => absurd (List.eq_nil_of_length_eq_zero (by omega)) hu
 | n + 1,[],x,y,m,hn,hu,_,_,_ => absurd rfl hu
 | n + 1,c :: r,x,y,m,hn,hu,h,hm,hy => by
   rw [List.cons_append] at h ⊢
   cases hl : letterB c with
   | false => rw [segsL_bad hl] at h; cases h
   | true =>
     cases hs : segB ((c :: (r ++ x)).take (wordN (c :: (r ++ x)))) with
     | false => rw [segsL_seg hs] at h; cases h
     | true =>
       have hwm : wordN (c :: (r ++ x)) ≤ m:=by
        by_cases hd : ∃ t,(c :: (r ++ x)).drop (wordN (c :: (r ++ x))) = 46 :: t
        ·obtain ⟨t,ht⟩:=hd
         rw [segsL_dot hl hs ht] at h
         cases hm' : segsL t with
         | none => rw [hm'] at h; cases h
         | some m' => rw [hm'] at h; simp only [Option.map_some,Option.some.injEq] at h; omega
        ·rw [segsL_end hl hs (fun t ht => hd ⟨t,ht⟩)] at h
         injection h with h; omega
       have hw : wordN (c :: (r ++ x)) ≤ (c :: r).length:=by omega
       have hw2 : wordN (c :: (r ++ y)) = wordN (c :: (r ++ x)):=wordN_local (u:=c :: r) hw hy
       have htk : ∀ z,(c :: (r ++ z)).take (wordN (c :: (r ++ x))) = (c :: r).take (wordN (c :: (r ++ x))):=fun z => take_app (u:=c :: r) hw
       have hdr : ∀ z,(c :: (r ++ z)).drop (wordN (c :: (r ++ x))) = (c :: r).drop (wordN (c :: (r ++ x))) ++ z:=fun z => drop_app (u:=c :: r) hw
       have hs2 : segB ((c :: (r ++ y)).take (wordN (c :: (r ++ y)))) = true:=by rw [hw2,htk y,← htk x]; exact hs
       by_cases hd : ∃ t,(c :: (r ++ x)).drop (wordN (c :: (r ++ x))) = 46 :: t
       ·obtain ⟨t,ht⟩:=hd
        rw [segsL_dot hl hs ht] at h
        cases hm' : segsL t with
        | none => rw [hm'] at h; cases h
        | some m' =>
          rw [hm'] at h
          simp only [Option.map_some,Option.some.injEq] at h
          have hm1 : 1 ≤ m':=segsN_pos _ _ _ hm'
          rw [hdr x] at ht
          cases hdd : (c :: r).drop (wordN (c :: (r ++ x))) with
          | nil =>
            have:=congrArg List.length hdd
            rw [List.length_drop,List.length_nil] at this
            omega
          | cons a t' =>
            rw [hdd,List.cons_append] at ht
            injection ht with h1 h2
            subst h1 h2
            have hlt : (c :: r).length - wordN (c :: (r ++ x)) = t'.length + 1:=by have:=congrArg List.length hdd; rw [List.length_drop] at this; exact this
            have hmt : m' ≤ t'.length:=by omega
            have hrec:=segs_local n t' x y m' (by simp only [List.length_cons] at hn hlt; omega) (by rintro rfl; simp at hmt; omega) hm' hmt hy
            rw [segsL_dot (t:=t' ++ y) hl hs2 (by rw [hw2,hdr y,hdd] <;> rfl),hrec,hw2]
            simp only [Option.map_some,Option.some.injEq]
            exact h
       ·rw [segsL_end hl hs (fun t ht => hd ⟨t,ht⟩)] at h
        rw [segsL_end hl hs2 ?_,hw2,h]
        intro t ht
        rw [hw2,hdr y] at ht
        cases hdd : (c :: r).drop (wordN (c :: (r ++ x))) with
        | nil =>
          rw [hdd] at ht
          exact (hy 46 t ht).2.1 rfl
        | cons a t' =>
          rw [hdd,List.cons_append] at ht
          injection ht with h1 _
          exact hd ⟨t' ++ x,by rw [hdr x,hdd,h1]; rfl⟩
theorem nameN_local {u x y : List UInt8} {n : Nat} (h : nameN (u ++ x) = some n) (hn : n ≤ u.length) (hy : Brk y) : nameN (u ++ y) = some n:=by
 have hn1:=nameN_pos h
 have hu : u ≠ []:=by rintro rfl; simp at hn; omega
 have hp : preN (u ++ x) ≤ n:=by
  unfold nameN at h
  split at h
  ·split at h
   ·injection h with h; omega
   ·cases h
  ·split at h
   ·cases hs : segsN _ _ with
    | none => rw [hs] at h; cases h
    | some k => rw [hs] at h; simp only [Option.map_some,Option.some.injEq] at h; omega
   ·split at h
    ·injection h with h; omega
    ·cases h
 have hpu : preN (u ++ x) ≤ u.length:=by omega
 have hp2:=preN_local hu hpu hy
 unfold nameN at h ⊢
 rw [hp2,drop_app hpu]
 rw [drop_app hpu] at h
 cases hd : u.drop (preN (u ++ x)) with
 | nil =>
   rw [hd,List.nil_append] at h
   rw [List.nil_append]
   have hlen:=congrArg List.length hd
   rw [List.length_drop,List.length_nil] at hlen
   have hpn : 0 < preN (u ++ x) ∧ preN (u ++ x) = n:=by
    constructor
    ·have:=List.length_pos_iff.2 hu; omega
    ·omega
   rw [hpn.2]
   cases y with
   | nil => simp only []; rw [if_pos (by omega)]
   | cons c r => simp only [idB_letter (hy c r rfl).1]; rw [if_neg (by decide),if_pos (by omega)]
 | cons c r =>
   rw [hd] at h
   simp only [List.cons_append] at h ⊢
   split at h
   ·next hl =>
    rw [if_pos hl]
    cases hs : segsL (c :: r ++ x) with
    | none =>
      rw [show segsN (c :: (r ++ x)).length (c :: (r ++ x)) = none from hs] at h; cases h
    | some k =>
      rw [show segsN (c :: (r ++ x)).length (c :: (r ++ x)) = some k from hs] at h
      simp only [Option.map_some,Option.some.injEq] at h
      have hlen:=congrArg List.length hd
      rw [List.length_drop] at hlen
      have:=segs_local _ (c :: r) x y k (Nat.le_refl _) (by simp) hs (by omega) hy
      rw [show segsN (c :: (r ++ y)).length (c :: (r ++ y)) = some k from this]
      simp only [Option.map_some,Option.some.injEq]
      exact h
   ·next hl =>
    rw [if_neg hl]
    exact h
theorem escL_local {t x y : List UInt8} {b : UInt8} {m : Nat} (h : escL (92 :: (t ++ x)) = some (b,m)) (hm : m ≤ t.length + 1) : escL (92 :: (t ++ y)) = some (b,m):=by
 unfold escL at h
 split at h
 ·next heq =>
  injection h with h; injection h with h1 h2; subst h1 h2
  cases t with
  | nil => simp at hm
  | cons a t => injection heq with _ heq; injection heq with h _; subst h; rfl
 ·next heq =>
  injection h with h; injection h with h1 h2; subst h1 h2
  cases t with
  | nil => simp at hm
  | cons a t => injection heq with _ heq; injection heq with h _; subst h; rfl
 ·next hh ll r' heq =>
  split at h
  ·next a b ha hb =>
   injection h with h; injection h with h1 h2; subst h1 h2
   match t,hm with
   | [],hm => simp at hm
   | [_],hm => simp at hm
   | [_,_],hm => simp at hm
   | p :: q :: z :: t,_ =>
     injection heq with _ heq
     injection heq with e1 heq
     injection heq with e2 heq
     injection heq with e3 heq
     subst e1 e2 e3
     rw [List.cons_append,List.cons_append,List.cons_append,escL_hex,ha,hb]; rfl
  ·cases h
 ·cases h
theorem text_local : ∀ (n : Nat) (u x y v val r : List UInt8),u.length ≤ n → textF (u ++ x) v = some (val,r) → x.length ≤ r.length → ∃ r',r = r' ++ x ∧ r'.length < u.length ∧ textF (u ++ y) v = some (val,r' ++ y)
 | n,[],x,y,v,val,r,hn,h,hx => by
   exfalso
   have:=textF_le _ _ _ _ _ (Nat.le_refl _) h
   rw [List.nil_append] at this
   omega
 | 0,c :: t,x,y,v,val,r,hn,h,hx => by simp at hn
 | n + 1,c :: t,x,y,v,val,r,hn,h,hx => by
   simp only [List.length_cons] at hn
   rw [List.cons_append] at h ⊢
   by_cases h1 : c = 34
   ·subst h1
    rw [textF_quote] at h ⊢
    split at h
    ·cases h
    ·next hv =>
     injection h with h
     injection h with h1 h2
     subst h1 h2
     exact ⟨t,rfl,by simp,by rw [if_neg hv]⟩
   ·by_cases h2 : c = 92
    ·subst h2
     rw [textF_escGo] at h ⊢
     cases he : escL (92 :: (t ++ x)) with
     | none => rw [he] at h; cases h
     | some bm =>
       obtain ⟨b,m⟩:=bm
       rw [he] at h
       unfold escGo at h
       simp only at h
       have hm:=escL_le he
       by_cases hmt : m ≤ t.length + 1
       ·rw [escL_local he hmt]
        unfold escGo
        simp only
        rw [← List.cons_append,drop_app (by simpa using hmt)] at h ⊢
        obtain ⟨r',e1,e2,e3⟩:=text_local n ((92 :: t).drop m) x y _ val r (by rw [List.length_drop,List.length_cons]; omega) h hx
        refine ⟨r',e1,?_,e3⟩
        rw [List.length_drop,List.length_cons] at e2
        simp only [List.length_cons]
        omega
       ·exfalso
        have:=textF_le _ _ _ _ _ (Nat.le_refl _) h
        rw [List.length_drop,List.length_cons,List.length_append] at this
        omega
    ·rw [textF_plain h1 h2] at h ⊢
     split at h
     ·next hc =>
      rw [if_pos hc]
      obtain ⟨r',e1,e2,e3⟩:=text_local n t x y _ val r (by omega) h hx
      exact ⟨r',e1,by simp; omega,e3⟩
     ·cases h
theorem item_local {u x y : List UInt8} {k v n : Nat} {t : List UInt8} (h : itemL (u ++ x) = some (k,v,t,n)) (hn : n ≤ u.length) (hy : Brk y) : itemL (u ++ y) = some (k,v,t,n):=by
 have hn1 : 1 ≤ n ∧ n ≤ (u ++ x).length:=itemL_le h
 cases u with
 | nil => simp at hn; omega
 | cons c r =>
   have e1:=itemL_at (s:=c :: r ++ x) (p:=0) (by simp)
   have e2:=itemL_at (s:=c :: r ++ y) (p:=0) (by simp)
   simp only [List.cons_append,List.drop_zero,List.getElem_cons_zero,Nat.zero_add,List.drop_succ_cons] at e1 e2
   rw [List.cons_append] at h ⊢
   rw [e1] at h
   rw [e2]
   clear e1 e2
   have hword : wordN (c :: (r ++ x)) ≤ (c :: r).length → wordN (c :: (r ++ y)) = wordN (c :: (r ++ x)):=fun hw => wordN_local (u:=c :: r) hw hy
   have htake : ∀ j,j ≤ (c :: r).length → (c :: (r ++ y)).take j = (c :: (r ++ x)).take j:=fun j hj => by
    rw [← List.cons_append,← List.cons_append,take_app hj,take_app hj]
   have hname : ∀ z : Nat × Nat × List UInt8 × Nat,nameO (c :: (r ++ x)) = some z → z.2.2.2 ≤ (c :: r).length → nameO (c :: (r ++ y)) = some z:=fun z hz hzl => by
    unfold nameO at hz ⊢
    cases hm : nameN (c :: (r ++ x)) with
    | none => rw [hm] at hz; cases hz
    | some m =>
      rw [hm] at hz
      simp only [Option.map_some,Option.some.injEq] at hz
      subst hz
      simp only at hzl
      rw [show nameN (c :: (r ++ y)) = some m from nameN_local (u:=c :: r) hm hzl hy]
      simp only [Option.map_some]
      rw [htake m hzl]
   split at h
   ·next hd =>
    rw [if_pos hd]
    cases hv : intV ((c :: (r ++ x)).take (wordN (c :: (r ++ x)))) with
    | none => rw [hv] at h; cases h
    | some w =>
      rw [hv] at h
      simp only [Option.map_some,Option.some.injEq,Prod.mk.injEq] at h
      obtain ⟨rfl,rfl,rfl,rfl⟩:=h
      rw [hword hn,htake _ hn,hv]
      rfl
   ·next hd =>
    rw [if_neg hd]
    split at h
    ·next hl =>
     rw [if_pos hl]
     split at h
     ·next hlo =>
      split at h
      ·next h32 =>
       simp only [Option.some.injEq,Prod.mk.injEq] at h
       obtain ⟨rfl,rfl,rfl,rfl⟩:=h
       rw [hword hn,htake _ hn,if_pos hlo,if_pos h32]
      ·cases h
     ·next hlo =>
      have hw : wordN (c :: (r ++ x)) ≤ (c :: r).length:=by
       unfold nameO at h
       cases hm : nameN (c :: (r ++ x)) with
       | none => rw [hm] at h; cases h
       | some m =>
         rw [hm] at h
         simp only [Option.map_some,Option.some.injEq,Prod.mk.injEq] at h
         obtain ⟨_,_,_,rfl⟩:=h
         have hc92 : c ≠ 92:=by rintro rfl; cases hl
         have hp0 : preN (c :: (r ++ x)) = 0:=by
          rw [preN_other hc92]
          unfold caretN
          rw [List.takeWhile_cons,if_neg (by rw [beq_iff_eq]; rintro rfl; cases hl)]; rfl
         rw [nameN_segs (by rw [hp0]; simp) (by simp only [hp0,List.getElem_cons_zero]; exact hl),hp0,List.drop_zero] at hm
         cases hs : segsL (c :: (r ++ x)) with
         | none => rw [hs] at hm; cases hm
         | some k =>
           rw [hs] at hm
           simp only [Option.map_some,Option.some.injEq,Nat.zero_add] at hm
           subst hm
           refine Nat.le_trans ?_ hn
           cases hsb : segB ((c :: (r ++ x)).take (wordN (c :: (r ++ x)))) with
           | false => rw [segsL_seg hsb] at hs; cases hs
           | true =>
             by_cases hd' : ∃ t,(c :: (r ++ x)).drop (wordN (c :: (r ++ x))) = 46 :: t
             ·obtain ⟨t,ht⟩:=hd'
              rw [segsL_dot hl hsb ht] at hs
              cases hk : segsL t with
              | none => rw [hk] at hs; cases hs
              | some k' => rw [hk] at hs; simp only [Option.map_some,Option.some.injEq] at hs; omega
             ·rw [segsL_end hl hsb (fun t ht => hd' ⟨t,ht⟩)] at hs
              injection hs with hs; omega
      rw [hword hw,htake _ hw,if_neg hlo]
      exact hname _ h hn
    ·next hl =>
     rw [if_neg hl]
     split at h
     ·next h9 =>
      rw [if_pos h9]
      exact hname _ h hn
     ·next h9 =>
      rw [if_neg h9]
      split at h
      ·next h34 =>
       rw [if_pos h34]
       cases ht : textF (r ++ x) [] with
       | none => rw [ht] at h; cases h
       | some q =>
         obtain ⟨val,rr⟩:=q
         rw [ht] at h
         simp only [Option.map_some,Option.some.injEq,Prod.mk.injEq] at h
         obtain ⟨rfl,rfl,rfl,rfl⟩:=h
         have hlt:=textF_le _ _ _ _ _ (Nat.le_refl _) ht
         simp only [List.length_cons,List.length_append] at hn hlt
         obtain ⟨r',e1,e2,e3⟩:=text_local _ r x y [] val rr (Nat.le_refl _) ht (by omega)
         rw [e3,e1]
         simp only [Option.map_some,Option.some.injEq,Prod.mk.injEq,true_and,List.length_cons,List.length_append]
         omega
      ·next h34 =>
       rw [if_neg h34]
       exact h
end
section
open Go.RowKit
end
section
open Go.RowKit
end
end Go.Proofs.YtnicnfchkdmieaaGreatDoor
