/- Tkw Tkx Tlh -/
import Derived.Test.YtoohondkpddmcaaGreatDoorVan
set_option linter.unusedVariables false
set_option linter.unusedSimpArgs false
namespace Go.Proofs.YtoohondkpddmcaaGreatDoor
section
open Go.RowKit
end
section
open Go.RowKit
end
section
open Go.RowKit
theorem hexC_val : ∀ d : Nat,d < 16 → hexV (hexC d) = some d ∧ idB (hexC d) = true ∧ (d < 10 → digitB (hexC d) = true ∧ (hexC d).toNat = 48 + d):=by
 have : ∀ d : Fin 16,hexV (hexC d.val) = some d.val ∧ idB (hexC d.val) = true ∧ (d.val < 10 → digitB (hexC d.val) = true ∧ (hexC d.val).toNat = 48 + d.val):=by decide +kernel
 intro d h
 exact this ⟨d,h⟩
theorem hexF_app : ∀ (a b : List UInt8) (v : Nat),hexF (a ++ b) v = match hexF a v with
  | some x => hexF b x
  | none => none
 | [],b,v => rfl
 | c :: a,b,v => by
   rw [List.cons_append,hexF,hexF]
   cases hexV c with
   | none => rfl
   | some d => exact hexF_app a b _
theorem hexP_id : ∀ (n v : Nat),v ≤ n → ∀ c ∈ hexP v,idB c = true
 | n,v,h,c,hc => by
   by_cases h0 : v = 0
   ·subst h0; rw [hexP_zero] at hc; cases hc
   ·rw [hexP_pos h0,List.mem_append] at hc
    rcases hc with hc | hc
    ·exact hexP_id (n - 1) (v / 16) (by omega) c hc
    ·simp only [List.mem_cons,List.not_mem_nil,or_false] at hc
     subst hc
     exact (hexC_val _ (by omega)).2.1
termination_by n v => v
decreasing_by omega
theorem hexP_val : ∀ (v : Nat),hexF (hexP v) 0 = some v
 | v => by
   by_cases h0 : v = 0
   ·subst h0; rw [hexP_zero]; rfl
   ·rw [hexP_pos h0,hexF_app,hexP_val (v / 16)]
    simp only [hexF,(hexC_val (v % 16) (by omega)).1]
    congr 1
    omega
termination_by v => v
decreasing_by omega
theorem hexU_val (v : Nat) : hexF (hexU v) 0 = some v:=by
 unfold hexU
 rw [hexF_app,hexP_val]
 simp only [hexF,(hexC_val (v % 16) (by omega)).1]
 congr 1
 omega
theorem hexU_id (v : Nat) : ∀ c ∈ hexU v,idB c = true:=by
 intro c hc
 unfold hexU at hc
 rw [List.mem_append] at hc
 rcases hc with hc | hc
 ·exact hexP_id _ _ (Nat.le_refl _) c hc
 ·simp only [List.mem_cons,List.not_mem_nil,or_false] at hc
  subst hc
  exact (hexC_val _ (by omega)).2.1
theorem hexU_pos (v : Nat) : 1 ≤ (hexU v).length:=by unfold hexU; rw [List.length_append]; simp
theorem wordN_all : ∀ {s : List UInt8},(∀ c ∈ s,idB c = true) → wordN s = s.length
 | [],_ => rfl
 | c :: s,h => by
   have ih:=wordN_all (s:=s) (fun x hx => h x (by simp [hx]))
   unfold wordN at ih ⊢
   rw [List.takeWhile_cons,if_pos (h c (by simp)),List.length_cons,ih,List.length_cons]
theorem item_digit' {c : UInt8} {r : List UInt8} (hd : digitB c = true) (h : ∀ x ∈ c :: r,idB x = true) {v : Nat} (hv : intV (c :: r) = some v) : itemL (c :: r) = some (3,v,[],(c :: r).length):=by
 have e:=itemL_at (s:=c :: r) (p:=0) (by simp)
 simp only [List.drop_zero,List.getElem_cons_zero,Nat.zero_add,List.drop_succ_cons] at e
 rw [e,if_pos hd,wordN_all h,List.take_length,hv]
 rfl
def Fst (s : List UInt8) : Prop:=∃ c r,s = c :: r ∧ blankB c = false ∧ c ≠ 47
theorem idB_fst {c : UInt8} (h : idB c = true) : blankB c = false ∧ c ≠ 47:=by
 have : ∀ c : UInt8,idB c = true → blankB c = false ∧ c ≠ 47:=by
  intro c
  have : ∀ k : Fin 256,idB (UInt8.ofNat k.val) = true → blankB (UInt8.ofNat k.val) = false ∧ UInt8.ofNat k.val ≠ 47:=by decide +kernel
  have h2:=this ⟨c.toNat,c.toNat_lt⟩
  simpa using h2
 exact this c h
theorem fmtI_item (v : Nat) (hv : v ≤ 18446744073709551615) : itemL (fmtI v) = some (3,v,[],(fmtI v).length) ∧ Fst (fmtI v):=by
 unfold fmtI
 by_cases h10 : v < 10
 ·rw [if_pos h10]
  have e : hexU v = [hexC v]:=by unfold hexU; rw [show v / 16 = 0 by omega,hexP_zero,show v % 16 = v by omega]; rfl
  obtain ⟨h1,h2,h3⟩:=hexC_val v (by omega)
  obtain ⟨h4,h5⟩:=h3 h10
  rw [e]
  refine ⟨item_digit' h4 (by simp [h2]) ?_,_,_,rfl,(idB_fst h2).1,(idB_fst h2).2⟩
  have : ∀ d : Fin 10,intV [hexC d.val] = some d.val:=by decide +kernel
  exact this ⟨v,h10⟩
 ·rw [if_neg h10]
  refine ⟨item_digit' rfl ?_ ?_,_,_,rfl,rfl,by decide⟩
  ·intro c hc
   simp only [List.mem_cons] at hc
   rcases hc with rfl | rfl | hc
   ·rfl
   ·rfl
   ·exact hexU_id v c hc
  ·rw [intV,if_neg,hexU_val]
   rintro (h | h)
   ·have:=hexU_pos v; rw [h] at this; simp at this
   ·have:=hexU_len hv; omega
theorem hex2 (c : UInt8) : quoC c = [92,c] ∧ (c = 34 ∨ c = 92) ∨ (quoC c = [c] ∧ c ≠ 34 ∧ c ≠ 92 ∧ 32 ≤ c.toNat ∧ c.toNat ≤ 126) ∨ ∃ h l a b,quoC c = [92,120,h,l] ∧ hexV h = some a ∧ hexV l = some b ∧ UInt8.ofNat (a * 16 + b) = c:=by
 by_cases h1 : c = 34 ∨ c = 92
 ·left; exact ⟨by unfold quoC; rw [if_pos h1],h1⟩
 ·right
  by_cases h2 : 32 ≤ c.toNat ∧ c.toNat ≤ 126
  ·left; exact ⟨by unfold quoC; rw [if_neg h1,if_pos h2],fun h => h1 (.inl h),fun h => h1 (.inr h),h2⟩
  ·right
   have hc:=c.toNat_lt
   have hof : ∀ n : Nat,n = c.toNat → UInt8.ofNat n = c:=by rintro n rfl; simp
   by_cases h3 : c.toNat < 16
   ·refine ⟨48,hexC c.toNat,0,c.toNat,?_,rfl,(hexC_val _ h3).1,hof _ (by omega)⟩
    unfold quoC
    rw [if_neg h1,if_neg h2,if_pos h3]
    unfold hexU
    rw [show c.toNat / 16 = 0 by omega,hexP_zero,show c.toNat % 16 = c.toNat by omega]; rfl
   ·refine ⟨hexC (c.toNat / 16),hexC (c.toNat % 16),c.toNat / 16,c.toNat % 16,?_,(hexC_val _ (by omega)).1,(hexC_val _ (by omega)).1,hof _ (by omega)⟩
    unfold quoC
    rw [if_neg h1,if_neg h2,if_neg h3]
    unfold hexU
    rw [hexP_pos (by omega),show c.toNat / 16 / 16 = 0 by omega,hexP_zero,show c.toNat / 16 % 16 = c.toNat / 16 by omega]; rfl
theorem quoC_len4 (c : UInt8) : (quoC c).length ≤ 4:=by
 rcases hex2 c with ⟨h,_⟩ | ⟨h,_⟩ | ⟨_,_,_,_,h,_⟩ <;> rw [h] <;> simp
theorem text_quo : ∀ (v acc : List UInt8),acc.length + v.length ≤ 255 → ∀ y,textF (v.flatMap quoC ++ 34 :: y) acc = some (acc ++ v,y)
 | [],acc,h,y => by
   rw [List.flatMap_nil,List.nil_append,textF_quote,if_neg (by simp at h; omega),List.append_nil]
 | c :: v,acc,h,y => by
   rw [List.flatMap_cons,List.append_assoc]
   have hrec:=text_quo v (acc ++ [c]) (by rw [List.length_append]; simp at h ⊢; omega) y
   rw [List.append_assoc] at hrec
   rcases hex2 c with ⟨e,hc⟩ | ⟨e,h1,h2,h3⟩ | ⟨hh,l,a,b,e,ha,hb,hab⟩
   ·rw [e]
    rcases hc with rfl | rfl
    ·exact hrec
    ·exact hrec
   ·rw [e,List.cons_append,List.nil_append,textF_plain h1 h2,if_pos h3]
    exact hrec
   ·rw [e]
    have : textF ([92,120,hh,l] ++ (v.flatMap quoC ++ 34 :: y)) acc = textF (v.flatMap quoC ++ 34 :: y) (acc ++ [UInt8.ofNat (a * 16 + b)]):=by
     rw [show ([92,120,hh,l] ++ (v.flatMap quoC ++ 34 :: y) : List UInt8) = 92 :: (120 :: hh :: l :: (v.flatMap quoC ++ 34 :: y)) from rfl,textF_escGo,escL_hex,ha,hb]
     rfl
    rw [this,hab]
    exact hrec
theorem quo_item {v : List UInt8} (h : v.length ≤ 255) : itemL (quoL v) = some (4,0,v,(quoL v).length) ∧ Fst (quoL v):=by
 have e : quoL v = 34 :: (v.flatMap quoC ++ [34]):=by unfold quoL quoK; rw [List.take_length]; rfl
 have ht:=text_quo v [] (by simpa using h) []
 rw [List.nil_append] at ht
 rw [e]
 refine ⟨?_,_,_,rfl,rfl,by decide⟩
 have e2:=itemL_at (s:=34 :: (v.flatMap quoC ++ [34])) (p:=0) (by simp)
 simp only [List.drop_zero,List.getElem_cons_zero,Nat.zero_add,List.drop_succ_cons] at e2
 rw [e2,if_neg (by decide),if_neg (by decide),if_neg (by decide),if_pos trivial,ht]
 simp
theorem name_item {s : List UInt8} (h : nmB s = true) : itemL s = some (1,0,s,s.length) ∧ Fst s:=by
 unfold nmB at h
 rw [decide_eq_true_eq] at h
 cases s with
 | nil => cases h
 | cons c r =>
   have e:=itemL_at (s:=c :: r) (p:=0) (by simp)
   simp only [List.drop_zero,List.getElem_cons_zero,Nat.zero_add,List.drop_succ_cons] at e
   have hname : nameO (c :: r) = some (1,0,c :: r,(c :: r).length):=by unfold nameO; rw [h]; simp
   have hdig : digitB c = false:=by
    cases hd : digitB c with
    | false => rfl
    | true => rw [nameN_digit hd] at h; cases h
   cases hl : letterB c with
   | true =>
     have hc92 : c ≠ 92:=by rintro rfl; cases hl
     have hp0 : preN (c :: r) = 0:=by
      rw [preN_other hc92]
      unfold caretN
      rw [List.takeWhile_cons,if_neg (by rw [beq_iff_eq]; rintro rfl; cases hl)]; rfl
     have hlow : lowerB ((c :: r).take (wordN (c :: r))) = false:=by
      rw [nameN_segs (by rw [hp0]; simp) (by simp only [hp0,List.getElem_cons_zero]; exact hl),hp0,List.drop_zero] at h
      cases hsb : segB ((c :: r).take (wordN (c :: r))) with
      | false => rw [segsL_seg hsb] at h; cases h
      | true =>
        rw [segB_word hl] at hsb
        simp only [Bool.and_eq_true,Bool.not_eq_true'] at hsb
        exact hsb.2
     refine ⟨?_,c,r,rfl,idB_fst (by unfold idB; rw [hl] <;> rfl)⟩
     rw [e,if_neg (by rw [hdig]; decide),if_pos hl,if_neg (by rw [hlow]; decide),hname]
   | false =>
     have hc : c = 92 ∨ c = 94:=by
      refine Classical.byContradiction fun hno => ?_
      have h1 : c ≠ 92:=fun h => hno (.inl h)
      have h2 : c ≠ 94:=fun h => hno (.inr h)
      have hp0 : preN (c :: r) = 0:=by
       rw [preN_other h1]
       unfold caretN
       rw [List.takeWhile_cons,if_neg (by rw [beq_iff_eq]; exact h2)]; rfl
      rw [nameN_stop (by rw [hp0]; simp) (by simp only [hp0,List.getElem_cons_zero]; exact hl),hp0,if_neg (by decide)] at h
      cases h
     refine ⟨?_,c,r,rfl,?_⟩
     ·rw [e,if_neg (by rw [hdig]; decide),if_neg (by rw [hl]; decide),if_pos hc,hname]
     ·rcases hc with rfl | rfl <;> exact ⟨rfl,by decide⟩
theorem word_item {s : List UInt8} (h : kwB s = true) : itemL s = some (2,0,s,s.length) ∧ Fst s:=by
 cases s with
 | nil => cases h
 | cons c r =>
   unfold kwB at h
   simp only [Bool.and_eq_true,decide_eq_true_eq] at h
   obtain ⟨h32,hl,hw,hlow⟩:=h
   have hd : digitB c = false:=by
    cases hd : digitB c with
    | false => rfl
    | true => rw [digit_letter hd] at hl; cases hl
   refine ⟨?_,c,r,rfl,idB_fst (by unfold idB; rw [hl] <;> rfl)⟩
   have e:=itemL_at (s:=c :: r) (p:=0) (by simp)
   simp only [List.drop_zero,List.getElem_cons_zero,Nat.zero_add,List.drop_succ_cons] at e
   rw [e,if_neg (by rw [hd]; decide),if_pos hl,hw,List.take_length,if_pos hlow,if_pos h32]
theorem fmtT_item {t : TokI} (ht : validT t = true) (h0 : 0 ≤ t.num) (h1 : t.num ≤ 18446744073709551615) :
  ∃ k v str,itemL (fmtT t) = some (k,v,str,(fmtT t).length) ∧ Fst (fmtT t) ∧ ∀ p : Int,bareT ⟨k,v,str,p⟩ = bareT t:=by
 obtain ⟨k,n,s,p⟩:=t
 unfold validT at ht
 simp only at ht h0 h1
 unfold fmtT
 simp only
 by_cases e1 : k = 1
 ·subst e1
  obtain ⟨a,b⟩:=name_item (s:=s) (by simpa using ht)
  exact ⟨1,0,s,a,b,fun _ => rfl⟩
 rw [if_neg e1] at ht
 by_cases e2 : k = 2
 ·subst e2
  obtain ⟨a,b⟩:=word_item (s:=s) (by simpa using ht)
  exact ⟨2,0,s,a,b,fun _ => rfl⟩
 rw [if_neg e2] at ht
 rw [if_neg (by rintro (h | h); exact e1 h; exact e2 h)]
 by_cases e4 : k = 4
 ·subst e4
  rw [if_neg (by decide),if_pos rfl]
  obtain ⟨a,b⟩:=quo_item (v:=s) (by simpa using ht)
  exact ⟨4,0,s,a,b,fun _ => rfl⟩
 rw [if_neg e4,decide_eq_true_eq] at ht
 by_cases e3 : k = 3
 ·subst e3
  rw [if_pos rfl]
  obtain ⟨N,rfl⟩:=Int.eq_ofNat_of_zero_le h0
  rw [Int.toNat_natCast]
  obtain ⟨a,b⟩:=fmtI_item N (by omega)
  exact ⟨3,N,[],a,b,fun _ => rfl⟩
 rw [if_neg e3,if_neg e4]
 rcases (by omega : k = 5 ∨ k = 6 ∨ k = 7 ∨ k = 8 ∨ k = 9) with rfl | rfl | rfl | rfl | rfl
 ·exact ⟨5,0,[],rfl,⟨40,[],rfl,rfl,by decide⟩,fun _ => rfl⟩
 ·exact ⟨6,0,[],rfl,⟨41,[],rfl,rfl,by decide⟩,fun _ => rfl⟩
 ·exact ⟨7,0,[],rfl,⟨123,[],rfl,rfl,by decide⟩,fun _ => rfl⟩
 ·exact ⟨8,0,[],rfl,⟨125,[],rfl,rfl,by decide⟩,fun _ => rfl⟩
 ·exact ⟨9,0,[],rfl,⟨44,[],rfl,rfl,by decide⟩,fun _ => rfl⟩
end
end Go.Proofs.YtoohondkpddmcaaGreatDoor
