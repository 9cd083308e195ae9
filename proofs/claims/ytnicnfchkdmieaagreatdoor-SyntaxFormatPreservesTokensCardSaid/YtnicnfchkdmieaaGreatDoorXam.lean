/- Tlh Tli Fa Pv -/
import Derived.Test.YtnicnfchkdmieaaGreatDoorXak
import Derived.Test.YtnicnfchkdmieaaGreatDoorXal
import Derived.Test.YtnicnfchkdmieaaGreatDoorXaa
set_option linter.unusedVariables false
set_option linter.unusedSimpArgs false
namespace Go.Proofs.YtnicnfchkdmieaaGreatDoor
section
open Go.RowKit
theorem hexC_val : ∀ d : Nat,d < 16 → hexV (hexC d) = some d ∧ idB (hexC d) = true ∧ (d < 10 → digitB (hexC d) = true ∧ (hexC d).toNat = 48 + d):=by
 have : ∀ d : Fin 16,hexV (hexC d.val) = some d.val ∧ idB (hexC d.val) = true ∧ (d.val < 10 → digitB (hexC d.val) = true ∧ (hexC d.val).toNat = 48 + d.val):=by decide +kernel
 intro d h
 exact this ⟨d,h⟩
theorem hexF_app : ∀ (a b : List UInt8) (v : Nat),hexF (a ++ b) v = match hexF a v with
  | some x => hexF b x
  | none => none
 | [],b,v => rfl
 | c :: a,b,v => by
   rw [List.cons_append,hexF,hexF]
   cases hexV c with
   | none => rfl
   | some d => exact hexF_app a b _
theorem hexP_id : ∀ (n v : Nat),v ≤ n → ∀ c ∈ hexP v,idB c = true
 | n,v,h,c,hc => by
   by_cases h0 : v = 0
   ·subst h0; rw [hexP_zero] at hc; cases hc
   ·rw [hexP_pos h0,List.mem_append] at hc
    rcases hc with hc | hc
    ·exact hexP_id (n - 1) (v / 16) (by omega) c hc
    ·simp only [List.mem_cons,List.not_mem_nil,or_false] at hc
     subst hc
     exact (hexC_val _ (by omega)).2.1
termination_by n v => v
decreasing_by omega
theorem hexP_val : ∀ (v : Nat),hexF (hexP v) 0 = some v
 | v => by
   by_cases h0 : v = 0
   ·subst h0; rw [hexP_zero]; rfl
   ·rw [hexP_pos h0,hexF_app,hexP_val (v / 16)]
    simp only [hexF,(hexC_val (v % 16) (by omega)).1]
    congr 1
    omega
termination_by v => v
decreasing_by omega
theorem hexU_val (v : Nat) : hexF (hexU v) 0 = some v:=by
 unfold hexU
 rw [hexF_app,hexP_val]
 simp only [hexF,(hexC_val (v % 16) (by omega)).1]
 congr 1
 omega
theorem hexU_id (v : Nat) : ∀ c ∈ hexU v,idB c = true:=by
 intro c hc
 unfold hexU at hc
 rw [List.mem_append] at hc
 rcases hc with hc | hc
 ·exact hexP_id _ _ (Nat.le_refl _) c hc
 ·simp only [List.mem_cons,List.not_mem_nil,or_false] at hc
  subst hc
  exact (hexC_val _ (by omega)).2.1
theorem hexU_pos (v : Nat) : 1 ≤ (hexU v).length:=by unfold hexU; rw [List.length_append]; simp
theorem wordN_all : ∀ {s : List UInt8},(∀ c ∈ s,idB c = true) → wordN s = s.length
 | [],_ => rfl
 | c :: s,h => by
   have ih:=wordN_all (s:=s) (fun x hx => h x (by simp [hx]))
   unfold wordN at ih ⊢
   rw [List.takeWhile_cons,if_pos (h c (by simp)),List.length_cons,ih,List.length_cons]
theorem item_digit' {c : UInt8} {r : List UInt8} (hd : digitB c = true) (h : ∀ x ∈ c :: r,idB x = true) {v : Nat} (hv : intV (c :: r) = some v) : itemL (c :: r) = some (3,v,[],(c :: r).length):=by
 have e:=itemL_at (s:=c :: r) (p:=0) (by simp)
 simp only [List.drop_zero,List.getElem_cons_zero,Nat.zero_add,List.drop_succ_cons] at e
 rw [e,if_pos hd,wordN_all h,List.take_length,hv]
 rfl
def Fst (s : List UInt8) : Prop:=∃ c r,s = c :: r ∧ blankB c = false ∧ c ≠ 47
theorem idB_fst {c : UInt8} (h : idB c = true) : blankB c = false ∧ c ≠ 47:=by
 have : ∀ c : UInt8,idB c = true → blankB c = false ∧ c ≠ 47:=by
  intro c
  have : ∀ k : Fin 256,idB (UInt8.ofNat k.val) = true → blankB (UInt8.ofNat k.val) = false ∧ UInt8.ofNat k.val ≠ 47:=by decide +kernel
  have h2:=this ⟨c.toNat,c.toNat_lt⟩
  simpa using h2
 exact this c h
theorem fmtI_item (v : Nat) (hv : v ≤ 18446744073709551615) : itemL (fmtI v) = some (3,v,[],(fmtI v).length) ∧ Fst (fmtI v):=by
 unfold fmtI
 by_cases h10 : v < 10
 ·rw [if_pos h10]
  have e : hexU v = [hexC v]:=by unfold hexU; rw [show v / 16 = 0 by omega,hexP_zero,show v % 16 = v by omega]; rfl
  obtain ⟨h1,h2,h3⟩:=hexC_val v (by omega)
  obtain ⟨h4,h5⟩:=h3 h10
  rw [e]
  refine ⟨item_digit' h4 (by simp [h2]) ?_,_,_,rfl,(idB_fst h2).1,(idB_fst h2).2⟩
  have : ∀ d : Fin 10,intV [hexC d.val] = some d.val:=by decide +kernel
  exact this ⟨v,h10⟩
 ·rw [if_neg h10]
  refine ⟨item_digit' rfl ?_ ?_,_,_,rfl,rfl,by decide⟩
  ·intro c hc
   simp only [List.mem_cons] at hc
   rcases hc with rfl | rfl | hc
   ·rfl
   ·rfl
   ·exact hexU_id v c hc
  ·rw [intV,if_neg,hexU_val]
   rintro (h | h)
   ·have:=hexU_pos v; rw [h] at this; simp at this
   ·have:=hexU_len hv; omega
theorem hex2 (c : UInt8) : quoC c = [92,c] ∧ (c = 34 ∨ c = 92) ∨ (quoC c = [c] ∧ c ≠ 34 ∧ c ≠ 92 ∧ 32 ≤ c.toNat ∧ c.toNat ≤ 126) ∨ ∃ h l a b,quoC c = [92,120,h,l] ∧ hexV h = some a ∧ hexV l = some b ∧ UInt8.ofNat (a * 16 + b) = c:=by
 by_cases h1 : c = 34 ∨ c = 92
 ·left; exact ⟨by unfold quoC; rw [if_pos h1],h1⟩
 ·right
  by_cases h2 : 32 ≤ c.toNat ∧ c.toNat ≤ 126
  ·left; exact ⟨by unfold quoC; rw [if_neg h1,if_pos h2],fun h => h1 (.inl h),fun h => h1 (.inr h),h2⟩
  ·right
   have hc:=c.toNat_lt
   have hof : ∀ n : Nat,n = c.toNat → UInt8.ofNat n = c:=by rintro n rfl; simp
   by_cases h3 : c.toNat < 16
   ·refine ⟨48,hexC c.toNat,0,c.toNat,?_,rfl,(hexC_val _ h3).1,hof _ (by omega)⟩
    unfold quoC
    rw [if_neg h1,if_neg h2,if_pos h3]
    unfold hexU
    rw [show c.toNat / 16 = 0 by omega,hexP_zero,show c.toNat % 16 = c.toNat by omega]; rfl
   ·refine ⟨hexC (c.toNat / 16),hexC (c.toNat % 16),c.toNat / 16,c.toNat % 16,?_,(hexC_val _ (by omega)).1,(hexC_val _ (by omega)).1,hof _ (by omega)⟩
    unfold quoC
    rw [if_neg h1,if_neg h2,if_neg h3]
    unfold hexU
    rw [hexP_pos (by omega),show c.toNat / 16 / 16 = 0 by omega,hexP_zero,show c.toNat / 16 % 16 = c.toNat / 16 by omega]; rfl
theorem quoC_len4 (c : UInt8) : (quoC c).length ≤ 4:=by
 rcases hex2 c with ⟨h,_⟩ | ⟨h,_⟩ | ⟨_,_,_,_,h,_⟩ <;> rw [h] <;> simp
theorem text_quo : ∀ (v acc : List UInt8),acc.length + v.length ≤ 255 → ∀ y,textF (v.flatMap quoC ++ 34 :: y) acc = some (acc ++ v,y)
 | [],acc,h,y => by
   rw [List.flatMap_nil,List.nil_append,textF_quote,if_neg (by simp at h; omega),List.append_nil]
 | c :: v,acc,h,y => by
   rw [List.flatMap_cons,List.append_assoc]
   have hrec:=text_quo v (acc ++ [c]) (by rw [List.length_append]; simp at h ⊢; omega) y
   rw [List.append_assoc] at hrec
   rcases hex2 c with ⟨e,hc⟩ | ⟨e,h1,h2,h3⟩ | ⟨hh,l,a,b,e,ha,hb,hab⟩
   ·rw [e]
    rcases hc with rfl | rfl
    ·exact hrec
    ·exact hrec
   ·rw [e,List.cons_append,List.nil_append,textF_plain h1 h2,if_pos h3]
    exact hrec
   ·rw [e]
    have : textF ([92,120,hh,l] ++ (v.flatMap quoC ++ 34 :: y)) acc = textF (v.flatMap quoC ++ 34 :: y) (acc ++ [UInt8.ofNat (a * 16 + b)]):=by
     rw [show ([92,120,hh,l] ++ (v.flatMap quoC ++ 34 :: y) : List UInt8) = 92 :: (120 :: hh :: l :: (v.flatMap quoC ++ 34 :: y)) from rfl,textF_escGo,escL_hex,ha,hb]
     rfl
    rw [this,hab]
    exact hrec
theorem quo_item {v : List UInt8} (h : v.length ≤ 255) : itemL (quoL v) = some (4,0,v,(quoL v).length) ∧ Fst (quoL v):=by
 have e : quoL v = 34 :: (v.flatMap quoC ++ [34]):=by unfold quoL quoK; rw [List.take_length]; rfl
 have ht:=text_quo v [] (by simpa using h) []
 rw [List.nil_append] at ht
 rw [e]
 refine ⟨?_,_,_,rfl,rfl,by decide⟩
 have e2:=itemL_at (s:=34 :: (v.flatMap quoC ++ [34])) (p:=0) (by simp)
 simp only [List.drop_zero,List.getElem_cons_zero,Nat.zero_add,List.drop_succ_cons] at e2
 rw [e2,if_neg (by decide),if_neg (by decide),if_neg (by decide),if_pos trivial,ht]
 simp
theorem name_item {s : List UInt8} (h : nmB s = true) : itemL s = some (1,0,s,s.length) ∧ Fst s:=by
 unfold nmB at h
 rw [decide_eq_true_eq] at h
 cases s with
 | nil => cases h
 | cons c r =>
   have e:=itemL_at (s:=c :: r) (p:=0) (by simp)
   simp only [List.drop_zero,List.getElem_cons_zero,Nat.zero_add,List.drop_succ_cons] at e
   have hname : nameO (c :: r) = some (1,0,c :: r,(c :: r).length):=by unfold nameO; rw [h]; simp
   have hdig : digitB c = false:=by
    cases hd : digitB c with
    | false => rfl
    | true => rw [nameN_digit hd] at h; cases h
   cases hl : letterB c with
   | true =>
     have hc92 : c ≠ 92:=by rintro rfl; cases hl
     have hp0 : preN (c :: r) = 0:=by
      rw [preN_other hc92]
      unfold caretN
      rw [List.takeWhile_cons,if_neg (by rw [beq_iff_eq]; rintro rfl; cases hl)]; rfl
     have hlow : lowerB ((c :: r).take (wordN (c :: r))) = false:=by
      rw [nameN_segs (by rw [hp0]; simp) (by simp only [hp0,List.getElem_cons_zero]; exact hl),hp0,List.drop_zero] at h
      cases hsb : segB ((c :: r).take (wordN (c :: r))) with
      | false => rw [segsL_seg hsb] at h; cases h
      | true =>
        rw [segB_word hl] at hsb
        simp only [Bool.and_eq_true,Bool.not_eq_true'] at hsb
        exact hsb.2
     refine ⟨?_,c,r,rfl,idB_fst (by unfold idB; rw [hl] <;> rfl)⟩
     rw [e,if_neg (by rw [hdig]; decide),if_pos hl,if_neg (by rw [hlow]; decide),hname]
   | false =>
     have hc : c = 92 ∨ c = 94:=by
      refine Classical.byContradiction fun hno => ?_
      have h1 : c ≠ 92:=fun h => hno (.inl h)
      have h2 : c ≠ 94:=fun h => hno (.inr h)
      have hp0 : preN (c :: r) = 0:=by
       rw [preN_other h1]
       unfold caretN
       rw [List.takeWhile_cons,if_neg (by rw [beq_iff_eq]; exact h2)]; rfl
      rw [nameN_stop (by rw [hp0]; simp) (by simp only [hp0,List.getElem_cons_zero]; exact hl),hp0,if_neg (by decide)] at h
      cases h
     refine ⟨?_,c,r,rfl,?_⟩
     ·rw [e,if_neg (by rw [hdig]; decide),if_neg (by rw [hl]; decide),if_pos hc,hname]
     ·rcases hc with rfl | rfl <;> exact ⟨rfl,by decide⟩
theorem word_item {s : List UInt8} (h : kwB s = true) : itemL s = some (2,0,s,s.length) ∧ Fst s:=by
 cases s with
 | nil => cases h
 | cons c r =>
   unfold kwB at h
   simp only [Bool.and_eq_true,decide_eq_true_eq] at h
   obtain ⟨h32,hl,hw,hlow⟩:=h
   have hd : digitB c = false:=by
    cases hd : digitB c with
    | false => rfl
    | true => rw [digit_letter hd] at hl; cases hl
   refine ⟨?_,c,r,rfl,idB_fst (by unfold idB; rw [hl] <;> rfl)⟩
   have e:=itemL_at (s:=c :: r) (p:=0) (by simp)
   simp only [List.drop_zero,List.getElem_cons_zero,Nat.zero_add,List.drop_succ_cons] at e
   rw [e,if_neg (by rw [hd]; decide),if_pos hl,hw,List.take_length,if_pos hlow,if_pos h32]
theorem fmtT_item {t : TokI} (ht : validT t = true) (h0 : 0 ≤ t.num) (h1 : t.num ≤ 18446744073709551615) :
  ∃ k v str,itemL (fmtT t) = some (k,v,str,(fmtT t).length) ∧ Fst (fmtT t) ∧ ∀ p : Int,bareT ⟨k,v,str,p⟩ = bareT t:=by
 obtain ⟨k,n,s,p⟩:=t
 unfold validT at ht
 simp only at ht h0 h1
 unfold fmtT
 simp only
 by_cases e1 : k = 1
 ·subst e1
  obtain ⟨a,b⟩:=name_item (s:=s) (by simpa using ht)
  exact ⟨1,0,s,a,b,fun _ => rfl⟩
 rw [if_neg e1] at ht
 by_cases e2 : k = 2
 ·subst e2
  obtain ⟨a,b⟩:=word_item (s:=s) (by simpa using ht)
  exact ⟨2,0,s,a,b,fun _ => rfl⟩
 rw [if_neg e2] at ht
 rw [if_neg (by rintro (h | h); exact e1 h; exact e2 h)]
 by_cases e4 : k = 4
 ·subst e4
  rw [if_neg (by decide),if_pos rfl]
  obtain ⟨a,b⟩:=quo_item (v:=s) (by simpa using ht)
  exact ⟨4,0,s,a,b,fun _ => rfl⟩
 rw [if_neg e4,decide_eq_true_eq] at ht
 by_cases e3 : k = 3
 ·subst e3
  rw [if_pos rfl]
  obtain ⟨N,rfl⟩:=Int.eq_ofNat_of_zero_le h0
  rw [Int.toNat_natCast]
  obtain ⟨a,b⟩:=fmtI_item N (by omega)
  exact ⟨3,N,[],a,b,fun _ => rfl⟩
 rw [if_neg e3,if_neg e4]
 rcases (by omega : k = 5 ∨ k = 6 ∨ k = 7 ∨ k = 8 ∨ k = 9) with rfl | rfl | rfl | rfl | rfl
 ·exact ⟨5,0,[],rfl,⟨40,[],rfl,rfl,by decide⟩,fun _ => rfl⟩
 ·exact ⟨6,0,[],rfl,⟨41,[],rfl,rfl,by decide⟩,fun _ => rfl⟩
 ·exact ⟨7,0,[],rfl,⟨123,[],rfl,rfl,by decide⟩,fun _ => rfl⟩
 ·exact ⟨8,0,[],rfl,⟨125,[],rfl,rfl,by decide⟩,fun _ => rfl⟩
 ·exact ⟨9,0,[],rfl,⟨44,[],rfl,rfl,by decide⟩,fun _ => rfl⟩
end
section
open Go.RowKit
theorem brk_cons {c : UInt8} {r : List UInt8} (h : idB c = false) (h1 : c ≠ 46) (h2 : c ≠ 94) : Brk (c :: r):=fun d t e => by injection e with e _; subst e; exact ⟨h,h1,h2⟩
def itT (t : TokI) : Nat × Nat × List UInt8 × Nat:=(itemL (fmtT t)).getD (0,0,[],0)
def tokOf (t : TokI) (p : Nat) : Tok:=⟨(itT t).1,(itT t).2.1,(itT t).2.2.1,p⟩
theorem itT_is {t : TokI} (ht : validT t = true) (h0 : 0 ≤ t.num) (h1 : t.num ≤ 18446744073709551615) : itemL (fmtT t) = some ((itT t).1,(itT t).2.1,(itT t).2.2.1,(fmtT t).length) ∧ Fst (fmtT t) ∧ ∀ p : Nat,bareT (tokOf t p).toI = bareT t:=by
 obtain ⟨k,v,str,h,hf,hb⟩:=fmtT_item ht h0 h1
 have e : itT t = (k,v,str,(fmtT t).length):=by unfold itT; rw [h]; rfl
 rw [e]
 refine ⟨h,hf,fun p => ?_⟩
 unfold tokOf Tok.toI
 rw [e]
 exact hb p
theorem fst_skip {s : List UInt8} (h : Fst s) (y : List UInt8) : skipL (s ++ y) = (s ++ y,true):=by
 obtain ⟨c,r,rfl,h1,h2⟩:=h
 exact skipL_stop h1 (fun e => absurd e h2)
theorem scanG_same {s : List UInt8} {p p' : Nat} {acc : List Tok} (h : skipL (s.drop p) = skipL (s.drop p')) : scanG s p acc = scanG s p' acc:=by
 unfold scanG
 rw [scanF,scanF,h]
theorem drop_more {s x y : List UInt8} {p : Nat} (h : s.drop p = x ++ y) : s.drop (p + x.length) = y:=by
 rw [← List.drop_drop,h,List.drop_left]
theorem fmtT_len {t : TokI} (ht : validT t = true) (h1 : t.num ≤ 18446744073709551615) (hs : t.str.length ≤ 255) : (fmtT t).length ≤ 1022:=by
 unfold fmtT
 split
 ·omega
 ·split
  ·have:=fmtI_len (v:=t.num.toNat) (by omega); omega
  ·split
   ·have : ∀ k : Nat,k ≤ t.str.length → (quoK t.str k).length ≤ 4 * k + 1:=by
     intro k
     induction k with
     | zero => intro _; simp [quoK]
     | succ k ih =>
       intro h
       rw [quoK_succ (by omega),List.length_append]
       have:=ih (by omega)
       have:=quoC_len4 t.str[k]
       omega
    have:=this t.str.length (Nat.le_refl _)
    unfold quoL
    rw [List.length_append]
    simp; omega
   ·unfold punC
    repeat' split
    all_goals simp
end
section
open Go.RowKit
abbrev PT:=List (List UInt8 × TokI)
def textP (L : PT) : List UInt8:=L.flatMap fun x => x.1 ++ fmtT x.2
def toksP : Nat → PT → List Tok
 | _,[] => []
 | p,x :: r => tokOf x.2 (p + x.1.length) :: toksP (p + x.1.length + (fmtT x.2).length) r
def OkT (t : TokI) : Prop:=validT t = true ∧ 0 ≤ t.num ∧ t.num ≤ 18446744073709551615
def Blank (s : List UInt8) : Prop:=∀ D,skipL (s ++ D) = skipL D
def isP (t : TokI) : Prop:=5 ≤ t.kind ∧ t.kind ≤ 9
theorem textP_nil : textP [] = []:=rfl
theorem textP_cons (x : List UInt8 × TokI) (r : PT) : textP (x :: r) = x.1 ++ (fmtT x.2 ++ textP r):=by
 unfold textP; rw [List.flatMap_cons,List.append_assoc]
theorem textP_app (a b : PT) : textP (a ++ b) = textP a ++ textP b:=by unfold textP; rw [List.flatMap_append]
def GoodP (tail : List UInt8) : PT → Prop
 | [] => skipL tail = ([],true)
 | x :: r => Blank x.1 ∧ OkT x.2 ∧ (isP x.2 ∨ Brk (textP r ++ tail)) ∧ GoodP tail r
theorem punct_item {t : TokI} (h : isP t) (y : List UInt8) : itemL (fmtT t ++ y) = some ((itT t).1,(itT t).2.1,(itT t).2.2.1,(fmtT t).length):=by
 obtain ⟨k,n,s,p⟩:=t
 obtain ⟨h1,h2⟩:=h
 simp only at h1 h2
 rcases (by omega : k = 5 ∨ k = 6 ∨ k = 7 ∨ k = 8 ∨ k = 9) with rfl | rfl | rfl | rfl | rfl <;> rfl
theorem scan_pieces (s tail : List UInt8) : ∀ (L : PT) (p : Nat) (acc : List Tok),GoodP tail L → s.drop p = textP L ++ tail → p ≤ s.length → scanG s p acc = (acc ++ toksP p L,0,0)
 | [],p,acc,hg,hd,hp => by
   have hs : skipL (s.drop p) = ([],true):=by rw [hd,textP_nil,List.nil_append]; exact hg
   rw [scanG_done (by rw [hs]) (by rw [hs]),toksP,List.append_nil]
 | x :: r,p,acc,hg,hd,hp => by
   obtain ⟨hbl,⟨h1,h2,h3⟩,hbr,hgr⟩:=hg
   obtain ⟨hi,hf,hb⟩:=itT_is h1 h2 h3
   have hd' : s.drop p = x.1 ++ (fmtT x.2 ++ (textP r ++ tail)):=by rw [hd,textP_cons]; simp only [List.append_assoc]
   have hlen:=congrArg List.length hd'
   rw [List.length_drop,List.length_append,List.length_append] at hlen
   have e1:=drop_more hd'
   have hfl : 1 ≤ (fmtT x.2).length:=by obtain ⟨c,t,e,_⟩:=hf; rw [e]; simp
   rw [scanG_same (p':=p + x.1.length) (by rw [e1,hd']; exact hbl _)]
   have hsk : skipL (s.drop (p + x.1.length)) = (s.drop (p + x.1.length),true):=by rw [e1]; exact fst_skip hf _
   have hit : itemL (s.drop (p + x.1.length)) = some ((itT x.2).1,(itT x.2).2.1,(itT x.2).2.2.1,(fmtT x.2).length):=by
    rw [e1]
    rcases hbr with hpn | hbr
    ·exact punct_item hpn _
    ·exact item_local (x:=[]) (by rw [List.append_nil]; exact hi) (Nat.le_refl _) hbr
   rw [scanG_next (q:=p + x.1.length) (Nat.le_refl _) (by rw [hsk,List.length_drop]; omega) (by rw [hsk]) (by rw [hsk]) (by omega) hit]
   have e2:=drop_more e1
   rw [scan_pieces s tail r (p + x.1.length + (fmtT x.2).length) _ hgr e2 (by omega),toksP,List.append_assoc]
   rfl
theorem toksP_bare : ∀ (L : PT) (p : Nat),(∀ x ∈ L,OkT x.2) → (toksP p L).map (fun t => bareT t.toI) = L.map (fun x => bareT x.2)
 | [],p,_ => rfl
 | x :: r,p,hg => by
   obtain ⟨h1,h2,h3⟩:=hg x (by simp)
   rw [toksP,List.map_cons,List.map_cons,(itT_is h1 h2 h3).2.2,toksP_bare r _ (fun y hy => hg y (by simp [hy]))]
theorem GoodP.ok {tail : List UInt8} : ∀ {L : PT},GoodP tail L → ∀ x ∈ L,OkT x.2
 | [],_,x,h => by cases h
 | y :: r,hg,x,h => by
   rcases List.mem_cons.1 h with rfl | h
   ·exact hg.2.1
   ·exact GoodP.ok hg.2.2.2 x h
def Chn : Prop → PT → Prop
 | _,[] => True
 | pv,x :: r => (pv ∨ x.1 ≠ [] ∨ isP x.2) ∧ (∀ c ∈ x.1,blankB c = true) ∧ OkT x.2 ∧ Chn (isP x.2) r
theorem blank_all : ∀ {s : List UInt8},(∀ c ∈ s,blankB c = true) → Blank s
 | [],_,D => rfl
 | c :: s,h,D => by
   rw [List.cons_append,skipL_blank (h c (by simp))]
   exact blank_all (fun x hx => h x (by simp [hx])) D
theorem brk_blank {c : UInt8} {r : List UInt8} (h : blankB c = true) : Brk (c :: r):=by
 have : ∀ k : Fin 256,blankB (UInt8.ofNat k.val) = true → idB (UInt8.ofNat k.val) = false ∧ UInt8.ofNat k.val ≠ 46 ∧ UInt8.ofNat k.val ≠ 94:=by decide +kernel
 have h2:=this ⟨c.toNat,c.toNat_lt⟩
 rw [UInt8.ofNat_toNat] at h2
 obtain ⟨a,b,d⟩:=h2 h
 exact brk_cons a b d
theorem brk_punct {t : TokI} (h : isP t) (y : List UInt8) : Brk (fmtT t ++ y):=by
 obtain ⟨k,n,s,p⟩:=t
 obtain ⟨h1,h2⟩:=h
 simp only at h1 h2
 rcases (by omega : k = 5 ∨ k = 6 ∨ k = 7 ∨ k = 8 ∨ k = 9) with rfl | rfl | rfl | rfl | rfl <;> exact brk_cons rfl (by decide) (by decide)
theorem chn_brk {tail : List UInt8} (ht : Brk tail) : ∀ {L : PT},Chn False L → Brk (textP L ++ tail)
 | [],_ => by rw [textP_nil,List.nil_append]; exact ht
 | x :: r,h => by
   obtain ⟨h1,h2,h3,h4⟩:=h
   rw [textP_cons,List.append_assoc]
   obtain ⟨s,t⟩:=x
   cases s with
   | cons c q => exact brk_blank (h2 c (by simp))
   | nil =>
     rcases h1 with h1 | h1 | h1
     ·exact absurd h1 (by simp)
     ·exact absurd rfl h1
     ·rw [List.nil_append,List.append_assoc]; exact brk_punct h1 _
theorem Chn.weak {a b : Prop} (hab : a → b) {L : PT} (h : Chn a L) : Chn b L:=by
 cases L with
 | nil => trivial
 | cons x r =>
   obtain ⟨h1,h2⟩:=h
   exact ⟨h1.imp hab id,h2⟩
theorem chn_good {tail : List UInt8} (ht : Brk tail) (hs : skipL tail = ([],true)) : ∀ {L : PT} {pv : Prop},Chn pv L → GoodP tail L
 | [],_,_ => hs
 | x :: r,pv,h => by
   obtain ⟨h1,h2,h3,h4⟩:=h
   refine ⟨blank_all h2,h3,?_,chn_good ht hs h4⟩
   by_cases hp : isP x.2
   ·exact .inl hp
   ·exact .inr (chn_brk ht (h4.weak (fun h => absurd h hp)))
theorem chn_app : ∀ {A B : PT} {pv : Prop},Chn pv A → A ≠ [] → Chn False B → Chn pv (A ++ B)
 | [],B,pv,_,h,_ => absurd rfl h
 | [x],B,pv,h,_,hB => by
   obtain ⟨h1,h2,h3,_⟩:=h
   exact ⟨h1,h2,h3,hB.weak (fun h => h.elim)⟩
 | x :: y :: r,B,pv,h,_,hB => by
   obtain ⟨h1,h2,h3,h4⟩:=h
   exact ⟨h1,h2,h3,chn_app (A:=y :: r) h4 (by simp) hB⟩
theorem chn_scan {L : PT} {tail : List UInt8} (h : Chn True L) (ht : Brk tail) (hs : skipL tail = ([],true)) (hl : (textP L ++ tail).length ≤ 65536) :
  scanL (textP L ++ tail) = (toksP 0 L,0,0):=by
 rw [scanL_go (by omega),scan_pieces _ tail L 0 [] (chn_good ht hs h) (by rw [List.drop_zero]) (by omega)]
 rfl
end
section
open Go.RowKit
attribute [local go_sem] ByteArray.mk_append_mk bs_get bs_cut bs_end
def strV (l : List UInt8) : Value:=.string ⟨l.toArray⟩
def StrsAt (w : World) (v : Value) (l : List (List UInt8)) : Prop :=
 ∃ (a : Option Addr) (cap : Nat),v = .slice a l.length cap ∧ l.length ≤ 9223372036854775000 ∧ ((a = none → cap = 0) ∧ l.length ≤ cap) ∧ (l ≠ [] → ∃ b off,a = some ⟨b,off,none⟩ ∧ ∀ k (h : k < l.length),w.cell? ⟨b,off + k,none⟩ = some (strV l[k]))
theorem StrsAt.of_own {w : World} {B : Nat} {v : Value} {l : List (List UInt8)} (h : w.ownsRow B 9 1 v l.length (l.map strV)) (hl : l.length ≤ 9223372036854775000) : StrsAt w v l:=by
 obtain ⟨h1,h2⟩:=h
 rcases h2 with ⟨hv,h0⟩ | ⟨g,cap,cur,hv,hb,hg,hn,hm,hs,ht⟩
 ·obtain rfl : l = []:=List.eq_nil_of_length_eq_zero h0
  exact ⟨none,0,hv,hl,⟨fun _ => rfl,by simp⟩,fun h => absurd rfl h⟩
 ·refine ⟨_,cap,hv,hl,⟨(fun h => by cases h),by omega⟩,fun _ => ⟨g,0,rfl,fun k hk => ?_⟩⟩
  rw [cell_of_row w g (0 + k) cur 9 (0,0) hg]
  have h3 : (l.map strV)[k]? = some (strV l[k]):=by simp [hk]
  rw [← ht,List.getElem?_take,if_pos (by omega)] at h3
  simpa using h3
theorem StrsAt.below' {w w' : World} {B : Nat} {v : Value} {l : List (List UInt8)} (h : StrsAt w v l) (hb : Below B w w') (hB : ∀ a n c,v = .slice (some a) n c → l ≠ [] → a.block < B) : StrsAt w' v l:=by
 obtain ⟨a,cap,hv,hl,hz,hc⟩:=h
 refine ⟨a,cap,hv,hl,hz,fun hn => ?_⟩
 obtain ⟨b,off,ha,hk⟩:=hc hn
 refine ⟨b,off,ha,fun k h => ?_⟩
 have:=hB ⟨b,off,none⟩ _ _ (by rw [hv,ha]) hn
 rw [hb.cell (p:=⟨b,off + k,none⟩) this]
 exact hk k h
theorem StrsAt.lt {w : World} {v : Value} {l : List (List UInt8)} (h : StrsAt w v l) : ∀ a n c,v = .slice (some a) n c → l ≠ [] → a.block < w.heap.size:=by
 intro a n c hv hn
 obtain ⟨a',cap,hv',hl,_,hc⟩:=h
 obtain ⟨b,off,ha,hk⟩:=hc hn
 rw [hv',ha] at hv
 cases hv
 have hp : 0 < l.length:=List.length_pos_iff.2 hn
 exact World.block_lt_of_cell? w ⟨b,off + 0,none⟩ (hk 0 hp)
theorem StrsAt.below {w w' : World} {v : Value} {l : List (List UInt8)} (h : StrsAt w v l) (hb : Below w.heap.size w w') : StrsAt w' v l:=h.below' hb h.lt
theorem StrsAt.nil (w : World) : StrsAt w (.slice none 0 0) []:=⟨none,0,rfl,by simp,⟨fun _ => rfl,by simp⟩,fun h => absurd rfl h⟩
theorem StrsAt.form {w : World} {v : Value} {l : List (List UInt8)} (h : StrsAt w v l) : ∃ a c,v = .slice a l.length c ∧ l.length ≤ c:=by
 obtain ⟨a,c,hv,_,hz,_⟩:=h
 exact ⟨a,c,hv,hz.2⟩
def PathV (w : World) (p : Value) (root : Bool) (up : Int) (l : List (List UInt8)) : Prop:=∃ v,p = .agg #[.bool root,.int .i64 up,v] ∧ StrsAt w v l
theorem PathV.mk {w : World} {v : Value} {root : Bool} {up : Int} {l : List (List UInt8)} (h : StrsAt w v l) : PathV w (.agg #[.bool root,.int .i64 up,v]) root up l:=⟨_,rfl,h⟩
theorem PathV.below {w w' : World} {p : Value} {root : Bool} {up : Int} {l : List (List UInt8)} (h : PathV w p root up l) (hb : Below w.heap.size w w') : PathV w' p root up l:=by
 obtain ⟨v,rfl,hs⟩:=h
 exact ⟨v,rfl,hs.below hb⟩
abbrev pObj (root : Bool) (up : Int) (v : Value) : Obj:=.cells #[.bool root,.int .i64 up,v] 144 (0,0)
def BoxAt (w wr : World) (root : Bool) (up : Int) (v : Value) (l : List (List UInt8)) : Prop :=
 wr.heap[w.heap.size]? = some (pObj root up v) ∧ StrsAt wr v l ∧ Below w.heap.size w wr
theorem BoxAt.start {w : World} {root : Bool} {up : Int} {v : Value} {l : List (List UInt8)} (h : StrsAt w v l) : BoxAt w (w.alloc (.cells #[.bool root,.int .i64 up,v] 144)) root up v l :=
 ⟨heap_alloc_new w _,h.below ((Below.refl _ _).alloc (Nat.le_refl _) _),(Below.refl _ _).alloc (Nat.le_refl _) _⟩
theorem BoxAt.below {w wr w2 : World} {root : Bool} {up : Int} {v : Value} {l : List (List UInt8)} (h : BoxAt w wr root up v l) (hb : Below wr.heap.size wr w2) : BoxAt w w2 root up v l :=
 ⟨blk_below h.1 hb,h.2.1.below hb,bel_then h.2.2 (Nat.le_refl _) hb⟩
theorem BoxAt.drewN {w wr : World} {root : Bool} {up : Int} {v : Value} {l : List (List UInt8)} (h : BoxAt w wr root up v l) (n : Nat) : BoxAt w (wr.drewN n) root up v l :=
 h.below (below_drewN (Below.refl _ _) n)
theorem BoxAt.cells {w wr : World} {root : Bool} {up : Int} {v : Value} {l : List (List UInt8)} (h : BoxAt w wr root up v l) : wr.cell? ⟨w.heap.size,0,none⟩ = some (.bool root) ∧ wr.cell? ⟨w.heap.size,1,none⟩ = some (.int .i64 up) ∧ wr.cell? ⟨w.heap.size,2,none⟩ = some v:=cells3 h.1
theorem BoxAt.pathV {w wr : World} {root : Bool} {up : Int} {v : Value} {l : List (List UInt8)} (h : BoxAt w wr root up v l) : PathV wr (.agg #[.bool root,.int .i64 up,v]) root up l:=⟨v,rfl,h.2.1⟩
end
end Go.Proofs.YtnicnfchkdmieaaGreatDoor
