/- Fg Fh Blk -/
import Derived.Test.YtoohondkpddmcaaGreatDoorVba
import Derived.Test.YtoohondkpddmcaaGreatDoorVbb
import Derived.Test.YtoohondkpddmcaaGreatDoorVaz
import Derived.Test.YtoohondkpddmcaaGreatDoorVaa
import Derived.Test.YtoohondkpddmcaaGreatDoorVac
import Derived.Shelf.Strings.BuilderF
import Derived.Shelf.Strings.BuilderK
import Derived.Lib.OthersKept
set_option linter.unusedVariables false
set_option linter.unusedSimpArgs false
namespace Go.Proofs.YtoohondkpddmcaaGreatDoor
section
open Go.RowKit
theorem Tre.ne {h : Nat} {l : List Nd} (t : Tre h l) : l ≠ []:=by
 cases t <;> simp
def wtP : PT → Nat
 | [] => 0
 | x :: r => max 1 x.1.length + (fmtT x.2).length + wtP r
theorem wtP_nil : wtP [] = 0:=rfl
theorem wtP_cons (x : List UInt8 × TokI) (r : PT) : wtP (x :: r) = max 1 x.1.length + (fmtT x.2).length + wtP r:=rfl
theorem wtP_app : ∀ a b : PT,wtP (a ++ b) = wtP a + wtP b
 | [],b => by rw [List.nil_append,wtP_nil,Nat.zero_add]
 | x :: r,b => by rw [List.cons_append,wtP_cons,wtP_cons,wtP_app r b]; omega
theorem wtP_le : ∀ L : PT,(textP L).length ≤ wtP L
 | [] => Nat.le_refl _
 | x :: r => by
   have:=wtP_le r
   rw [textP_cons,wtP_cons,List.length_append,List.length_append]
   omega
theorem quoC4 (c : UInt8) : (quoC c).length ≤ 4:=by
 have : ∀ x : Fin 256,(quoC (UInt8.ofNat x.val)).length ≤ 4:=by decide +kernel
 have h:=this ⟨c.toNat,c.toNat_lt⟩
 rw [UInt8.ofNat_toNat] at h
 exact h
theorem acc_line {k : UInt8} {op : Int} (hb : blkB k = true) (hl : listB k = false) (ha : accB k op = true) : k = 68 ∨ k = 70 ∨ k = 83:=by
 refine Classical.byContradiction fun hn => ?_
 have h1 : k ≠ 68 ∧ k ≠ 70 ∧ k ≠ 83:=⟨fun h => hn (.inl h),fun h => hn (.inr (.inl h)),fun h => hn (.inr (.inr h))⟩
 have h2 : k ≠ 73 ∧ k ≠ 80:=by
  constructor <;> (rintro rfl; cases hl)
 have h3 : k ≠ 110 ∧ k ≠ 115 ∧ k ≠ 105 ∧ k ≠ 101 ∧ k ≠ 116 ∧ k ≠ 100:=by
  refine ⟨?_,?_,?_,?_,?_,?_⟩ <;> (rintro rfl; cases hb)
 unfold accB at ha
 simp only [h1,h2,h3,or_self,if_false] at ha
 cases ha
theorem acc_leaf {k : UInt8} {n : Nd} (hk : k = 68 ∨ k = 70 ∨ k = 83) (ha : accB k n.kind = true) : leafT n = none:=by
 have h : n.kind ≠ 1 ∧ n.kind ≠ 2 ∧ n.kind ≠ 3 ∧ n.kind ≠ 6 ∧ n.kind ≠ 7:=by
  refine ⟨?_,?_,?_,?_,?_⟩ <;> (intro e; rw [e] at ha; rcases hk with rfl | rfl | rfl <;> cases ha)
 unfold leafT
 rw [if_neg h.1,if_neg h.2.1,if_neg h.2.2.1,if_neg h.2.2.2.1,if_neg h.2.2.2.2]
def rsv (k : UInt8) : Nat:=if k = 68 ∨ k = 70 ∨ k = 83 then 13 else 3
theorem rsv_le (k : UInt8) : 3 ≤ rsv k ∧ rsv k ≤ 13:=by unfold rsv; split <;> omega
theorem nest_ops : ∀ op ∈ allOps,((formP op).2.any fun k => blkB k && !listB k) = true → (10 ≤ op ∧ op ≤ 12 ∨ op = 14 ∨ op = 16 ∨ op = 17 ∨ op = 31 ∨ op = 32):=by decide +kernel
theorem kids_nest {n : Nd} {k0 k : UInt8} {ks : List UInt8} (ha : accB k0 n.kind = true) (h : kidsK n = some ks) (hk : k ∈ ks) (hb : blkB k = true) (hl : listB k = false) : NestP n.kind:=by
 unfold kidsK at h
 split at h
 ·split at h
  ·injection h with h; subst h; rw [List.mem_replicate] at hk; rw [hk.2] at hb; cases hb
  ·cases h
 split at h
 ·split at h
  ·injection h with h; subst h; rw [List.mem_replicate] at hk; rw [hk.2] at hb; cases hb
  ·cases h
 split at h
 ·next h3 => unfold NestP; omega
 split at h
 ·injection h with h; subst h
  exact nest_ops _ (acc_ops ha) (List.any_eq_true.2 ⟨k,hk,by rw [hb,hl]; rfl⟩)
 ·cases h
theorem kids_len {n : Nd} {ks : List UInt8} (h : kidsK n = some ks) : (ks.length : Int) = n.pos:=by
 unfold kidsK at h
 split at h
 ·split at h
  ·injection h with h; subst h; rw [List.length_replicate]; omega
  ·cases h
 split at h
 ·split at h
  ·injection h with h; subst h; rw [List.length_replicate]; omega
  ·cases h
 split at h
 ·next h3 => injection h with h; subst h; rw [h3.2]; rfl
 split at h
 ·next h4 => injection h with h; subst h; exact h4
 ·cases h
theorem leaf_len {n : Nd} {t : TokI} (hl : leafT n = some t) (hg : NdG n) : (fmtT t).length ≤ 28:=by
 obtain ⟨h1,h2,h3⟩:=hg
 have hq : ∀ s : List UInt8,s.length ≤ 6 → (quoL s).length ≤ 28:=by
  intro s hs
  have : ∀ s : List UInt8,(s.flatMap quoC).length ≤ 4 * s.length:=by
   intro s
   induction s with
   | nil => simp
   | cons c s ih =>
     have hc:=quoC4 c
     rw [List.flatMap_cons,List.length_append,List.length_cons]
     omega
  have h:=this s
  unfold quoL quoK
  rw [List.take_length]
  simp only [List.length_append,List.length_cons,List.length_nil]
  omega
 unfold leafT at hl
 split at hl
 ·injection hl with hl; subst hl; have:=fmtI_len (v:=n.num.toNat) (by omega); show (fmtI n.num.toNat).length ≤ 28; omega
 split at hl
 ·injection hl with hl; subst hl; exact hq _ h1
 split at hl
 ·injection hl with hl; subst hl; show n.str.length ≤ 28; omega
 split at hl
 ·injection hl with hl; subst hl; show (6 : Nat) ≤ 28; omega
 split at hl
 ·injection hl with hl; subst hl; show (4 : Nat) ≤ 28; omega
 ·cases hl
theorem head_len {n : Nd} {k : UInt8} (ha : accB k n.kind = true) (hg : NdG n) : (fmtT (headT n)).length ≤ 15:=by
 unfold headT
 split
 ·show n.str.length ≤ 15; have:=hg.1; omega
 ·show (formP n.kind).1.length ≤ 15
  have hc : ∀ op ∈ allOps,(formP op).1.length ≤ 15:=by decide +kernel
  exact hc _ (acc_ops ha)
def LnT (p : List Nd) (d : Nat) : Prop :=
 (∀ (k : UInt8) (i j lv h : Nat) (s : List UInt8) (l r : List Nd),vAny p d false k i = some j → p.drop i = l ++ r → Tre h l → lv + h ≤ 6 → j = i + l.length ∧ wtP (fmtA p d false k i lv s).1 + rsv k ≤ max 1 s.length + 32 * l.length) ∧
 (∀ (k : UInt8) (i j lv h : Nat) (s : List UInt8) (l r : List Nd),blkB k = true → vAny p d true k i = some j → p.drop i = l ++ r → Tre h l → lv + h + (if listB k = true then 0 else 1) ≤ 6 → j = i + l.length ∧ wtP (fmtA p d true k i lv s).1 + 10 ≤ max 1 s.length + 32 * l.length)
theorem drop_on {p a r : List Nd} {i : Nat} (h : p.drop i = a ++ r) : p.drop (i + a.length) = r:=by
 rw [← List.drop_drop,h,List.drop_left]
theorem elems_lnT {p : List Nd} {d : Nat} (hs : LnT p d) (k : UInt8) (hb : blkB k = true) (lv h : Nat) (hlv : elV k lv + h ≤ 6) : ∀ (ts : List (List Nd)) (r : List Nd) (first : Bool) (i j : Nat),(∀ t ∈ ts,Tre h t) → p.drop i = ts.flatten ++ r → nextN (vAny p d false k) ts.length i = some j →
  j = i + ts.flatten.length ∧ wtP (elemsL (fmtA p d) k lv ts.length first i).1 ≤ 32 * ts.flatten.length
 | [],r,first,i,j,_,_,hx => by
   rw [List.length_nil,nextN] at hx; injection hx with hx; subst hx
   exact ⟨rfl,by rw [List.length_nil,elemsL]; simp [wtP_nil]⟩
 | t :: ts,r,first,i,j,ht,hd,hx => by
   rw [List.length_cons,nextN] at hx
   cases hq : vAny p d false k i with
   | none => rw [hq] at hx; cases hx
   | some q =>
     rw [hq] at hx
     rw [List.flatten_cons,List.append_assoc] at hd
     obtain ⟨hq1,hq2⟩:=hs.1 k i q (elV k lv) h (elS k lv first) t _ hq hd (ht t (by simp)) hlv
     have hd2:=drop_on hd
     rw [← hq1] at hd2
     obtain ⟨h1,h2⟩:=elems_lnT hs k hb lv h hlv ts r false q j (fun x hx => ht x (by simp [hx])) hd2 hx
     rw [List.length_cons,elemsL]
     simp only [fmt_next p d false k i q _ _ hq]
     rw [wtP_app,wtP_app,List.flatten_cons,List.length_append]
     have h3 : wtP (elC k first) + max 1 (elS k lv first).length ≤ rsv k:=by
      cases hlk : listB k with
      | true =>
        have:=(rsv_le k).1
        have h5 : wtP (elC k first) ≤ 2:=by
         unfold elC; cases first <;> simp [hlk,wtP_cons,wtP_nil,cmT,fmtT,punC]
        have h6 : (elS k lv first).length ≤ 1:=by
         unfold elS; cases first <;> simp [hlk]
        omega
      | false =>
        have hx' : ∃ n,accB k n = true:=by
         cases d with
         | zero => rw [vAny] at hq; cases hq
         | succ d => obtain ⟨n,_,_,ha,_⟩:=el_node hq; exact ⟨_,ha⟩
        obtain ⟨n,ha⟩:=hx'
        have hkk:=acc_line hb hlk ha
        have h5 : wtP (elC k first) = 0:=by unfold elC; simp [hlk,wtP_nil]
        have h6 : (elS k lv first).length = 1 + 2 * (lv + 1):=by unfold elS; rw [if_neg (by rw [hlk]; decide),List.length_cons,ind_len]; omega
        have h7 : elV k lv = lv + 1:=by unfold elV; rw [if_neg (by rw [hlk]; decide)]
        have h8 : rsv k = 13:=by unfold rsv; rw [if_pos hkk]
        omega
     refine ⟨by omega,?_⟩
     omega
theorem args_lnT {p : List Nd} {d : Nat} (hs : LnT p d) (lv h : Nat) (hlv : lv + h ≤ 6) : ∀ (ks : List UInt8) (ts : List (List Nd)) (r : List Nd) (first : Bool) (i j : Nat),ts.length = ks.length → (∀ t ∈ ts,Tre h t) → p.drop i = ts.flatten ++ r → nextK (fun k j => vAny p d (blkB k) k j) ks i = some j →
  ∃ ts2 : List (List Nd),ts2.length = (ks.dropWhile fun k => !blkB k).length ∧ (∀ t ∈ ts2,Tre h t) ∧ p.drop (argsE (fmtA p d) lv ks first i).2 = ts2.flatten ++ r ∧ (argsE (fmtA p d) lv ks first i).2 + ts2.flatten.length = i + ts.flatten.length ∧ wtP (argsE (fmtA p d) lv ks first i).1 + 32 * ts2.flatten.length ≤ 2 + 32 * ts.flatten.length
 | [],ts,r,first,i,j,hl,ht,hd,hx => by
   rw [argsE]
   exact ⟨ts,hl,ht,hd,rfl,by simp [wtP_cons,wtP_nil,pcT,fmtT,punC]⟩
 | k :: ks,ts,r,first,i,j,hl,ht,hd,hx => by
   rw [argsE]
   by_cases hb : blkB k = true
   ·rw [if_pos hb,List.dropWhile_cons,if_neg (by rw [hb]; decide)]
    exact ⟨ts,hl,ht,hd,rfl,by simp [wtP_cons,wtP_nil,pcT,fmtT,punC]⟩
   ·have hb' : blkB k = false:=by simpa using hb
    rw [if_neg hb,List.dropWhile_cons,if_pos (by rw [hb']; decide)]
    rw [nextK] at hx
    simp only [hb'] at hx
    cases ts with
    | nil => cases hl
    | cons t ts =>
      cases hq : vAny p d false k i with
      | none => rw [hq] at hx; cases hx
      | some q =>
        rw [hq] at hx
        rw [List.flatten_cons,List.append_assoc] at hd
        obtain ⟨hq1,hq2⟩:=hs.1 k i q lv h (if first = true then [] else [32]) t _ hq hd (ht t (by simp)) hlv
        have hd2:=drop_on hd
        rw [← hq1] at hd2
        simp only [fmt_next p d false k i q _ _ hq]
        obtain ⟨ts2,a1,a2,a3,a4,a5⟩:=args_lnT hs lv h hlv ks ts r false q j (by simpa using hl) (fun x hx => ht x (by simp [hx])) hd2 hx
        refine ⟨ts2,a1,a2,a3,?_,?_⟩
        ·rw [List.flatten_cons,List.length_append]; omega
        ·rw [wtP_app,wtP_app,List.flatten_cons,List.length_append]
         have:=(rsv_le k).1
         have h5 : wtP (if first = true then ([] : PT) else [([],cmT)]) + max 1 (if first = true then ([] : List UInt8) else [32]).length ≤ 3:=by cases first <;> simp [wtP_cons,wtP_nil,cmT,fmtT,punC]
         omega
theorem blks_lnT {p : List Nd} {d : Nat} (hs : LnT p d) (lv h : Nat) : ∀ (ks : List UInt8) (ts : List (List Nd)) (r : List Nd) (first : Bool) (i j : Nat),(∀ k ∈ ks,lv + h + (if listB k = true then 0 else 1) ≤ 6) → ts.length = ks.length → (∀ t ∈ ts,Tre h t) → p.drop i = ts.flatten ++ r → ks.all blkB = true → nextK (fun k j => vAny p d (blkB k) k j) ks i = some j →
  j = i + ts.flatten.length ∧ wtP (blksE (fmtA p d) lv ks first i).1 ≤ 32 * ts.flatten.length
 | [],ts,r,first,i,j,hlv,hl,ht,hd,ha,hx => by
   rw [nextK] at hx; injection hx with hx; subst hx
   have : ts = []:=List.eq_nil_of_length_eq_zero hl
   subst this
   exact ⟨rfl,by rw [blksE]; simp [wtP_nil]⟩
 | k :: ks,ts,r,first,i,j,hlv,hl,ht,hd,ha,hx => by
   rw [List.all_cons,Bool.and_eq_true] at ha
   rw [nextK] at hx
   simp only [ha.1] at hx
   cases ts with
   | nil => cases hl
   | cons t ts =>
     cases hq : vAny p d true k i with
     | none => rw [hq] at hx; cases hx
     | some q =>
       rw [hq] at hx
       rw [List.flatten_cons,List.append_assoc] at hd
       obtain ⟨hq1,hq2⟩:=hs.2 k i q lv h [32] t _ ha.1 hq hd (ht t (by simp)) (hlv k (by simp))
       have hd2:=drop_on hd
       rw [← hq1] at hd2
       rw [blksE]
       simp only [fmt_next p d true k i q _ _ hq]
       obtain ⟨h1,h2⟩:=blks_lnT hs lv h ks ts r false q j (fun x hx => hlv x (by simp [hx])) (by simpa using hl) (fun x hx => ht x (by simp [hx])) hd2 ha.2 hx
       have h5 : wtP (if first = true then ([] : PT) else [([32],elT)]) ≤ 5:=by split <;> simp [wtP_cons,wtP_nil,elT,fmtT]
       rw [wtP_app,wtP_app,List.flatten_cons,List.length_append]
       simp only [List.length_cons,List.length_nil] at hq2
       refine ⟨by omega,?_⟩
       omega
theorem tre_root {h : Nat} {n : Nd} {l : List Nd} (t : Tre h (n :: l)) : ∃ (ks : List (List Nd)) (g : Nat),l = ks.flatten ∧ n.pos = ks.length ∧ (∀ k ∈ ks,Tre g k) ∧ g ≤ h ∧ (NestP n.kind → g + 1 ≤ h):=by
 generalize hx : n :: l = x at t
 cases t with
 | flat _ m ks hp hn hk =>
   injection hx with h1 h2; subst h1 h2
   exact ⟨ks,h,rfl,hp,hk,Nat.le_refl _,fun h => absurd h hn⟩
 | nest g m ks hp hk =>
   injection hx with h1 h2; subst h1 h2
   exact ⟨ks,g,rfl,hp,hk,Nat.le_succ _,fun _ => Nat.le_refl _⟩
theorem drop_root {p l r : List Nd} {i : Nat} {n : Nd} (hn : p[i]? = some n) (hd : p.drop i = l ++ r) (hl : l ≠ []) : ∃ l',l = n :: l' ∧ p.drop (i + 1) = l' ++ r:=by
 cases l with
 | nil => exact absurd rfl hl
 | cons m l' =>
   have h1 : (p.drop i)[0]? = some n:=by rw [List.getElem?_drop]; exact hn
   rw [hd] at h1
   injection h1 with h1
   subst h1
   refine ⟨l',rfl,?_⟩
   rw [← List.drop_drop,hd]
   rfl
theorem fmt_lnT (p : List Nd) (hp : ∀ t ∈ p,NdG t) : ∀ d,LnT p d
 | 0 => ⟨fun k i j lv h s l r hx => (by rw [vAny] at hx; cases hx),fun k i j lv h s l r hb hx => (by rw [vAny] at hx; cases hx)⟩
 | d + 1 => by
   have ih:=fmt_lnT p hp d
   refine ⟨fun k i j lv h s l r hx hd ht hlv => ?_,fun k i j lv h s l r hb hx hd ht hlv => ?_⟩
   ·obtain ⟨n,ks,hn,ha,hf,hk,hxx⟩:=el_node hx
    have hg:=hp n (List.mem_of_getElem? hn)
    obtain ⟨l',rfl,hd'⟩:=drop_root hn hd ht.ne
    obtain ⟨ts,g,rfl,hpos,hts,hgh,hne⟩:=tre_root ht
    have hkl:=kids_len hk
    have htl : ts.length = ks.length:=by omega
    have hsh:=(kids_shp hk).1
    rw [fmtA,hn]
    simp only []
    rw [List.length_cons]
    cases hl : leafT n with
    | some t =>
      obtain ⟨rfl,_⟩:=leaf_kids hl hk
      have : ts = []:=List.eq_nil_of_length_eq_zero htl
      subst this
      rw [nextK] at hxx
      injection hxx with hxx
      have h1:=leaf_len hl hg
      have h2 : rsv k = 3:=by
       unfold rsv
       rw [if_neg]
       intro hk3
       rw [acc_leaf hk3 ha] at hl
       cases hl
      simp only []
      rw [wtP_cons,wtP_nil,h2]
      simp only [List.flatten_nil,List.length_nil]
      exact ⟨by omega,by show max 1 s.length + (fmtT t).length + 0 + 3 ≤ _; omega⟩
    | none =>
      have hh:=head_len ha hg
      have hr:=(rsv_le k).2
      simp only []
      by_cases h5 : n.kind = 5 ∧ n.pos = 0
      ·rw [if_pos h5]
       have hk0 : ks = []:=List.eq_nil_of_length_eq_zero (by omega)
       subst hk0
       have : ts = []:=List.eq_nil_of_length_eq_zero htl
       subst this
       rw [nextK] at hxx
       injection hxx with hxx
       rw [wtP_cons]
       have : wtP [([32],poT),([],pcT)] = 4:=rfl
       simp only [List.flatten_nil,List.length_nil]
       refine ⟨by omega,?_⟩
       show max 1 s.length + (fmtT (headT n)).length + wtP [([32],poT),([],pcT)] + rsv k ≤ _
       omega
      ·rw [if_neg h5,hk]
       rw [wtP_cons]
       show j = _ ∧ max 1 s.length + (fmtT (headT n)).length + wtP (restE (fmtA p d) ks lv (i + 1)).1 + rsv k ≤ _
       have hrest : j = i + 1 + ts.flatten.length ∧ wtP (restE (fmtA p d) ks lv (i + 1)).1 ≤ 4 + 32 * ts.flatten.length:=by
        unfold restE
        by_cases hks : ks = []
        ·subst hks
         have : ts = []:=List.eq_nil_of_length_eq_zero htl
         subst this
         rw [nextK] at hxx
         injection hxx with hxx
         rw [if_pos rfl]
         exact ⟨by simp; omega,by simp [wtP_nil]⟩
        ·rw [if_neg hks]
         unfold shpB at hsh
         rw [Bool.and_eq_true] at hsh
         have hnx:=args_next lv (fun k i j lv s h => fmt_next p d false k i j lv s h) ks true (i + 1) j hxx
         obtain ⟨ts2,a1,a2,a3,a4,a5⟩:=args_lnT ih lv g (by omega) ks ts r true (i + 1) j htl hts hd' hxx
         have hlv2 : ∀ q ∈ ks.dropWhile fun k => !blkB k,lv + g + (if listB q = true then 0 else 1) ≤ 6:=by
          intro q hq
          have hqb : blkB q = true:=List.all_eq_true.1 hsh.1 q hq
          cases hql : listB q with
          | true => simp only [if_true]; omega
          | false =>
            have:=hne (kids_nest ha hk ((List.dropWhile_sublist _).subset hq) hqb hql)
            simp only [Bool.false_eq_true,if_false]
            omega
         obtain ⟨b1,b2⟩:=blks_lnT ih lv g _ ts2 r true _ j hlv2 a1 a2 a3 hsh.1 hnx
         refine ⟨by omega,?_⟩
         show wtP (([32],poT) :: ((argsE (fmtA p d) lv ks true (i + 1)).1 ++ (blksE (fmtA p d) lv (ks.dropWhile fun k => !blkB k) true (argsE (fmtA p d) lv ks true (i + 1)).2).1)) ≤ _
         rw [wtP_cons,wtP_app]
         have : (fmtT poT).length = 1:=rfl
         have : max 1 ([32] : List UInt8).length = 1:=rfl
         show max 1 ([32] : List UInt8).length + (fmtT poT).length + (wtP (argsE (fmtA p d) lv ks true (i + 1)).1 + wtP (blksE (fmtA p d) lv (ks.dropWhile fun k => !blkB k) true (argsE (fmtA p d) lv ks true (i + 1)).2).1) ≤ _
         omega
       refine ⟨by omega,?_⟩
       omega
   ·obtain ⟨n,hn,⟨_,_,_,hn0⟩,hxx⟩:=bl_node hx
    obtain ⟨l',rfl,hd'⟩:=drop_root hn hd ht.ne
    obtain ⟨ts,g,rfl,hpos,hts,hgh,_⟩:=tre_root ht
    have hm : n.pos.toNat = ts.length:=by omega
    rw [hm] at hxx
    have hlv' : elV k lv + g ≤ 6:=by
     unfold elV
     cases hql : listB k with
     | true => rw [hql] at hlv; simp only [if_true] at hlv ⊢; omega
     | false => rw [hql] at hlv; simp only [Bool.false_eq_true,if_false] at hlv ⊢; omega
    obtain ⟨h1,h2⟩:=elems_lnT ih k hb lv g hlv' ts r true (i + 1) j hts hd' hxx
    rw [fmtA,hn]
    simp only [hm]
    rw [wtP_cons,wtP_app,List.length_cons]
    have h3 : (fmtT boT).length = 1:=rfl
    have h4 : wtP [(endS k lv ts.length,bcT)] ≤ 14:=by
     rw [wtP_cons,wtP_nil]
     have : (fmtT bcT).length = 1:=rfl
     have : (endS k lv ts.length).length ≤ 13:=by
      unfold endS
      split
      ·simp
      ·rw [List.length_cons,ind_len]; omega
     show max 1 (endS k lv ts.length).length + (fmtT bcT).length + 0 ≤ 14
     omega
    refine ⟨by omega,?_⟩
    show max 1 s.length + (fmtT boT).length + (wtP (elemsL (fmtA p d) k lv ts.length true (i + 1)).1 + wtP [(endS k lv ts.length,bcT)]) + 10 ≤ _
    omega
theorem flat_nil {h : Nat} {ts : List (List Nd)} (ht : ∀ t ∈ ts,Tre h t) (hf : ts.flatten = []) : ts = []:=by
 cases ts with
 | nil => rfl
 | cons a r =>
   rw [List.flatten_cons] at hf
   exact absurd (List.append_eq_nil_iff.1 hf).1 (ht a (by simp)).ne
theorem top_lnT (p : List Nd) (hp : ∀ t ∈ p,NdG t) : ∀ (f : Nat) (first : Bool) (i : Nat) (ts : List (List Nd)),(∀ t ∈ ts,Tre 6 t) → p.drop i = ts.flatten → vTop p f i = true → wtP (topE p f first i) + ts.length ≤ 32 * ts.flatten.length
 | 0,first,i,ts,ht,hd,h => by
   rw [vTop] at h
   have hpi : p.length ≤ i:=of_decide_eq_true h
   rw [List.drop_eq_nil_of_le hpi] at hd
   have:=flat_nil ht hd.symm
   subst this
   rw [topE]
   simp [wtP_nil]
 | f + 1,first,i,ts,ht,hd,h => by
   rw [topE]
   split
   ·next hpi =>
    rw [List.drop_eq_nil_of_le hpi] at hd
    have:=flat_nil ht hd.symm
    subst this
    simp [wtP_nil]
   ·next hlt =>
    rw [vTop,if_neg hlt] at h
    cases hx : vAny p 32 false 68 i with
    | none => rw [hx] at h; cases h
    | some q =>
      rw [hx] at h
      simp only [] at h
      cases ts with
      | nil =>
        have : (p.drop i).length = 0:=by rw [hd]; rfl
        rw [List.length_drop] at this
        omega
      | cons t ts =>
        rw [List.flatten_cons] at hd
        obtain ⟨h1,h2⟩:=(fmt_lnT p hp 32).1 68 i q 0 6 (if first = true then [] else [10]) t ts.flatten hx hd (ht t (by simp)) (by omega)
        have hd2:=drop_on hd
        rw [← h1] at hd2
        rw [fmt_next p 32 false 68 i q _ _ hx,wtP_app,List.length_cons,List.flatten_cons,List.length_append]
        have h4 : (if first = true then ([] : List UInt8) else [10]).length ≤ 1:=by split <;> simp
        have h5:=top_lnT p hp f false q ts (fun x hx => ht x (by simp [hx])) hd2 h
        have h6 : rsv 68 = 13:=by decide
        rw [h6] at h2
        omega
theorem wtP_ln6 (p : List Nd) (hp : ∀ t ∈ p,NdG t) (hv : validL p = true) (hf : For6 p) : wtP (topE p p.length true 0) + (tailL p).length ≤ 65536:=by
 have hv':=hv
 unfold validL at hv'
 simp only [Bool.and_eq_true,decide_eq_true_eq] at hv'
 obtain ⟨ts,e,ht⟩:=hf
 have h:=top_lnT p hp p.length true 0 ts ht (by rw [List.drop_zero]; exact e) hv'.2
 have h2 : (tailL p).length ≤ ts.length:=by
  unfold tailL
  split
  ·simp
  ·next hne =>
   cases ts with
   | nil => exact absurd e hne
   | cons a r => simp
 have h3 : ts.flatten.length = p.length:=by rw [← e]
 omega
theorem fmtP_ln6 (p : List Nd) (hp : ∀ t ∈ p,NdG t) (hv : validL p = true) (hf : For6 p) : (fmtP p).length ≤ 65536:=by
 have h:=wtP_ln6 p hp hv hf
 have h2:=wtP_le (topE p p.length true 0)
 unfold fmtP
 rw [List.length_append]
 omega
end
section
open Go.RowKit
def TV (t : TokI) : Prop:=OkT t ∧ t.str.length ≤ 65536
theorem itT_num {t : TokI} (h : OkT t) : (itT t).2.1 ≤ 18446744073709551615:=by
 obtain ⟨ht,h0,h1⟩:=h
 obtain ⟨k,n,s,p⟩:=t
 simp only at h0 h1
 have key : ∀ k' v str len,itemL (fmtT ⟨k,n,s,p⟩) = some (k',v,str,len) → v ≤ 18446744073709551615 → (itT ⟨k,n,s,p⟩).2.1 ≤ 18446744073709551615:=by
  intro k' v str len h hv
  unfold itT
  rw [h]
  exact hv
 unfold validT at ht
 simp only at ht
 by_cases e1 : k = 1
 ·subst e1; have hs : nmB s = true:=by simpa using ht
  unfold fmtT at key; exact key 1 0 s s.length (name_item hs).1 (by omega)
 rw [if_neg e1] at ht
 by_cases e2 : k = 2
 ·subst e2; have hs : kwB s = true:=by simpa using ht
  unfold fmtT at key; exact key 2 0 s s.length (word_item hs).1 (by omega)
 rw [if_neg e2] at ht
 by_cases e4 : k = 4
 ·subst e4; exact key 4 0 s _ (quo_item (by simpa using ht)).1 (by omega)
 rw [if_neg e4,decide_eq_true_eq] at ht
 by_cases e3 : k = 3
 ·subst e3
  obtain ⟨N,rfl⟩:=Int.eq_ofNat_of_zero_le h0
  refine key 3 N [] (fmtI N).length ?_ (by omega)
  have:=(fmtI_item N (by omega)).1
  unfold fmtT
  simp only [Int.toNat_natCast]
  exact this
 rcases (by omega : k = 5 ∨ k = 6 ∨ k = 7 ∨ k = 8 ∨ k = 9) with rfl | rfl | rfl | rfl | rfl
 ·exact key 5 0 [] 1 rfl (by omega)
 ·exact key 6 0 [] 1 rfl (by omega)
 ·exact key 7 0 [] 1 rfl (by omega)
 ·exact key 8 0 [] 1 rfl (by omega)
 ·exact key 9 0 [] 1 rfl (by omega)
theorem okT_bare {t u : TokI} (h : bareT t = bareT u) (hu : OkT u) (h0 : 0 ≤ t.num ∧ t.num ≤ 18446744073709551615) : OkT t:=by
 refine ⟨?_,h0⟩
 have hk:=bare_kind h
 have hv:=hu.1
 unfold validT at hv ⊢
 rw [hk]
 by_cases h3 : u.kind = 1 ∨ u.kind = 2 ∨ u.kind = 4
 ·rw [bare_str h h3]; exact hv
 ·rw [if_neg (by omega),if_neg (by omega),if_neg (by omega)] at hv ⊢
  exact hv
theorem toksP_ok : ∀ (L : PT) (p : Nat),(∀ x ∈ L,OkT x.2) → ∀ t ∈ (toksP p L).map Tok.toI,OkT t
 | [],p,h,t,ht => by cases ht
 | x :: r,p,h,t,ht => by
   rw [toksP,List.map_cons] at ht
   rcases List.mem_cons.1 ht with rfl | ht
   ·have hx:=h x (by simp)
    refine okT_bare ((itT_is hx.1 hx.2.1 hx.2.2).2.2 _) hx ⟨?_,?_⟩
    ·show (0 : Int) ≤ (((itT x.2).2.1 : Nat) : Int); omega
    ·show (((itT x.2).2.1 : Nat) : Int) ≤ _
     have:=itT_num hx
     omega
   ·exact toksP_ok r _ (fun y hy => h y (by simp [hy])) t ht
theorem scan_tv (p : List Nd) (hp : NumsOk p) (hv : validL p = true) : ∀ t ∈ (scanL (fmtP p)).1.map Tok.toI,TV t:=by
 intro t ht
 have h2 : t.str.length ≤ 65536:=by
  obtain ⟨x,hx,rfl⟩:=List.mem_map.1 ht
  exact (scanL_ok (fmtP p) x hx).1
 refine ⟨?_,h2⟩
 by_cases hl : (fmtP p).length ≤ 65536
 ·rw [fmt_scan p hp hv hl] at ht
  exact toksP_ok _ 0 (top_ok p hp hv) t ht
 ·unfold scanL at ht
  rw [if_pos (by omega)] at ht
  cases ht
end
section
open Go.RowKit
def BldK (w : World) (B b : Nat) (l : List UInt8) : Prop:=Lib.IsBuilderF 71 5 B b (Lib.byteCells l) w ∧ B ≤ w.heap.size
def KeptK (b : Nat) (w w' : World) : Prop:=Lib.OthersKept 5 (some b) w w'
theorem KeptK.blk {b : Nat} {w w' : World} (h : KeptK b w w') {k : Nat} {cs : Array Value} {t : Nat} (hk : w.heap[k]? = some (.cells cs t (0,0))) (hb : k ≠ b) (ht : t ≠ 5) : w'.heap[k]? = some (.cells cs t (0,0)) :=
 h k _ hk (fun e => hb (by injection e)) (fun c fz e => by injection e with _ e _; exact ht e)
theorem KeptK.trans {b : Nat} {w w' w'' : World} (h : KeptK b w w') (h' : KeptK b w' w'') : KeptK b w w'':=Lib.OthersKept.trans h h'
theorem KeptK.refl (b : Nat) (w : World) : KeptK b w w:=Lib.OthersKept.refl _ _ _
theorem KeptK.of {b : Nat} {w w' : World} (h : Below w.heap.size w w') : KeptK b w w':=fun k o hk _ _ => (h.block k (lt_of_block hk)).trans hk
theorem BldK.fresh (w : World) : BldK (w.alloc (.cells #[.pointer none,.slice none 0 0] 71)) w.heap.size w.heap.size []:=⟨Lib.IsBuilderF.of (Lib.fresh_isBuilder _ _ _),by simp⟩
theorem bldk_at {T e B b : Nat} {p : Value} {bs : List Value} {w w' : World} (h : Lib.BuilderAtF T e B b p bs w) (hb : Below w.heap.size w w') : Lib.BuilderAtF T e B b p bs w':=by
 obtain ⟨h1,v,h2,⟨h3,h5⟩,h4⟩:=h
 refine ⟨h1,v,blk_below h2 hb,⟨h3,?_⟩,h4⟩
 rcases h5 with h5 | ⟨g,cap,cur,fz,k1,k2,k3,k4⟩
 ·exact .inl h5
 ·exact .inr ⟨g,cap,cur,fz,k1,k2,(hb.block g (lt_of_block k3)).trans k3,k4⟩
theorem BldK.below {w w' : World} {B b : Nat} {l : List UInt8} (h : BldK w B b l) (hb : Below w.heap.size w w') : BldK w' B b l:=by
 obtain ⟨h1,h2⟩:=h
 exact ⟨h1.elim (fun h => .inl (bldk_at h hb)) (fun h => .inr (bldk_at h hb)),Nat.le_trans h2 hb.size⟩
theorem BldK.alloc {w : World} {B b : Nat} {l : List UInt8} (h : BldK w B b l) (o : Obj) : BldK (w.alloc o) B b l:=h.below ((Below.refl _ _).alloc (Nat.le_refl _) o)
theorem BldK.lt {w : World} {B b : Nat} {l : List UInt8} (h : BldK w B b l) : b < w.heap.size:=by
 rcases h.1 with h | h
 ·exact h.lt
 ·exact h.lt
theorem blk_str (B b : Nat) (l s : List UInt8) (w : World) (h : BldK w B b l) (hlen : l.length + s.length ≤ 140737488355328) :
  Calls Tryz.prog 77 #[.pointer (some ⟨b,0,none⟩),.string ⟨s.toArray⟩] w fun e w' => e = .returned (.tuple #[.int .i64 s.length,.nilIface]) ∧ BldK w' B b (l ++ s) ∧ Below B w w' ∧ KeptK b w w' :=
 (Any.Builder_WriteString_k Tryz.lays166 Tryz.Builder_Extra_166 B b (Lib.byteCells l) ⟨s.toArray⟩ w h.1 (by rw [Lib.byteCells_length,ByteArray.size_mk',List.size_toArray]; exact hlen) h.2).mono fun e w' ⟨he,hb,hw,hk⟩ => ⟨by rw [he,ByteArray.size_mk',List.size_toArray],⟨.inr (by rw [Lib.byteCells_append]; exact hb),Nat.le_trans h.2 hw.size⟩,hw,hk⟩
theorem blk_byte (B b : Nat) (l : List UInt8) (c : UInt8) (w : World) (h : BldK w B b l) (hlen : l.length + 1 ≤ 140737488355328) :
  Calls Tryz.prog 37 #[.pointer (some ⟨b,0,none⟩),.int .u8 c.toNat] w fun e w' => e = .returned .nilIface ∧ BldK w' B b (l ++ [c]) ∧ Below B w w' ∧ KeptK b w w' :=
 (Any.Builder_WriteByte_k Tryz.lays167 Tryz.Builder_Extra_167 B b (Lib.byteCells l) c.toNat w h.1 (by rw [Lib.byteCells_length]; exact hlen) h.2).mono fun e w' ⟨he,hb,hw,hk⟩ => ⟨he,⟨.inr (by rw [Lib.byteCells_append]; exact hb),Nat.le_trans h.2 hw.size⟩,hw,hk⟩
theorem blk_lit (B b : Nat) (l : List UInt8) (c : UInt8) (n : Int) (hn : (c.toNat : Int) = n) (w : World) (h : BldK w B b l) (hlen : l.length + 1 ≤ 140737488355328) :
  Calls Tryz.prog 37 #[.pointer (some ⟨b,0,none⟩),.int .u8 n] w fun e w' => e = .returned .nilIface ∧ BldK w' B b (l ++ [c]) ∧ Below B w w' ∧ KeptK b w w':=by
 subst hn; exact blk_byte B b l c w h hlen
theorem blk_string (B b : Nat) (l : List UInt8) (w : World) (h : BldK w B b l) :
  Calls Tryz.prog 39 #[.pointer (some ⟨b,0,none⟩)] w fun e w' => e = .returned (.string ⟨l.toArray⟩) ∧ Below B w w' :=
 (Any.Builder_String_any_k Tryz.lays169 Tryz.Builder_Extra_169 B b l w h.1 h.2).mono fun e w' ⟨he,_,hw,_⟩ => ⟨he,hw⟩
end
end Go.Proofs.YtoohondkpddmcaaGreatDoor
