/- Fb -/
import Derived.Test.YtoohondkpddmcaaGreatDoorVap
import Derived.Test.YtoohondkpddmcaaGreatDoorVas
set_option linter.unusedVariables false
set_option linter.unusedSimpArgs false
namespace Go.Proofs.YtoohondkpddmcaaGreatDoor
open Go.RowKit
def poT : TokI:=⟨5,0,[],0⟩
def pcT : TokI:=⟨6,0,[],0⟩
def boT : TokI:=⟨7,0,[],0⟩
def bcT : TokI:=⟨8,0,[],0⟩
def cmT : TokI:=⟨9,0,[],0⟩
def elT : TokI:=⟨2,0,[69,108,115,101],0⟩
def indL (n : Nat) : List UInt8:=List.replicate (2 * n) 32
def leafT (n : Nd) : Option TokI :=
 if n.kind = 1 then some ⟨3,n.num,[],0⟩ else if n.kind = 2 then some ⟨4,0,n.str,0⟩ else if n.kind = 3 then some ⟨1,0,n.str,0⟩
 else if n.kind = 6 then some ⟨2,0,[76,111,99,97,108,UInt8.ofNat (48 + n.num.toNat)],0⟩
 else if n.kind = 7 then some ⟨2,0,[65,114,103,UInt8.ofNat (48 + n.num.toNat)],0⟩ else none
def headT (n : Nd) : TokI:=if n.kind = 5 then ⟨1,0,n.str,0⟩ else ⟨2,0,(formP n.kind).1,0⟩
section
variable (sub : Bool → UInt8 → Nat → Nat → List UInt8 → PT × Nat)
def elS (k : UInt8) (lv : Nat) (first : Bool) : List UInt8:=if listB k = true then (if first = true then [] else [32]) else 10 :: indL (lv + 1)
def elV (k : UInt8) (lv : Nat) : Nat:=if listB k = true then lv else lv + 1
def elC (k : UInt8) (first : Bool) : PT:=if listB k = true ∧ first = false then [([],cmT)] else []
def elemsL (k : UInt8) (lv : Nat) : Nat → Bool → Nat → PT × Nat
 | 0,_,i => ([],i)
 | m + 1,first,i =>
   (elC k first ++ ((sub false k i (elV k lv) (elS k lv first)).1 ++ (elemsL k lv m false (sub false k i (elV k lv) (elS k lv first)).2).1),
    (elemsL k lv m false (sub false k i (elV k lv) (elS k lv first)).2).2)
def argsE (lv : Nat) : List UInt8 → Bool → Nat → PT × Nat
 | [],_,i => ([([],pcT)],i)
 | k :: ks,first,i => if blkB k = true then ([([],pcT)],i) else
   ((if first = true then [] else [([],cmT)]) ++ ((sub false k i lv (if first = true then [] else [32])).1 ++ (argsE lv ks false (sub false k i lv (if first = true then [] else [32])).2).1),
     (argsE lv ks false (sub false k i lv (if first = true then [] else [32])).2).2)
def blksE (lv : Nat) : List UInt8 → Bool → Nat → PT × Nat
 | [],_,i => ([],i)
 | k :: ks,first,i =>
   ((if first = true then [] else [([32],elT)]) ++ ((sub true k i lv [32]).1 ++ (blksE lv ks false (sub true k i lv [32]).2).1),(blksE lv ks false (sub true k i lv [32]).2).2)
def restE (ks : List UInt8) (lv i : Nat) : PT × Nat :=
 if ks = [] then ([],i) else
  (([32],poT) :: ((argsE sub lv ks true i).1 ++ (blksE sub lv (ks.dropWhile fun k => !blkB k) true (argsE sub lv ks true i).2).1),
    (blksE sub lv (ks.dropWhile fun k => !blkB k) true (argsE sub lv ks true i).2).2)
end
def endS (k : UInt8) (lv m : Nat) : List UInt8:=if listB k = true ∨ m = 0 then [] else 10 :: indL lv
def fmtA (p : List Nd) : Nat → Bool → UInt8 → Nat → Nat → List UInt8 → PT × Nat
 | 0,_,_,i,_,_ => ([],i)
 | d + 1,true,k,i,lv,s => match p[i]? with
   | none => ([],i)
   | some n => ((s,boT) :: ((elemsL (fmtA p d) k lv n.pos.toNat true (i + 1)).1 ++ [(endS k lv n.pos.toNat,bcT)]),(elemsL (fmtA p d) k lv n.pos.toNat true (i + 1)).2)
 | d + 1,false,k,i,lv,s => match p[i]? with
   | none => ([],i)
   | some n => match leafT n with
     | some t => ([(s,t)],i + 1)
     | none => if n.kind = 5 ∧ n.pos = 0 then ([(s,headT n),([32],poT),([],pcT)],i + 1)
       else ((s,headT n) :: (restE (fmtA p d) ((kidsK n).getD []) lv (i + 1)).1,(restE (fmtA p d) ((kidsK n).getD []) lv (i + 1)).2)
def topE (p : List Nd) : Nat → Bool → Nat → PT
 | 0,_,_ => []
 | f + 1,first,i => if p.length ≤ i then [] else
   (fmtA p 32 false 68 i 0 (if first = true then [] else [10])).1 ++ topE p f false (fmtA p 32 false 68 i 0 (if first = true then [] else [10])).2
def tailL (p : List Nd) : List UInt8:=if p = [] then [] else [10]
def fmtP (p : List Nd) : List UInt8:=textP (topE p p.length true 0) ++ tailL p
def shpB (ks : List UInt8) : Bool:=(ks.dropWhile fun k => !blkB k).all blkB && (match ks with | [] => true | k :: _ => !blkB k)
theorem form_shp (op : Int) : shpB (formP op).2 = true ∧ ((formP op).2.dropWhile fun k => !blkB k).length ≤ 1 ∧ (formP op).1 ≠ [69,108,115,101]:=by
 have h : ∀ (T : List (List UInt8 × List UInt8)),(T.all fun x => shpB x.2 && decide ((x.2.dropWhile fun k => !blkB k).length ≤ 1) && decide (x.1 ≠ [69,108,115,101])) = true → ∀ j,shpB (T.getD j ([],[])).2 = true ∧ ((T.getD j ([],[])).2.dropWhile fun k => !blkB k).length ≤ 1 ∧ (T.getD j ([],[])).1 ≠ [69,108,115,101]:=by
  intro T hT j
  by_cases hj : j < T.length
  ·have e : T.getD j ([],[]) = T[j]:=by simp [List.getD,hj]
   rw [e]
   have:=List.all_eq_true.1 hT _ (List.getElem_mem hj)
   simp only [Bool.and_eq_true,decide_eq_true_eq] at this
   exact ⟨this.1.1,this.1.2,this.2⟩
  ·have e : T.getD j ([],[]) = ([],[]):=by simp [List.getD,List.getElem?_eq_none (show T.length ≤ j by omega)]
   rw [e]; decide
 unfold formP
 split
 ·exact h declT (by decide +kernel) _
 split
 ·exact h stmtT (by decide +kernel) _
 split
 ·exact h exprT (by decide +kernel) _
 split
 ·decide
 split
 ·decide
 ·decide
theorem rep_drop (m : Nat) : (List.replicate m (101 : UInt8)).dropWhile (fun k => !blkB k) = []:=by
 induction m with
 | zero => rfl
 | succ m ih => rw [List.replicate_succ,List.dropWhile_cons,if_pos (by decide)]; exact ih
theorem rep_shp (m : Nat) : shpB (List.replicate m 101) = true:=by
 unfold shpB
 rw [rep_drop]
 cases m with
 | zero => rfl
 | succ m => rw [List.replicate_succ]; rfl
theorem kids_shp {n : Nd} {ks : List UInt8} (h : kidsK n = some ks) : shpB ks = true ∧ ((n.kind = 31 ∧ n.pos = 3 ∧ ks = [101,83,83]) ∨ (ks.dropWhile fun k => !blkB k).length ≤ 1):=by
 unfold kidsK at h
 split at h
 ·split at h
  ·injection h with h; subst h; exact ⟨rep_shp _,.inr (by rw [rep_drop]; simp)⟩
  ·cases h
 split at h
 ·split at h
  ·injection h with h; subst h; exact ⟨rep_shp _,.inr (by rw [rep_drop]; simp)⟩
  ·cases h
 split at h
 ·next h3 => injection h with h; subst h; exact ⟨by decide,.inl ⟨h3.1,h3.2,rfl⟩⟩
 split at h
 ·injection h with h; subst h; exact ⟨(form_shp _).1,.inr (form_shp _).2.1⟩
 ·cases h
theorem leaf_kids {n : Nd} {ks : List UInt8} {t : TokI} (hl : leafT n = some t) (h : kidsK n = some ks) : ks = [] ∧ n.pos = 0:=by
 have hk : n.kind = 1 ∨ n.kind = 2 ∨ n.kind = 3 ∨ n.kind = 6 ∨ n.kind = 7:=by
  unfold leafT at hl
  repeat' split at hl
  all_goals first | omega | cases hl
 unfold kidsK at h
 rcases hk with e | e | e | e | e <;> rw [e] at h <;>
  (rw [if_neg (by decide),if_neg (by decide),if_neg (by rintro ⟨h,_⟩; exact absurd h (by decide))] at h
   split at h
   ·next h2 => injection h with h; exact ⟨h.symm.trans (by decide),by have e0 : ((0 : Nat) : Int) = n.pos:=h2; omega⟩
   ·cases h)
section
variable {p : List Nd} {d : Nat}
theorem elems_next (lv : Nat) (k : UInt8) (hs : ∀ i j lv s,vAny p d false k i = some j → (fmtA p d false k i lv s).2 = j) : ∀ (m : Nat) (first : Bool) (i j : Nat),nextN (vAny p d false k) m i = some j → (elemsL (fmtA p d) k lv m first i).2 = j
 | 0,_,i,j,h => by rw [nextN] at h; injection h
 | m + 1,first,i,j,h => by
   rw [nextN] at h
   cases hx : vAny p d false k i with
   | none => rw [hx] at h; cases h
   | some q =>
     rw [hx] at h
     rw [elemsL]
     simp only [hs i q _ _ hx]
     exact elems_next lv k hs m false q j h
theorem args_next (lv : Nat) (hs : ∀ k i j lv s,vAny p d false k i = some j → (fmtA p d false k i lv s).2 = j) : ∀ (ks : List UInt8) (first : Bool) (i j : Nat),nextK (fun k j => vAny p d (blkB k) k j) ks i = some j →
  nextK (fun k j => vAny p d (blkB k) k j) (ks.dropWhile fun k => !blkB k) (argsE (fmtA p d) lv ks first i).2 = some j
 | [],_,i,j,h => by rw [argsE]; exact h
 | k :: ks,first,i,j,h => by
   rw [argsE]
   by_cases hb : blkB k = true
   ·rw [if_pos hb,List.dropWhile_cons,if_neg (by rw [hb]; decide)]; exact h
   ·have hb' : blkB k = false:=by simpa using hb
    rw [if_neg hb,List.dropWhile_cons,if_pos (by rw [hb']; decide)]
    rw [nextK] at h
    simp only [hb'] at h
    cases hx : vAny p d false k i with
    | none => rw [hx] at h; cases h
    | some q =>
      rw [hx] at h
      simp only [hs k i q _ _ hx]
      exact args_next lv hs ks false q j h
theorem blks_next (lv : Nat) (hs : ∀ k i j lv s,vAny p d true k i = some j → (fmtA p d true k i lv s).2 = j) : ∀ (ks : List UInt8) (first : Bool) (i j : Nat),ks.all blkB = true → nextK (fun k j => vAny p d (blkB k) k j) ks i = some j → (blksE (fmtA p d) lv ks first i).2 = j
 | [],_,i,j,_,h => by rw [nextK] at h; injection h
 | k :: ks,first,i,j,ha,h => by
   rw [List.all_cons,Bool.and_eq_true] at ha
   rw [nextK] at h
   simp only [ha.1] at h
   cases hx : vAny p d true k i with
   | none => rw [hx] at h; cases h
   | some q =>
     rw [hx] at h
     rw [blksE]
     simp only [hs k i q _ _ hx]
     exact blks_next lv hs ks false q j ha.2 h
end
theorem el_node {p : List Nd} {d : Nat} {k : UInt8} {i j : Nat} (h : vAny p (d + 1) false k i = some j) : ∃ n ks,p[i]? = some n ∧ accB k n.kind = true ∧ fieldsB n k = true ∧ kidsK n = some ks ∧ nextK (fun k j => vAny p d (blkB k) k j) ks (i + 1) = some j:=by
 rw [vAny] at h
 cases hn : p[i]? with
 | none => rw [hn] at h; cases h
 | some n =>
   rw [hn] at h
   simp only [] at h
   split at h
   ·next hx =>
    cases hk : kidsK n with
    | none => rw [hk] at h; cases h
    | some ks => rw [hk] at h; exact ⟨n,ks,rfl,hx.1,hx.2,hk,h⟩
   ·cases h
theorem bl_node {p : List Nd} {d : Nat} {k : UInt8} {i j : Nat} (h : vAny p (d + 1) true k i = some j) : ∃ n,p[i]? = some n ∧ (n.kind = 4 ∧ n.num = 0 ∧ n.str = [] ∧ 0 ≤ n.pos) ∧ nextN (vAny p d false k) n.pos.toNat (i + 1) = some j:=by
 rw [vAny] at h
 cases hn : p[i]? with
 | none => rw [hn] at h; cases h
 | some n =>
   rw [hn] at h
   simp only [] at h
   split at h
   ·next hx => exact ⟨n,rfl,hx,h⟩
   ·cases h
theorem fmt_next (p : List Nd) : ∀ (d : Nat) (b : Bool) (k : UInt8) (i j lv : Nat) (s : List UInt8),vAny p d b k i = some j → (fmtA p d b k i lv s).2 = j
 | 0,b,k,i,j,lv,s,h => by rw [vAny] at h; cases h
 | d + 1,true,k,i,j,lv,s,h => by
   obtain ⟨n,hn,_,hx⟩:=bl_node h
   rw [fmtA,hn]
   exact elems_next lv k (fun i j lv s h => fmt_next p d false k i j lv s h) _ _ _ _ hx
 | d + 1,false,k,i,j,lv,s,h => by
   obtain ⟨n,ks,hn,ha,hf,hk,hx⟩:=el_node h
   rw [fmtA,hn]
   simp only []
   cases hl : leafT n with
   | some t =>
     obtain ⟨rfl,_⟩:=leaf_kids hl hk
     rw [nextK] at hx
     injection hx
   | none =>
     simp only []
     by_cases h5 : n.kind = 5 ∧ n.pos = 0
     ·rw [if_pos h5]
      unfold kidsK at hk
      rw [if_pos h5.1,if_pos (by omega),h5.2] at hk
      injection hk with hk
      subst hk
      have e : nextK (fun k j => vAny p d (blkB k) k j) (List.replicate (Int.toNat 0) 101) (i + 1) = some (i + 1):=rfl
      rw [e] at hx
      injection hx
     ·rw [if_neg h5,hk]
      show (restE (fmtA p d) ks lv (i + 1)).2 = j
      have hsh:=(kids_shp hk).1
      unfold restE
      by_cases hks : ks = []
      ·subst hks; rw [if_pos rfl]; rw [nextK] at hx; injection hx
      ·rw [if_neg hks]
       unfold shpB at hsh
       rw [Bool.and_eq_true] at hsh
       exact blks_next lv (fun k i j lv s h => fmt_next p d true k i j lv s h) _ _ _ _ hsh.1 (args_next lv (fun k i j lv s h => fmt_next p d false k i j lv s h) ks true (i + 1) j hx)
def Fs (t : TokI) : Prop:=1 ≤ t.kind ∧ t.kind ≤ 4 ∧ ¬(t.kind = 2 ∧ t.str = [69,108,115,101])
theorem fs_mk {k num : Int} {s : List UInt8} (h : 1 ≤ k ∧ k ≤ 4) (h2 : k = 2 → s ≠ [69,108,115,101]) : Fs ⟨k,num,s,0⟩:=⟨h.1,h.2,fun h => h2 h.1 h.2⟩
theorem leaf_fs {n : Nd} {t : TokI} (hl : leafT n = some t) : Fs t:=by
 unfold leafT at hl
 repeat' split at hl
 all_goals first | (cases hl; done) | (injection hl with hl; subst hl; refine fs_mk (by omega) (fun h => ?_); first | omega | (intro h2; injection h2 with h2 _; exact absurd h2 (by decide)))
theorem head_fs (n : Nd) : Fs (headT n):=by
 unfold headT
 split
 ·exact fs_mk (by omega) (fun h => by omega)
 ·exact fs_mk (by omega) (fun _ => (form_shp n.kind).2.2)
theorem fmt_first (p : List Nd) {d : Nat} {k : UInt8} {i j : Nat} (lv : Nat) (h : vAny p d false k i = some j) : ∃ t r,Fs t ∧ ∀ s,(fmtA p d false k i lv s).1 = (s,t) :: r:=by
 cases d with
 | zero => rw [vAny] at h; cases h
 | succ d =>
   obtain ⟨n,ks,hn,ha,hf,hk,hx⟩:=el_node h
   cases hl : leafT n with
   | some t => exact ⟨t,[],leaf_fs hl,fun s => by rw [fmtA,hn]; simp only [hl]⟩
   | none =>
     by_cases h5 : n.kind = 5 ∧ n.pos = 0
     ·exact ⟨headT n,_,head_fs n,fun s => by rw [fmtA,hn]; simp only [hl]; rw [if_pos h5]⟩
     ·exact ⟨headT n,_,head_fs n,fun s => by rw [fmtA,hn]; simp only [hl]; rw [if_neg h5]⟩
theorem fmt_bfirst (p : List Nd) {d : Nat} {k : UInt8} {i j : Nat} (lv : Nat) (h : vAny p d true k i = some j) : ∃ r,∀ s,(fmtA p d true k i lv s).1 = (s,boT) :: r:=by
 cases d with
 | zero => rw [vAny] at h; cases h
 | succ d =>
   obtain ⟨n,hn,_,hx⟩:=bl_node h
   exact ⟨_,fun s => by rw [fmtA,hn]⟩
end Go.Proofs.YtoohondkpddmcaaGreatDoor
