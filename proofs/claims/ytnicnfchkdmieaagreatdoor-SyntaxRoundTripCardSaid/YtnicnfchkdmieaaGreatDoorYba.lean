/- Fe Jb -/
import Derived.Test.YtnicnfchkdmieaaGreatDoorYaz
set_option linter.unusedVariables false
set_option linter.unusedSimpArgs false
namespace Go.Proofs.YtnicnfchkdmieaaGreatDoor
section
open Go.RowKit
theorem okT_len {t : TokI} (h : OkT t) (hs : t.str.length ≤ 65536) : (fmtT t).length ≤ 65536 := by
 obtain ⟨h1, h2, h3⟩ := h
 by_cases h4 : t.kind = 4
 ·have hl : t.str.length ≤ 255 := by
   unfold validT at h1
   rw [if_neg (by omega), if_neg (by omega), if_pos h4] at h1
   exact of_decide_eq_true h1
  exact Nat.le_trans (fmtT_len (by unfold validT; rw [if_neg (by omega), if_neg (by omega), if_pos h4]; exact decide_eq_true hl) h3 hl) (by decide)
 ·unfold fmtT
  split
  ·exact hs
  ·split
   ·have := fmtI_len (v := t.num.toNat) (by omega); omega
   ·(try rw [if_neg h4])
    unfold punC
    repeat' split
    all_goals simp
theorem fmt_text (p : List Nd) {d : Nat} {b : Bool} {k : UInt8} {i j : Nat} (lv : Nat) (s : List UInt8) (h : vAny p d b k i = some j) : textP (fmtA p d b k i lv s).1 = s ++ textP (fmtA p d b k i lv []).1 := by
 cases b with
 | false => obtain ⟨t, r, _, e⟩ := fmt_first p lv h; rw [e, e, textP_cons, textP_cons, List.nil_append]
 | true => obtain ⟨r, e⟩ := fmt_bfirst p lv h; rw [e, e, textP_cons, textP_cons, List.nil_append]
def LnF (p : List Nd) (d : Nat) (b : Bool) : Prop := ∀ (k : UInt8) (i j lv : Nat) (s : List UInt8), vAny p d b k i = some j → lv + d ≤ 300 → (textP (fmtA p d b k i lv s).1).length + 1000 ≤ s.length + 100000 * (j - i)
theorem ind_len (n : Nat) : (indL n).length = 2 * n := by unfold indL; rw [List.length_replicate]
theorem elems_ln {p : List Nd} {d : Nat} (hs : LnF p d false) (k : UInt8) (lv : Nat) (hlv : lv + 1 + d ≤ 300) : ∀ (m : Nat) (first : Bool) (i j : Nat), nextN (vAny p d false k) m i = some j → (textP (elemsL (fmtA p d) k lv m first i).1).length ≤ 100000 * (j - i) ∧ i ≤ j
 | 0, first, i, j, h => by rw [nextN] at h; injection h with h; subst h; exact ⟨by rw [elemsL]; simp [textP_nil], Nat.le_refl _⟩
 | m + 1, first, i, j, h => by
   rw [nextN] at h
   cases hx : vAny p d false k i with
   | none => rw [hx] at h; cases h
   | some q =>
     rw [hx] at h
     have hiq := (vAny_good p d false k i q hx).1
     rw [elemsL]
     simp only [fmt_next p d false k i q _ _ hx]
     obtain ⟨h1, h2⟩ := elems_ln hs k lv hlv m false q j h
     have h3 := hs k i q (elV k lv) (elS k lv first) hx (by unfold elV; split <;> omega)
     have h4 : (elS k lv first).length ≤ 700 := by
      unfold elS
      split
      ·split <;> simp
      ·rw [List.length_cons, ind_len]; omega
     have h5 : (textP (elC k first)).length ≤ 10 := by unfold elC; split <;> simp [textP_cons, textP_nil, cmT, fmtT, punC]
     refine ⟨?_, by omega⟩
     rw [textP_app, textP_app, List.length_append, List.length_append]
     omega
theorem args_ln {p : List Nd} {d : Nat} (hs : LnF p d false) (lv : Nat) (hlv : lv + d ≤ 300) : ∀ (ks : List UInt8) (first : Bool) (i j : Nat), nextK (fun k j => vAny p d (blkB k) k j) ks i = some j → (textP (argsE (fmtA p d) lv ks first i).1).length ≤ 100000 * ((argsE (fmtA p d) lv ks first i).2 - i) + 10 ∧ i ≤ (argsE (fmtA p d) lv ks first i).2
 | [], first, i, j, h => by rw [argsE]; exact ⟨by simp [textP_cons, textP_nil, pcT, fmtT, punC], Nat.le_refl _⟩
 | k :: ks, first, i, j, h => by
   rw [argsE]
   by_cases hb : blkB k = true
   ·rw [if_pos hb]; exact ⟨by simp [textP_cons, textP_nil, pcT, fmtT, punC], Nat.le_refl _⟩
   ·have hb' : blkB k = false := by simpa using hb
    rw [if_neg hb]
    rw [nextK] at h
    simp only [hb'] at h
    cases hx : vAny p d false k i with
    | none => rw [hx] at h; cases h
    | some q =>
      rw [hx] at h
      have hiq := (vAny_good p d false k i q hx).1
      simp only [fmt_next p d false k i q _ _ hx]
      obtain ⟨h1, h2⟩ := args_ln hs lv hlv ks false q j h
      have h3 := hs k i q lv (if first = true then [] else [32]) hx hlv
      have h4 : (if first = true then ([] : List UInt8) else [32]).length ≤ 10 := by split <;> simp
      have h5 : (textP (if first = true then ([] : PT) else [([], cmT)])).length ≤ 10 := by split <;> simp [textP_cons, textP_nil, cmT, fmtT, punC]
      refine ⟨?_, by omega⟩
      rw [textP_app, textP_app, List.length_append, List.length_append]
      omega
theorem blks_ln {p : List Nd} {d : Nat} (hs : LnF p d true) (lv : Nat) (hlv : lv + d ≤ 300) : ∀ (ks : List UInt8) (first : Bool) (i j : Nat), ks.all blkB = true → nextK (fun k j => vAny p d (blkB k) k j) ks i = some j → (textP (blksE (fmtA p d) lv ks first i).1).length ≤ 100000 * (j - i) ∧ i ≤ j
 | [], first, i, j, ha, h => by rw [nextK] at h; injection h with h; subst h; exact ⟨by rw [blksE]; simp [textP_nil], Nat.le_refl _⟩
 | k :: ks, first, i, j, ha, h => by
   rw [List.all_cons, Bool.and_eq_true] at ha
   rw [nextK] at h
   simp only [ha.1] at h
   cases hx : vAny p d true k i with
   | none => rw [hx] at h; cases h
   | some q =>
     rw [hx] at h
     have hiq := (vAny_good p d true k i q hx).1
     rw [blksE]
     simp only [fmt_next p d true k i q _ _ hx]
     obtain ⟨h1, h2⟩ := blks_ln hs lv hlv ks false q j ha.2 h
     have h3 := hs k i q lv [32] hx hlv
     have h5 : (textP (if first = true then ([] : PT) else [([32], elT)])).length ≤ 10 := by split <;> simp [textP_cons, textP_nil, elT, fmtT]
     refine ⟨?_, by omega⟩
     rw [textP_app, textP_app, List.length_append, List.length_append]
     simp only [List.length_cons, List.length_nil] at h3
     omega
theorem fmt_ln (p : List Nd) (hp : NumsOk p) (hps : ∀ t ∈ p, t.str.length ≤ 65536) : ∀ (d : Nat) (b : Bool), LnF p d b
 | 0, b, k, i, j, lv, s, h, hlv => by rw [vAny] at h; cases h
 | d + 1, true, k, i, j, lv, s, h, hlv => by
   obtain ⟨n, hn, _, hx⟩ := bl_node h
   rw [fmtA, hn]
   simp only []
   obtain ⟨h1, h2⟩ := elems_ln (fmt_ln p hp hps d false) k lv (by omega) _ true _ _ hx
   rw [textP_cons, textP_app, List.length_append, List.length_append, List.length_append]
   have h3 : (fmtT boT).length = 1 := rfl
   have h4 : (textP [(endS k lv n.pos.toNat, bcT)]).length ≤ 700 := by
    rw [textP_cons, textP_nil, List.append_nil, List.length_append]
    have : (fmtT bcT).length = 1 := rfl
    have : (endS k lv n.pos.toNat).length ≤ 610 := by
     unfold endS
     split
     ·simp
     ·rw [List.length_cons, ind_len]; omega
    show (endS k lv n.pos.toNat).length + (fmtT bcT).length ≤ 700
    omega
   show s.length + ((fmtT boT).length + ((textP (elemsL (fmtA p d) k lv n.pos.toNat true (i + 1)).1).length + (textP [(endS k lv n.pos.toNat, bcT)]).length)) + 1000 ≤ _
   omega
 | d + 1, false, k, i, j, lv, s, h, hlv => by
   obtain ⟨n, ks, hn, ha, hf, hk, hx⟩ := el_node h
   have hm : n ∈ p := List.mem_of_getElem? hn
   have hij := (vAny_good p (d + 1) false k i j h).1
   rw [fmtA, hn]
   simp only []
   cases hl : leafT n with
   | some t =>
     simp only []
     have hst : t.str.length ≤ 65536 := by
      have := hps n hm
      unfold leafT at hl
      repeat' split at hl
      all_goals first | (injection hl with hl; subst hl; first | exact this | simp) | cases hl
     have := okT_len (leaf_ok hf (hp n hm) hl) hst
     rw [textP_cons, textP_nil, List.append_nil, List.length_append]
     show s.length + (fmtT t).length + 1000 ≤ _
     omega
   | none =>
     simp only []
     have hst : (headT n).str.length ≤ 65536 := by
      unfold headT
      split
      ·exact hps n hm
      ·have hw := ops_words _ (acc_ops ha)
       have hc : ∀ op ∈ allOps, (formP op).1.length ≤ 65536 := by decide +kernel
       exact hc _ (acc_ops ha)
     have hh := okT_len (head_ok ha hf hl) hst
     by_cases h5 : n.kind = 5 ∧ n.pos = 0
     ·rw [if_pos h5]
      rw [textP_cons, List.length_append, List.length_append]
      have : (textP [([32], poT), ([], pcT)]).length = 3 := rfl
      show s.length + ((fmtT (headT n)).length + (textP [([32], poT), ([], pcT)]).length) + 1000 ≤ _
      omega
     ·rw [if_neg h5, hk]
      rw [textP_cons, List.length_append, List.length_append]
      show s.length + ((fmtT (headT n)).length + (textP (restE (fmtA p d) ks lv (i + 1)).1).length) + 1000 ≤ _
      have hsh := (kids_shp hk).1
      have hr : (textP (restE (fmtA p d) ks lv (i + 1)).1).length ≤ 100000 * (j - (i + 1)) + 20 := by
       unfold restE
       by_cases hks : ks = []
       ·rw [if_pos hks]; simp [textP_nil]
       ·rw [if_neg hks]
        unfold shpB at hsh
        rw [Bool.and_eq_true] at hsh
        have hnx := args_next lv (fun k i j lv s h => fmt_next p d false k i j lv s h) ks true (i + 1) j hx
        obtain ⟨a1, a2⟩ := args_ln (fmt_ln p hp hps d false) lv (by omega) ks true (i + 1) j hx
        obtain ⟨b1, b2⟩ := blks_ln (fmt_ln p hp hps d true) lv (by omega) _ true _ j hsh.1 hnx
        show (textP (([32], poT) :: ((argsE (fmtA p d) lv ks true (i + 1)).1 ++ (blksE (fmtA p d) lv (ks.dropWhile fun k => !blkB k) true (argsE (fmtA p d) lv ks true (i + 1)).2).1))).length ≤ _
        rw [textP_cons, textP_app, List.length_append, List.length_append, List.length_append]
        have : (fmtT poT).length = 1 := rfl
        have : ([32] : List UInt8).length = 1 := rfl
        show ([32] : List UInt8).length + ((fmtT poT).length + ((textP (argsE (fmtA p d) lv ks true (i + 1)).1).length + (textP (blksE (fmtA p d) lv (ks.dropWhile fun k => !blkB k) true (argsE (fmtA p d) lv ks true (i + 1)).2).1).length)) ≤ _
        omega
      omega
theorem top_ln (p : List Nd) (hp : NumsOk p) (hps : ∀ t ∈ p, t.str.length ≤ 65536) : ∀ (f : Nat) (first : Bool) (i : Nat), i ≤ p.length → vTop p f i = true → (textP (topE p f first i)).length ≤ 100000 * (p.length - i)
 | 0, first, i, hi, h => by rw [topE]; simp [textP_nil]
 | f + 1, first, i, hi, h => by
   rw [topE]
   split
   ·simp [textP_nil]
   ·next hlt =>
    rw [vTop, if_neg hlt] at h
    cases hx : vAny p 32 false 68 i with
    | none => rw [hx] at h; cases h
    | some q =>
      rw [hx] at h
      simp only [] at h
      obtain ⟨h1, h2⟩ := vAny_good p 32 false 68 i q hx
      rw [fmt_next p 32 false 68 i q _ _ hx, textP_app, List.length_append]
      have h3 := fmt_ln p hp hps 32 false 68 i q 0 (if first = true then [] else [10]) hx (by omega)
      have h4 : (if first = true then ([] : List UInt8) else [10]).length ≤ 10 := by split <;> simp
      have h5 := top_ln p hp hps f false q h2 h
      omega
theorem fmtP_ln (p : List Nd) (hp : NumsOk p) (hps : ∀ t ∈ p, t.str.length ≤ 65536) (hv : validL p = true) : (fmtP p).length ≤ 300000000 := by
 have hv' := hv
 unfold validL at hv'
 simp only [Bool.and_eq_true, decide_eq_true_eq] at hv'
 have h := top_ln p hp hps p.length true 0 (Nat.zero_le _) hv'.2
 have h2 : (tailL p).length ≤ 1 := by unfold tailL; split <;> simp
 unfold fmtP
 rw [List.length_append]
 omega
end
section
open Go.RowKit
def closeT : List UInt8 → List UInt8
 | [] => [41]
 | k :: _ => if blkB k = true then [41] else []
def remT (p : List Nd) (d lv : Nat) : Nat → List UInt8 → Nat → List UInt8
 | _, [], _ => []
 | pv, k :: ks, i => if blkB k = true
   then (if pv = 2 then [32, 69, 108, 115, 101] else []) ++ (textP (fmtA p d true k i lv [32]).1 ++ remT p d lv 2 ks (fmtA p d true k i lv [32]).2)
   else (if pv = 0 then [32, 40] else [44, 32]) ++ (textP (fmtA p d false k i lv []).1 ++ (closeT ks ++ remT p d lv 1 ks (fmtA p d false k i lv []).2))
theorem fmt_nx {p : List Nd} {d : Nat} {b : Bool} {k : UInt8} {i j lv lv' : Nat} {s s' : List UInt8} (h : vAny p d b k i = some j) : (fmtA p d b k i lv s).2 = (fmtA p d b k i lv' s').2 := by
 rw [fmt_next p d b k i j lv s h, fmt_next p d b k i j lv' s' h]
theorem rem_blks (p : List Nd) (d lv : Nat) : ∀ (ks : List UInt8) (pv i : Nat), ks.all blkB = true → 1 ≤ pv → remT p d lv pv ks i = textP (blksE (fmtA p d) lv ks (decide (pv ≠ 2)) i).1
 | [], pv, i, _, _ => by rw [remT, blksE]; rfl
 | k :: ks, pv, i, ha, hp => by
   rw [List.all_cons, Bool.and_eq_true] at ha
   rw [remT, if_pos ha.1, blksE, rem_blks p d lv ks 2 _ ha.2 (by omega)]
   rw [textP_app, textP_app]
   by_cases h : pv = 2
   ·subst h; simp [textP_cons, textP_nil, elT, fmtT]
   ·simp [h, textP_nil]
theorem rem_args (p : List Nd) (d lv : Nat) : ∀ (ks : List UInt8) (i j : Nat), (ks.dropWhile fun k => !blkB k).all blkB = true → nextK (fun k j => vAny p d (blkB k) k j) ks i = some j →
  closeT ks ++ remT p d lv 1 ks i = textP (argsE (fmtA p d) lv ks false i).1 ++ textP (blksE (fmtA p d) lv (ks.dropWhile fun k => !blkB k) true (argsE (fmtA p d) lv ks false i).2).1
 | [], i, j, _, _ => by rw [remT, argsE, List.dropWhile_nil, blksE]; simp [closeT, textP_cons, textP_nil, pcT, fmtT, punC]
 | k :: ks, i, j, ha, h => by
   by_cases hb : blkB k = true
   ·have e : (k :: ks).dropWhile (fun k => !blkB k) = k :: ks := by rw [List.dropWhile_cons, if_neg (by rw [hb]; decide)]
    rw [e] at ha ⊢
    rw [rem_blks p d lv _ 1 i ha (Nat.le_refl _), argsE, if_pos hb]
    simp [closeT, hb, textP_cons, textP_nil, pcT, fmtT, punC]
   ·have hb' : blkB k = false := by simpa using hb
    have e : (k :: ks).dropWhile (fun k => !blkB k) = ks.dropWhile (fun k => !blkB k) := by rw [List.dropWhile_cons, if_pos (by rw [hb']; decide)]
    rw [e] at ha ⊢
    rw [nextK] at h
    simp only [hb'] at h
    cases hx : vAny p d false k i with
    | none => rw [hx] at h; cases h
    | some q =>
      rw [hx] at h
      rw [remT, if_neg hb, argsE, if_neg hb, if_neg (by omega)]
      simp only [fmt_next p d false k i q _ _ hx]
      rw [rem_args p d lv ks q j ha h, textP_app, textP_app]
      simp only [Bool.false_eq_true, ↓reduceIte]
      rw [fmt_text p _ [32] hx]
      simp [closeT, hb, textP_cons, textP_nil, cmT, fmtT, punC]
theorem rest_rem {p : List Nd} {d lv : Nat} {ks : List UInt8} {i j : Nat} (hs : shpB ks = true) (h : nextK (fun k j => vAny p d (blkB k) k j) ks i = some j) : textP (restE (fmtA p d) ks lv i).1 = remT p d lv 0 ks i := by
 unfold restE
 cases ks with
 | nil => rw [if_pos rfl, remT]; rfl
 | cons k ks =>
   rw [if_neg (by simp)]
   unfold shpB at hs
   rw [Bool.and_eq_true] at hs
   obtain ⟨ha, hb⟩ := hs
   have hb' : blkB k = false := by simpa using hb
   have e : (k :: ks).dropWhile (fun k => !blkB k) = ks.dropWhile (fun k => !blkB k) := by rw [List.dropWhile_cons, if_pos (by rw [hb']; decide)]
   rw [e] at ha ⊢
   rw [nextK] at h
   simp only [hb'] at h
   cases hx : vAny p d false k i with
   | none => rw [hx] at h; cases h
   | some q =>
     rw [hx] at h
     show textP (([32], poT) :: ((argsE (fmtA p d) lv (k :: ks) true i).1 ++ (blksE (fmtA p d) lv (ks.dropWhile fun k => !blkB k) true (argsE (fmtA p d) lv (k :: ks) true i).2).1)) = _
     rw [remT, if_neg (by rw [hb']; decide), if_pos rfl, textP_cons, textP_app, argsE, if_neg (by rw [hb']; decide)]
     simp only [↓reduceIte, fmt_next p d false k i q _ _ hx, List.nil_append]
     rw [rem_args p d lv ks q j ha h, textP_app]
     simp [poT, fmtT, punC]
def pvAt (ks : List UInt8) : Nat → Nat
 | 0 => 0
 | j + 1 => if blkB (ks.getD j 0) = true then 2 else 1
def remN (p : List Nd) (d : Nat) (k : UInt8) (lv : Nat) : Nat → Nat → List UInt8
 | 0, _ => []
 | m + 1, i => indL (lv + 1) ++ (textP (fmtA p d false k i (lv + 1) []).1 ++ (10 :: remN p d k lv m (fmtA p d false k i (lv + 1) []).2))
theorem remN_is {p : List Nd} {d : Nat} {k : UInt8} (hl : listB k = false) (lv : Nat) : ∀ (m : Nat) (first : Bool) (i j : Nat), nextN (vAny p d false k) m i = some j → textP (elemsL (fmtA p d) k lv m first i).1 ++ [10] = 10 :: remN p d k lv m i
 | 0, first, i, j, h => by rw [elemsL, remN]; rfl
 | m + 1, first, i, j, h => by
   rw [nextN] at h
   cases hx : vAny p d false k i with
   | none => rw [hx] at h; cases h
   | some q =>
     rw [hx] at h
     have ev : elV k lv = lv + 1 := by unfold elV; rw [if_neg (by rw [hl]; decide)]
     have es : elS k lv first = 10 :: indL (lv + 1) := by unfold elS; rw [if_neg (by rw [hl]; decide)]
     have ec : elC k first = [] := by unfold elC; rw [if_neg (by rw [hl]; simp)]
     rw [elemsL, remN, ev, es, ec]
     simp only [fmt_next p d false k i q _ _ hx]
     rw [List.nil_append, textP_app, List.append_assoc, remN_is hl lv m false q j h, fmt_text p _ _ hx]
     simp
theorem blk_lines {p : List Nd} {d : Nat} {k : UInt8} (hl : listB k = false) (lv m i j : Nat) (hm : m ≠ 0) (h : nextN (vAny p d false k) m i = some j) : textP (elemsL (fmtA p d) k lv m true i).1 ++ (endS k lv m ++ [125]) = 10 :: (remN p d k lv m i ++ (indL lv ++ [125])) := by
 have e : endS k lv m = 10 :: indL lv := by unfold endS; rw [if_neg (by rw [hl]; simp; exact hm)]
 have h1 := remN_is hl lv m true i j h
 rw [e, List.cons_append, show textP (elemsL (fmtA p d) k lv m true i).1 ++ 10 :: (indL lv ++ [125]) = (textP (elemsL (fmtA p d) k lv m true i).1 ++ [10]) ++ (indL lv ++ [125]) by simp, h1]
 simp
end
end Go.Proofs.YtnicnfchkdmieaaGreatDoor
