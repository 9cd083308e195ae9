/- Fb Fc -/
import Derived.Test.YtnicnfchkdmieaaGreatDoorYay
import Derived.Test.YtnicnfchkdmieaaGreatDoorYan
set_option linter.unusedVariables false
set_option linter.unusedSimpArgs false
namespace Go.Proofs.YtnicnfchkdmieaaGreatDoor
section
open Go.RowKit
def poT : TokI := ⟨5, 0, [], 0⟩
def pcT : TokI := ⟨6, 0, [], 0⟩
def boT : TokI := ⟨7, 0, [], 0⟩
def bcT : TokI := ⟨8, 0, [], 0⟩
def cmT : TokI := ⟨9, 0, [], 0⟩
def elT : TokI := ⟨2, 0, [69, 108, 115, 101], 0⟩
def indL (n : Nat) : List UInt8 := List.replicate (2 * n) 32
def leafT (n : Nd) : Option TokI :=
 if n.kind = 1 then some ⟨3, n.num, [], 0⟩ else if n.kind = 2 then some ⟨4, 0, n.str, 0⟩ else if n.kind = 3 then some ⟨1, 0, n.str, 0⟩
 else if n.kind = 6 then some ⟨2, 0, [76, 111, 99, 97, 108, UInt8.ofNat (48 + n.num.toNat)], 0⟩
 else if n.kind = 7 then some ⟨2, 0, [65, 114, 103, UInt8.ofNat (48 + n.num.toNat)], 0⟩ else none
def headT (n : Nd) : TokI := if n.kind = 5 then ⟨1, 0, n.str, 0⟩ else ⟨2, 0, (formP n.kind).1, 0⟩
section
variable (sub : Bool → UInt8 → Nat → Nat → List UInt8 → PT × Nat)
def elS (k : UInt8) (lv : Nat) (first : Bool) : List UInt8 := if listB k = true then (if first = true then [] else [32]) else 10 :: indL (lv + 1)
def elV (k : UInt8) (lv : Nat) : Nat := if listB k = true then lv else lv + 1
def elC (k : UInt8) (first : Bool) : PT := if listB k = true ∧ first = false then [([], cmT)] else []
def elemsL (k : UInt8) (lv : Nat) : Nat → Bool → Nat → PT × Nat
 | 0, _, i => ([], i)
 | m + 1, first, i =>
   (elC k first ++ ((sub false k i (elV k lv) (elS k lv first)).1 ++ (elemsL k lv m false (sub false k i (elV k lv) (elS k lv first)).2).1),
    (elemsL k lv m false (sub false k i (elV k lv) (elS k lv first)).2).2)
def argsE (lv : Nat) : List UInt8 → Bool → Nat → PT × Nat
 | [], _, i => ([([], pcT)], i)
 | k :: ks, first, i => if blkB k = true then ([([], pcT)], i) else
   ((if first = true then [] else [([], cmT)]) ++ ((sub false k i lv (if first = true then [] else [32])).1 ++ (argsE lv ks false (sub false k i lv (if first = true then [] else [32])).2).1),
     (argsE lv ks false (sub false k i lv (if first = true then [] else [32])).2).2)
def blksE (lv : Nat) : List UInt8 → Bool → Nat → PT × Nat
 | [], _, i => ([], i)
 | k :: ks, first, i =>
   ((if first = true then [] else [([32], elT)]) ++ ((sub true k i lv [32]).1 ++ (blksE lv ks false (sub true k i lv [32]).2).1), (blksE lv ks false (sub true k i lv [32]).2).2)
def restE (ks : List UInt8) (lv i : Nat) : PT × Nat :=
 if ks = [] then ([], i) else
  (([32], poT) :: ((argsE sub lv ks true i).1 ++ (blksE sub lv (ks.dropWhile fun k => !blkB k) true (argsE sub lv ks true i).2).1),
    (blksE sub lv (ks.dropWhile fun k => !blkB k) true (argsE sub lv ks true i).2).2)
end
def endS (k : UInt8) (lv m : Nat) : List UInt8 := if listB k = true ∨ m = 0 then [] else 10 :: indL lv
def fmtA (p : List Nd) : Nat → Bool → UInt8 → Nat → Nat → List UInt8 → PT × Nat
 | 0, _, _, i, _, _ => ([], i)
 | d + 1, true, k, i, lv, s => match p[i]? with
   | none => ([], i)
   | some n => ((s, boT) :: ((elemsL (fmtA p d) k lv n.pos.toNat true (i + 1)).1 ++ [(endS k lv n.pos.toNat, bcT)]), (elemsL (fmtA p d) k lv n.pos.toNat true (i + 1)).2)
 | d + 1, false, k, i, lv, s => match p[i]? with
   | none => ([], i)
   | some n => match leafT n with
     | some t => ([(s, t)], i + 1)
     | none => if n.kind = 5 ∧ n.pos = 0 then ([(s, headT n), ([32], poT), ([], pcT)], i + 1)
       else ((s, headT n) :: (restE (fmtA p d) ((kidsK n).getD []) lv (i + 1)).1, (restE (fmtA p d) ((kidsK n).getD []) lv (i + 1)).2)
def topE (p : List Nd) : Nat → Bool → Nat → PT
 | 0, _, _ => []
 | f + 1, first, i => if p.length ≤ i then [] else
   (fmtA p 32 false 68 i 0 (if first = true then [] else [10])).1 ++ topE p f false (fmtA p 32 false 68 i 0 (if first = true then [] else [10])).2
def tailL (p : List Nd) : List UInt8 := if p = [] then [] else [10]
def fmtP (p : List Nd) : List UInt8 := textP (topE p p.length true 0) ++ tailL p
def shpB (ks : List UInt8) : Bool := (ks.dropWhile fun k => !blkB k).all blkB && (match ks with | [] => true | k :: _ => !blkB k)
theorem form_shp (op : Int) : shpB (formP op).2 = true ∧ ((formP op).2.dropWhile fun k => !blkB k).length ≤ 1 ∧ (formP op).1 ≠ [69, 108, 115, 101] := by
 have h : ∀ (T : List (List UInt8 × List UInt8)), (T.all fun x => shpB x.2 && decide ((x.2.dropWhile fun k => !blkB k).length ≤ 1) && decide (x.1 ≠ [69, 108, 115, 101])) = true → ∀ j, shpB (T.getD j ([], [])).2 = true ∧ ((T.getD j ([], [])).2.dropWhile fun k => !blkB k).length ≤ 1 ∧ (T.getD j ([], [])).1 ≠ [69, 108, 115, 101] := by
  intro T hT j
  by_cases hj : j < T.length
  ·have e : T.getD j ([], []) = T[j] := by simp [List.getD, hj]
   rw [e]
   have := List.all_eq_true.1 hT _ (List.getElem_mem hj)
   simp only [Bool.and_eq_true, decide_eq_true_eq] at this
   exact ⟨this.1.1, this.1.2, this.2⟩
  ·have e : T.getD j ([], []) = ([], []) := by simp [List.getD, List.getElem?_eq_none (show T.length ≤ j by omega)]
   rw [e]; decide
 unfold formP
 split
 ·exact h declT (by decide +kernel) _
 split
 ·exact h stmtT (by decide +kernel) _
 split
 ·exact h exprT (by decide +kernel) _
 split
 ·decide
 split
 ·decide
 ·decide
theorem rep_drop (m : Nat) : (List.replicate m (101 : UInt8)).dropWhile (fun k => !blkB k) = [] := by
 induction m with
 | zero => rfl
 | succ m ih => rw [List.replicate_succ, List.dropWhile_cons, if_pos (by decide)]; exact ih
theorem rep_shp (m : Nat) : shpB (List.replicate m 101) = true := by
 unfold shpB
 rw [rep_drop]
 cases m with
 | zero => rfl
 | succ m => rw [List.replicate_succ]; rfl
theorem kids_shp {n : Nd} {ks : List UInt8} (h : kidsK n = some ks) : shpB ks = true ∧ ((n.kind = 31 ∧ n.pos = 3 ∧ ks = [101, 83, 83]) ∨ (ks.dropWhile fun k => !blkB k).length ≤ 1) := by
 unfold kidsK at h
 split at h
 ·split at h
  ·injection h with h; subst h; exact ⟨rep_shp _, .inr (by rw [rep_drop]; simp)⟩
  ·cases h
 split at h
 ·split at h
  ·injection h with h; subst h; exact ⟨rep_shp _, .inr (by rw [rep_drop]; simp)⟩
  ·cases h
 split at h
 ·next h3 => injection h with h; subst h; exact ⟨by decide, .inl ⟨h3.1, h3.2, rfl⟩⟩
 split at h
 ·injection h with h; subst h; exact ⟨(form_shp _).1, .inr (form_shp _).2.1⟩
 ·cases h
theorem leaf_kids {n : Nd} {ks : List UInt8} {t : TokI} (hl : leafT n = some t) (h : kidsK n = some ks) : ks = [] ∧ n.pos = 0 := by
 have hk : n.kind = 1 ∨ n.kind = 2 ∨ n.kind = 3 ∨ n.kind = 6 ∨ n.kind = 7 := by
  unfold leafT at hl
  repeat' split at hl
  all_goals first | omega | cases hl
 unfold kidsK at h
 rcases hk with e | e | e | e | e <;> rw [e] at h <;>
  (rw [if_neg (by decide), if_neg (by decide), if_neg (by rintro ⟨h, _⟩; exact absurd h (by decide))] at h
   split at h
   ·next h2 => injection h with h; exact ⟨h.symm.trans (by decide), by have e0 : ((0 : Nat) : Int) = n.pos := h2; omega⟩
   ·cases h)
section
variable {p : List Nd} {d : Nat}
theorem elems_next (lv : Nat) (k : UInt8) (hs : ∀ i j lv s, vAny p d false k i = some j → (fmtA p d false k i lv s).2 = j) : ∀ (m : Nat) (first : Bool) (i j : Nat), nextN (vAny p d false k) m i = some j → (elemsL (fmtA p d) k lv m first i).2 = j
 | 0, _, i, j, h => by rw [nextN] at h; injection h
 | m + 1, first, i, j, h => by
   rw [nextN] at h
   cases hx : vAny p d false k i with
   | none => rw [hx] at h; cases h
   | some q =>
     rw [hx] at h
     rw [elemsL]
     simp only [hs i q _ _ hx]
     exact elems_next lv k hs m false q j h
theorem args_next (lv : Nat) (hs : ∀ k i j lv s, vAny p d false k i = some j → (fmtA p d false k i lv s).2 = j) : ∀ (ks : List UInt8) (first : Bool) (i j : Nat), nextK (fun k j => vAny p d (blkB k) k j) ks i = some j →
  nextK (fun k j => vAny p d (blkB k) k j) (ks.dropWhile fun k => !blkB k) (argsE (fmtA p d) lv ks first i).2 = some j
 | [], _, i, j, h => by rw [argsE]; exact h
 | k :: ks, first, i, j, h => by
   rw [argsE]
   by_cases hb : blkB k = true
   ·rw [if_pos hb, List.dropWhile_cons, if_neg (by rw [hb]; decide)]; exact h
   ·have hb' : blkB k = false := by simpa using hb
    rw [if_neg hb, List.dropWhile_cons, if_pos (by rw [hb']; decide)]
    rw [nextK] at h
    simp only [hb'] at h
    cases hx : vAny p d false k i with
    | none => rw [hx] at h; cases h
    | some q =>
      rw [hx] at h
      simp only [hs k i q _ _ hx]
      exact args_next lv hs ks false q j h
theorem blks_next (lv : Nat) (hs : ∀ k i j lv s, vAny p d true k i = some j → (fmtA p d true k i lv s).2 = j) : ∀ (ks : List UInt8) (first : Bool) (i j : Nat), ks.all blkB = true → nextK (fun k j => vAny p d (blkB k) k j) ks i = some j → (blksE (fmtA p d) lv ks first i).2 = j
 | [], _, i, j, _, h => by rw [nextK] at h; injection h
 | k :: ks, first, i, j, ha, h => by
   rw [List.all_cons, Bool.and_eq_true] at ha
   rw [nextK] at h
   simp only [ha.1] at h
   cases hx : vAny p d true k i with
   | none => rw [hx] at h; cases h
   | some q =>
     rw [hx] at h
     rw [blksE]
     simp only [hs k i q _ _ hx]
     exact blks_next lv hs ks false q j ha.2 h
end
theorem el_node {p : List Nd} {d : Nat} {k : UInt8} {i j : Nat} (h : vAny p (d + 1) false k i = some j) : ∃ n ks, p[i]? = some n ∧ accB k n.kind = true ∧ fieldsB n k = true ∧ kidsK n = some ks ∧ nextK (fun k j => vAny p d (blkB k) k j) ks (i + 1) = some j := by
 rw [vAny] at h
 cases hn : p[i]? with
 | none => rw [hn] at h; cases h
 | some n =>
   rw [hn] at h
   simp only [] at h
   split at h
   ·next hx =>
    cases hk : kidsK n with
    | none => rw [hk] at h; cases h
    | some ks => rw [hk] at h; exact ⟨n, ks, rfl, hx.1, hx.2, hk, h⟩
   ·cases h
theorem bl_node {p : List Nd} {d : Nat} {k : UInt8} {i j : Nat} (h : vAny p (d + 1) true k i = some j) : ∃ n, p[i]? = some n ∧ (n.kind = 4 ∧ n.num = 0 ∧ n.str = [] ∧ 0 ≤ n.pos) ∧ nextN (vAny p d false k) n.pos.toNat (i + 1) = some j := by
 rw [vAny] at h
 cases hn : p[i]? with
 | none => rw [hn] at h; cases h
 | some n =>
   rw [hn] at h
   simp only [] at h
   split at h
   ·next hx => exact ⟨n, rfl, hx, h⟩
   ·cases h
theorem fmt_next (p : List Nd) : ∀ (d : Nat) (b : Bool) (k : UInt8) (i j lv : Nat) (s : List UInt8), vAny p d b k i = some j → (fmtA p d b k i lv s).2 = j
 | 0, b, k, i, j, lv, s, h => by rw [vAny] at h; cases h
 | d + 1, true, k, i, j, lv, s, h => by
   obtain ⟨n, hn, _, hx⟩ := bl_node h
   rw [fmtA, hn]
   exact elems_next lv k (fun i j lv s h => fmt_next p d false k i j lv s h) _ _ _ _ hx
 | d + 1, false, k, i, j, lv, s, h => by
   obtain ⟨n, ks, hn, ha, hf, hk, hx⟩ := el_node h
   rw [fmtA, hn]
   simp only []
   cases hl : leafT n with
   | some t =>
     obtain ⟨rfl, _⟩ := leaf_kids hl hk
     rw [nextK] at hx
     injection hx
   | none =>
     simp only []
     by_cases h5 : n.kind = 5 ∧ n.pos = 0
     ·rw [if_pos h5]
      unfold kidsK at hk
      rw [if_pos h5.1, if_pos (by omega), h5.2] at hk
      injection hk with hk
      subst hk
      have e : nextK (fun k j => vAny p d (blkB k) k j) (List.replicate (Int.toNat 0) 101) (i + 1) = some (i + 1) := rfl
      rw [e] at hx
      injection hx
     ·rw [if_neg h5, hk]
      show (restE (fmtA p d) ks lv (i + 1)).2 = j
      have hsh := (kids_shp hk).1
      unfold restE
      by_cases hks : ks = []
      ·subst hks; rw [if_pos rfl]; rw [nextK] at hx; injection hx
      ·rw [if_neg hks]
       unfold shpB at hsh
       rw [Bool.and_eq_true] at hsh
       exact blks_next lv (fun k i j lv s h => fmt_next p d true k i j lv s h) _ _ _ _ hsh.1 (args_next lv (fun k i j lv s h => fmt_next p d false k i j lv s h) ks true (i + 1) j hx)
def Fs (t : TokI) : Prop := 1 ≤ t.kind ∧ t.kind ≤ 4 ∧ ¬(t.kind = 2 ∧ t.str = [69, 108, 115, 101])
theorem fs_mk {k num : Int} {s : List UInt8} (h : 1 ≤ k ∧ k ≤ 4) (h2 : k = 2 → s ≠ [69, 108, 115, 101]) : Fs ⟨k, num, s, 0⟩ := ⟨h.1, h.2, fun h => h2 h.1 h.2⟩
theorem leaf_fs {n : Nd} {t : TokI} (hl : leafT n = some t) : Fs t := by
 unfold leafT at hl
 repeat' split at hl
 all_goals first | (cases hl; done) | (injection hl with hl; subst hl; refine fs_mk (by omega) (fun h => ?_); first | omega | (intro h2; injection h2 with h2 _; exact absurd h2 (by decide)))
theorem head_fs (n : Nd) : Fs (headT n) := by
 unfold headT
 split
 ·exact fs_mk (by omega) (fun h => by omega)
 ·exact fs_mk (by omega) (fun _ => (form_shp n.kind).2.2)
theorem fmt_first (p : List Nd) {d : Nat} {k : UInt8} {i j : Nat} (lv : Nat) (h : vAny p d false k i = some j) : ∃ t r, Fs t ∧ ∀ s, (fmtA p d false k i lv s).1 = (s, t) :: r := by
 cases d with
 | zero => rw [vAny] at h; cases h
 | succ d =>
   obtain ⟨n, ks, hn, ha, hf, hk, hx⟩ := el_node h
   cases hl : leafT n with
   | some t => exact ⟨t, [], leaf_fs hl, fun s => by rw [fmtA, hn]; simp only [hl]⟩
   | none =>
     by_cases h5 : n.kind = 5 ∧ n.pos = 0
     ·exact ⟨headT n, _, head_fs n, fun s => by rw [fmtA, hn]; simp only [hl]; rw [if_pos h5]⟩
     ·exact ⟨headT n, _, head_fs n, fun s => by rw [fmtA, hn]; simp only [hl]; rw [if_neg h5]⟩
theorem fmt_bfirst (p : List Nd) {d : Nat} {k : UInt8} {i j : Nat} (lv : Nat) (h : vAny p d true k i = some j) : ∃ r, ∀ s, (fmtA p d true k i lv s).1 = (s, boT) :: r := by
 cases d with
 | zero => rw [vAny] at h; cases h
 | succ d =>
   obtain ⟨n, hn, _, hx⟩ := bl_node h
   exact ⟨_, fun s => by rw [fmtA, hn]⟩
end
section
open Go.RowKit
theorem splitD_cutF : ∀ s : List UInt8, ∃ x : List UInt8, (splitD s = [x] ∧ s = x) ∨ ∃ s', s = x ++ 46 :: s' ∧ splitD s = x :: splitD s'
 | [] => ⟨[], .inl ⟨rfl, rfl⟩⟩
 | c :: s => by
   obtain ⟨x, hx⟩ := splitD_cutF s
   by_cases hc : c = 46
   ·subst hc
    exact ⟨[], .inr ⟨s, rfl, splitD_dot s⟩⟩
   ·rcases hx with ⟨h1, h2⟩ | ⟨s', h1, h2⟩
    ·exact ⟨c :: x, .inl ⟨splitD_other c s hc x [] h1, by rw [h2]⟩⟩
    ·exact ⟨c :: x, .inr ⟨s', by rw [h1]; rfl, splitD_other c s hc x _ h2⟩⟩
theorem seg_ids {x : List UInt8} (h : segB x = true) : ∃ c r, x = c :: r ∧ letterB c = true ∧ ∀ y ∈ x, idB y = true := by
 cases x with
 | nil => cases h
 | cons c r =>
   unfold segB at h
   simp only [Bool.and_eq_true] at h
   exact ⟨c, r, rfl, h.1.1.2, fun y hy => List.all_eq_true.1 h.1.2 y hy⟩
theorem word_front {x y : List UInt8} (h : ∀ c ∈ x, idB c = true) (hy : ∀ c r, y = c :: r → idB c = false) : wordN (x ++ y) = x.length := by
 unfold wordN
 have hx : (x.takeWhile idB).length = x.length := wordN_all h
 rw [tw_all hx, List.length_append]
 cases y with
 | nil => rfl
 | cons c r => rw [List.takeWhile_cons, if_neg (by rw [hy c r rfl]; decide)]; rfl
theorem segs_all : ∀ (f : Nat) (s : List UInt8), s.length ≤ f → (splitD s).all segB = true → (∃ c r, s = c :: r ∧ letterB c = true) ∧ segsN f s = some s.length
 | 0, s, h, ha => by
   obtain rfl : s = [] := List.eq_nil_of_length_eq_zero (by omega)
   exact absurd ha (by decide)
 | f + 1, s, h, ha => by
   obtain ⟨x, hx⟩ := splitD_cutF s
   have hsx : segB x = true := by
    rcases hx with ⟨h1, _⟩ | ⟨s', _, h1⟩ <;> (rw [h1, List.all_cons, Bool.and_eq_true] at ha; exact ha.1)
   obtain ⟨c, r, hxe, hlc, hid⟩ := seg_ids hsx
   rcases hx with ⟨h1, h2⟩ | ⟨s', h1, h2⟩
   ·subst h2
    have hw : wordN s = s.length := by have := word_front (x := s) (y := []) hid (fun c r e => by cases e); rwa [List.append_nil] at this
    refine ⟨⟨c, r, hxe, hlc⟩, ?_⟩
    rw [hxe] at hw hsx ⊢
    rw [segsN, if_neg (by rw [hlc]; decide), hw, List.take_length, if_neg (by rw [hsx]; decide), List.drop_length]
   ·have hw : wordN s = x.length := by rw [h1]; exact word_front hid (fun c r e => by injection e with e _; subst e; decide)
    have hls : s'.length ≤ f := by have := congrArg List.length h1; rw [List.length_append, List.length_cons] at this; omega
    rw [h2, List.all_cons, Bool.and_eq_true] at ha
    have ih := (segs_all f s' hls ha.2).2
    have hs : s = c :: (r ++ 46 :: s') := by rw [h1, hxe]; rfl
    refine ⟨⟨c, _, hs, hlc⟩, ?_⟩
    have ht : s.take x.length = x := by rw [h1, List.take_left]
    have hd : s.drop x.length = 46 :: s' := by rw [h1, List.drop_left]
    have hsl : s.length = x.length + 1 + s'.length := by rw [h1, List.length_append, List.length_cons]; omega
    rw [hs] at hw ht hd hsl ⊢
    rw [segsN, if_neg (by rw [hlc]; decide), hw, ht, if_neg (by rw [hsx]; decide), hd]
    simp only [ih, Option.map_some, hsl]
theorem drop_car : ∀ s : List UInt8, s.drop (caretN s) = s.dropWhile (· == 94)
 | [] => rfl
 | c :: s => by
   unfold caretN
   rw [List.takeWhile_cons, List.dropWhile_cons]
   by_cases h : (c == 94) = true
   ·rw [if_pos h, if_pos h, List.length_cons, List.drop_succ_cons]
    exact drop_car s
   ·rw [if_neg h, if_neg h]; rfl
theorem nm_go {s : List UInt8} (n : Nat) (hp : preN s = n) (hn : n ≤ s.length) (h0 : s.drop n = [] → 0 < n) (h1 : s.drop n ≠ [] → (splitD (s.drop n)).all segB = true) : nmB s = true := by
 unfold nmB
 rw [decide_eq_true_eq]
 unfold nameN
 rw [hp]
 cases hd : s.drop n with
 | nil =>
   have hl : s.length ≤ n := List.drop_eq_nil_iff.1 hd
   simp only []
   rw [if_pos (h0 hd)]
   congr 1
   omega
 | cons c r =>
   have ha := h1 (by rw [hd]; simp)
   rw [hd] at ha
   obtain ⟨⟨c', r', e, hl⟩, hs⟩ := segs_all (c :: r).length (c :: r) (Nat.le_refl _) ha
   injection e with e1 e2
   subst e1 e2
   simp only []
   rw [if_pos hl, hs]
   have := congrArg List.length hd
   rw [List.length_drop] at this
   simp only [Option.map_some]
   congr 1
   omega
theorem par_nm {s : List UInt8} (h : parOk s = true) : nmB s = true := by
 unfold parOk validB at h
 rw [Bool.and_eq_true] at h
 obtain ⟨h1, h2⟩ := h
 unfold preB at h1
 rw [decide_eq_true_eq] at h1
 cases hr : parRoot s with
 | true =>
   obtain ⟨t, rfl⟩ : ∃ t, s = 92 :: t := by
    cases s with
    | nil => cases hr
    | cons c t =>
      have : (92 == c) = true := by simpa [parRoot, Lib.hasPrefix] using hr
      exact ⟨t, by rw [← beq_iff_eq.1 this]⟩
   have hrest : parRest (92 :: t) = t := by unfold parRest; rw [hr]; rfl
   refine nm_go 1 rfl (by simp) (fun _ => by omega) (fun hn => ?_)
   have hn' : t ≠ [] := hn
   unfold parSegs at h2
   rw [hrest, if_neg hn'] at h2
   exact h2
 | false =>
   have hc : ∀ r, s ≠ 92 :: r := by
    rintro r rfl
    have : parRoot (92 :: r) = true := by simp [parRoot, Lib.hasPrefix]
    rw [this] at hr; cases hr
   have hp : preN s = caretN s := by
    unfold preN
    split
    ·next r => exact absurd rfl (hc r)
    ·rfl
   have hrest : parRest s = s.drop (caretN s) := by unfold parRest; rw [hr, drop_car]; rfl
   have hup : parUp s = caretN s := by unfold parUp; rw [hr]; rfl
   refine nm_go (caretN s) hp (tw_le s) (fun hd => ?_) (fun hn => ?_)
   ·have hs : parSegs s = [] := by unfold parSegs; rw [hrest, if_pos hd]
    rw [hr, hs, hup] at h1
    obtain ⟨_, _, _, _, h5⟩ := h1
    rcases h5 with h5 | h5 | h5
    ·cases h5
    ·omega
    ·simp at h5
   ·unfold parSegs at h2
    rw [hrest, if_neg hn] at h2
    exact h2
def allOps : List Int := [1, 2, 3, 5, 6, 7, 10, 11, 12, 13, 14, 15, 16, 17, 18, 19, 20, 21, 30, 31, 32, 33, 34, 35, 36, 37, 38, 39, 40, 41, 42, 50, 51, 60, 61, 62, 63, 64, 65, 66, 67, 68, 69, 70, 71, 72, 73, 74, 75, 76, 77, 78, 79, 80, 81, 82, 83, 84, 85, 86, 87, 88]
theorem acc_ops {k : UInt8} {op : Int} (h : accB k op = true) : op ∈ allOps := by
 have hx : op = 1 ∨ op = 2 ∨ op = 3 ∨ op = 5 ∨ op = 6 ∨ op = 7 ∨ (10 ≤ op ∧ op ≤ 21) ∨ (30 ≤ op ∧ op ≤ 42) ∨ op = 50 ∨ op = 51 ∨ (60 ≤ op ∧ op ≤ 88) := by
  unfold accB exprB dataB elemB at h
  repeat' split at h
  all_goals first | (cases h; done) | (simp only [Bool.or_eq_true, Bool.and_eq_true, beq_iff_eq, decide_eq_true_eq] at h; omega)
 have hall : ∀ i : Fin 100, ((i.val : Int) = 1 ∨ (i.val : Int) = 2 ∨ (i.val : Int) = 3 ∨ (i.val : Int) = 5 ∨ (i.val : Int) = 6 ∨ (i.val : Int) = 7 ∨ (10 ≤ (i.val : Int) ∧ (i.val : Int) ≤ 21) ∨ (30 ≤ (i.val : Int) ∧ (i.val : Int) ≤ 42) ∨ (i.val : Int) = 50 ∨ (i.val : Int) = 51 ∨ (60 ≤ (i.val : Int) ∧ (i.val : Int) ≤ 88)) → (i.val : Int) ∈ allOps := by decide +kernel
 obtain ⟨n, rfl⟩ := Int.eq_ofNat_of_zero_le (show 0 ≤ op by omega)
 exact hall ⟨n, by omega⟩ hx
theorem ops_words : ∀ op ∈ allOps, (op = 1 ∨ op = 2 ∨ op = 3 ∨ op = 5 ∨ op = 6 ∨ op = 7) ∨ (kwB (formP op).1 = true ∧ varW (formP op).1 = none ∧ opW (formP op).1 = op) := by decide +kernel
theorem local_words : ∀ i : Fin 8, kwB [76, 111, 99, 97, 108, UInt8.ofNat (48 + i.val)] = true ∧ varW [76, 111, 99, 97, 108, UInt8.ofNat (48 + i.val)] = some (6, i.val) := by decide +kernel
theorem arg_words : ∀ i : Fin 7, kwB [65, 114, 103, UInt8.ofNat (48 + i.val)] = true ∧ varW [65, 114, 103, UInt8.ofNat (48 + i.val)] = some (7, i.val) := by decide +kernel
def NumsOk (p : List Nd) : Prop := ∀ n ∈ p, 0 ≤ n.num ∧ n.num ≤ 18446744073709551615
theorem okT_kw {w : List UInt8} (h : kwB w = true) : OkT ⟨2, 0, w, 0⟩ := ⟨by unfold validT; simpa using h, Int.le_refl 0, by show (0 : Int) ≤ 18446744073709551615; omega⟩
theorem okT_nm {s : List UInt8} (h : nmB s = true) : OkT ⟨1, 0, s, 0⟩ := ⟨by unfold validT; simpa using h, Int.le_refl 0, by show (0 : Int) ≤ 18446744073709551615; omega⟩
theorem okT_p {k : Int} (h : 5 ≤ k ∧ k ≤ 9) : OkT ⟨k, 0, [], 0⟩ := by
 refine ⟨?_, Int.le_refl 0, by show (0 : Int) ≤ 18446744073709551615; omega⟩
 unfold validT
 simp only
 rw [if_neg (by omega), if_neg (by omega), if_neg (by omega)]
 exact decide_eq_true (.inr h)
theorem leaf_ok {n : Nd} {k : UInt8} {t : TokI} (hf : fieldsB n k = true) (h0 : 0 ≤ n.num ∧ n.num ≤ 18446744073709551615) (hl : leafT n = some t) : OkT t := by
 unfold leafT at hl
 unfold fieldsB at hf
 rw [Bool.and_eq_true] at hf
 obtain ⟨f1, f2⟩ := hf
 split at hl
 ·next e => injection hl with hl; subst hl; exact ⟨by unfold validT; simp, h0⟩
 next e1 =>
 rw [if_neg e1] at f1
 split at hl
 ·next e =>
  injection hl with hl; subst hl
  rw [if_neg (by omega), if_pos e] at f2
  exact ⟨by unfold validT; simpa using f2, Int.le_refl 0, by show (0 : Int) ≤ 18446744073709551615; omega⟩
 split at hl
 ·next e =>
  injection hl with hl; subst hl
  rw [if_pos (.inl e)] at f2
  unfold nameB at f2
  rw [Bool.and_eq_true] at f2
  exact okT_nm (par_nm f2.1)
 split at hl
 ·next e =>
  injection hl with hl; subst hl
  rw [if_pos e, decide_eq_true_eq] at f1
  have := (local_words ⟨n.num.toNat, by omega⟩).1
  exact okT_kw this
 next e6 =>
 rw [if_neg e6] at f1
 split at hl
 ·next e =>
  injection hl with hl; subst hl
  rw [if_pos e, decide_eq_true_eq] at f1
  have := (arg_words ⟨n.num.toNat, by omega⟩).1
  exact okT_kw this
 ·cases hl
theorem head_ok {n : Nd} {k : UInt8} (ha : accB k n.kind = true) (hf : fieldsB n k = true) (hl : leafT n = none) : OkT (headT n) := by
 have hw := ops_words _ (acc_ops ha)
 unfold headT
 by_cases h5 : n.kind = 5
 ·rw [if_pos h5]
  unfold fieldsB at hf
  rw [Bool.and_eq_true] at hf
  have := hf.2
  rw [if_pos (Or.inr h5)] at this
  unfold nameB at this
  rw [Bool.and_eq_true] at this
  exact okT_nm (par_nm this.1)
 ·rw [if_neg h5]
  have hne : ¬ (n.kind = 1 ∨ n.kind = 2 ∨ n.kind = 3 ∨ n.kind = 6 ∨ n.kind = 7) := by
   rintro h
   unfold leafT at hl
   rcases h with h | h | h | h | h <;> (rw [h] at hl; cases hl)
  rcases hw with hw | hw
  ·omega
  ·exact okT_kw hw.1
theorem chn_p {k : Int} {s : List UInt8} {r : PT} {pv : Prop} (hk : 5 ≤ k ∧ k ≤ 9) (hs : ∀ c ∈ s, blankB c = true) (h : Chn True r) : Chn pv ((s, ⟨k, 0, [], 0⟩) :: r) :=
 ⟨.inr (.inr hk), hs, okT_p hk, h.weak (fun _ => hk)⟩
theorem bl32 : ∀ c ∈ ([32] : List UInt8), blankB c = true := by intro c h; simp only [List.mem_cons, List.not_mem_nil, or_false] at h; subst h; rfl
theorem blNil : ∀ c ∈ ([] : List UInt8), blankB c = true := by intro c h; cases h
theorem bl10 (n : Nat) : ∀ c ∈ (10 :: indL n : List UInt8), blankB c = true := by
 intro c h
 rcases List.mem_cons.1 h with rfl | h
 ·rfl
 ·unfold indL at h; rw [List.eq_of_mem_replicate h]; rfl
def ChF (p : List Nd) (d : Nat) (b : Bool) : Prop := ∀ (k : UInt8) (i j lv : Nat) (s : List UInt8) (pv : Prop), vAny p d b k i = some j → (∀ c ∈ s, blankB c = true) → (pv ∨ s ≠ []) → Chn pv (fmtA p d b k i lv s).1
theorem fmt_ne (p : List Nd) {d : Nat} {b : Bool} {k : UInt8} {i j : Nat} (lv : Nat) (s : List UInt8) (h : vAny p d b k i = some j) : (fmtA p d b k i lv s).1 ≠ [] := by
 cases b with
 | false => obtain ⟨t, r, _, e⟩ := fmt_first p lv h; rw [e]; simp
 | true => obtain ⟨r, e⟩ := fmt_bfirst p lv h; rw [e]; simp
theorem elems_chn {p : List Nd} {d : Nat} (hs : ChF p d false) (k : UInt8) (lv : Nat) (tl : PT) (ht : Chn False tl) : ∀ (m : Nat) (first : Bool) (i j : Nat), nextN (vAny p d false k) m i = some j → Chn (first = true) ((elemsL (fmtA p d) k lv m first i).1 ++ tl)
 | 0, first, i, j, h => by rw [elemsL, List.nil_append]; exact ht.weak (fun h => h.elim)
 | m + 1, first, i, j, h => by
   rw [nextN] at h
   cases hx : vAny p d false k i with
   | none => rw [hx] at h; cases h
   | some q =>
     rw [hx] at h
     rw [elemsL]
     simp only [fmt_next p d false k i q _ _ hx]
     have ih := elems_chn hs k lv tl ht m false q j h
     have hne := fmt_ne p (elV k lv) (elS k lv first) hx
     have hbl : ∀ c ∈ elS k lv first, blankB c = true := by
      unfold elS
      split
      ·split
       ·exact blNil
       ·exact bl32
      ·exact bl10 _
     have hel : ∀ pv, (pv ∨ elS k lv first ≠ []) → Chn pv ((fmtA p d false k i (elV k lv) (elS k lv first)).1 ++ ((elemsL (fmtA p d) k lv m false q).1 ++ tl)) := fun pv hp =>
      chn_app (hs k i q _ _ pv hx hbl hp) hne (ih.weak (fun h => by cases h))
     rw [List.append_assoc, List.append_assoc]
     unfold elC
     by_cases hl : listB k = true
     ·cases first with
      | true => rw [if_neg (by rintro ⟨_, h⟩; cases h), List.nil_append]; exact hel _ (.inl rfl)
      | false =>
        rw [if_pos ⟨hl, rfl⟩]
        refine chn_p (by omega) blNil (hel True (.inl trivial))
     ·rw [if_neg (fun h => hl h.1), List.nil_append]
      refine hel _ (.inr ?_)
      unfold elS
      rw [if_neg hl]
      simp
theorem args_chn {p : List Nd} {d : Nat} (hs : ChF p d false) (lv : Nat) (tl : PT) (ht : Chn False tl) : ∀ (ks : List UInt8) (first : Bool) (i j : Nat), nextK (fun k j => vAny p d (blkB k) k j) ks i = some j → Chn (first = true) ((argsE (fmtA p d) lv ks first i).1 ++ tl)
 | [], first, i, j, h => by rw [argsE]; exact chn_p (by omega) blNil (ht.weak (fun h => h.elim))
 | k :: ks, first, i, j, h => by
   rw [argsE]
   by_cases hb : blkB k = true
   ·rw [if_pos hb]; exact chn_p (by omega) blNil (ht.weak (fun h => h.elim))
   ·have hb' : blkB k = false := by simpa using hb
    rw [if_neg hb]
    rw [nextK] at h
    simp only [hb'] at h
    cases hx : vAny p d false k i with
    | none => rw [hx] at h; cases h
    | some q =>
      rw [hx] at h
      simp only [fmt_next p d false k i q _ _ hx]
      have ih := args_chn hs lv tl ht ks false q j h
      rw [List.append_assoc, List.append_assoc]
      have hel : ∀ pv s, (∀ c ∈ s, blankB c = true) → (pv ∨ s ≠ []) → Chn pv ((fmtA p d false k i lv s).1 ++ ((argsE (fmtA p d) lv ks false q).1 ++ tl)) := fun pv s hbl hp =>
       chn_app (hs k i q _ _ pv hx hbl hp) (fmt_ne p lv s hx) (ih.weak (fun h => by cases h))
      cases first with
      | true => rw [if_pos rfl, if_pos rfl, List.nil_append]; exact hel _ _ blNil (.inl rfl)
      | false =>
        rw [if_neg (by decide), if_neg (by decide)]
        exact chn_p (by omega) blNil (hel True _ bl32 (.inl trivial))
theorem blks_chn {p : List Nd} {d : Nat} (hs : ChF p d true) (lv : Nat) : ∀ (ks : List UInt8) (first : Bool) (i j : Nat), ks.all blkB = true → nextK (fun k j => vAny p d (blkB k) k j) ks i = some j → Chn False (blksE (fmtA p d) lv ks first i).1
 | [], first, i, j, ha, h => by rw [blksE]; trivial
 | k :: ks, first, i, j, ha, h => by
   rw [List.all_cons, Bool.and_eq_true] at ha
   rw [nextK] at h
   simp only [ha.1] at h
   cases hx : vAny p d true k i with
   | none => rw [hx] at h; cases h
   | some q =>
     rw [hx] at h
     rw [blksE]
     simp only [fmt_next p d true k i q _ _ hx]
     have ih := blks_chn hs lv ks false q j ha.2 h
     have hel : ∀ pv, Chn pv ((fmtA p d true k i lv [32]).1 ++ (blksE (fmtA p d) lv ks false q).1) := fun pv =>
      chn_app (hs k i q _ _ pv hx bl32 (.inr (by simp))) (fmt_ne p lv _ hx) ih
     cases first with
     | true => rw [if_pos rfl, List.nil_append]; exact hel _
     | false =>
       rw [if_neg (by decide)]
       exact ⟨.inr (.inl (by simp)), bl32, okT_kw (by decide +kernel), hel _⟩
theorem rest_chn {p : List Nd} {d : Nat} (hf : ChF p d false) (ht : ChF p d true) (lv i j : Nat) (ks : List UInt8) (hsh : shpB ks = true) (h : nextK (fun k j => vAny p d (blkB k) k j) ks i = some j) : Chn False (restE (fmtA p d) ks lv i).1 := by
 unfold restE
 by_cases hks : ks = []
 ·rw [if_pos hks]; trivial
 ·rw [if_neg hks]
  unfold shpB at hsh
  rw [Bool.and_eq_true] at hsh
  have hn := args_next lv (fun k i j lv s h => fmt_next p d false k i j lv s h) ks true i j h
  have hb := blks_chn ht lv _ true _ j hsh.1 hn
  exact chn_p (by omega) bl32 ((args_chn hf lv _ hb ks true i j h).weak (fun _ => trivial))
theorem fmt_chn (p : List Nd) (hp : NumsOk p) : ∀ (d : Nat) (b : Bool), ChF p d b
 | 0, b, k, i, j, lv, s, pv, h, hs, hpv => by rw [vAny] at h; cases h
 | d + 1, true, k, i, j, lv, s, pv, h, hs, hpv => by
   obtain ⟨n, hn, _, hx⟩ := bl_node h
   rw [fmtA, hn]
   simp only []
   refine chn_p (by omega) hs ((elems_chn (fmt_chn p hp d false) k lv _ ?_ _ true _ _ hx).weak (fun _ => trivial))
   refine chn_p (by omega) ?_ trivial
   unfold endS
   split
   ·exact blNil
   ·exact bl10 _
 | d + 1, false, k, i, j, lv, s, pv, h, hs, hpv => by
   obtain ⟨n, ks, hn, ha, hf, hk, hx⟩ := el_node h
   have hm : n ∈ p := List.mem_of_getElem? hn
   rw [fmtA, hn]
   simp only []
   cases hl : leafT n with
   | some t => exact ⟨hpv.imp id .inl, hs, leaf_ok hf (hp n hm) hl, trivial⟩
   | none =>
     simp only []
     have hho := head_ok ha hf hl
     by_cases h5 : n.kind = 5 ∧ n.pos = 0
     ·rw [if_pos h5]
      exact ⟨hpv.imp id .inl, hs, hho, chn_p (by omega) bl32 (chn_p (by omega) blNil trivial)⟩
     ·rw [if_neg h5, hk]
      exact ⟨hpv.imp id .inl, hs, hho, (rest_chn (fmt_chn p hp d false) (fmt_chn p hp d true) lv _ _ ks (kids_shp hk).1 hx).weak (fun h => h.elim)⟩
theorem top_chn (p : List Nd) (hp : NumsOk p) : ∀ (f : Nat) (first : Bool) (i : Nat), vTop p f i = true → Chn (first = true) (topE p f first i)
 | 0, first, i, h => by rw [topE]; trivial
 | f + 1, first, i, h => by
   rw [topE]
   split
   ·trivial
   ·next hlt =>
    rw [vTop, if_neg hlt] at h
    cases hx : vAny p 32 false 68 i with
    | none => rw [hx] at h; cases h
    | some q =>
      rw [hx] at h
      simp only [] at h
      rw [fmt_next p 32 false 68 i q _ _ hx]
      refine chn_app (fmt_chn p hp 32 false 68 i q 0 _ _ hx ?_ ?_) (fmt_ne p 0 _ hx) ((top_chn p hp f false q h).weak (fun h => by cases h))
      ·split
       ·exact blNil
       ·intro c hc; simp only [List.mem_cons, List.not_mem_nil, or_false] at hc; subst hc; rfl
      ·cases first with
       | true => exact .inl rfl
       | false => exact .inr (by simp)
theorem fmt_scan (p : List Nd) (hp : NumsOk p) (hv : validL p = true) (hl : (fmtP p).length ≤ 65536) : scanL (fmtP p) = (toksP 0 (topE p p.length true 0), 0, 0) := by
 unfold validL at hv
 rw [Bool.and_eq_true] at hv
 unfold fmtP at hl ⊢
 refine chn_scan ((top_chn p hp p.length true 0 hv.2).weak (fun _ => trivial)) ?_ ?_ hl
 ·unfold tailL; split
  ·exact Brk.nil
  ·exact brk_cons rfl (by decide) (by decide)
 ·unfold tailL; split
  ·rfl
  ·rfl
theorem top_ok (p : List Nd) (hp : NumsOk p) (hv : validL p = true) : ∀ x ∈ topE p p.length true 0, OkT x.2 := by
 unfold validL at hv
 rw [Bool.and_eq_true] at hv
 exact (chn_good (tail := []) Brk.nil rfl (top_chn p hp p.length true 0 hv.2)).ok
end
end Go.Proofs.YtnicnfchkdmieaaGreatDoor
