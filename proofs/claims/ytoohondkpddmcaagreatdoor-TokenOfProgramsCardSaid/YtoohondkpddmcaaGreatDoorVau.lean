/- Fc Sb Sd -/
import Derived.Test.YtoohondkpddmcaaGreatDoorVat
import Derived.Test.YtoohondkpddmcaaGreatDoorVas
import Derived.Test.YtoohondkpddmcaaGreatDoorVah
set_option linter.unusedVariables false
set_option linter.unusedSimpArgs false
namespace Go.Proofs.YtoohondkpddmcaaGreatDoor
section
open Go.RowKit
theorem splitD_cutF : ∀ s : List UInt8,∃ x : List UInt8,(splitD s = [x] ∧ s = x) ∨ ∃ s',s = x ++ 46 :: s' ∧ splitD s = x :: splitD s'
 | [] => ⟨[],.inl ⟨rfl,rfl⟩⟩
 | c :: s => by
   obtain ⟨x,hx⟩:=splitD_cutF s
   by_cases hc : c = 46
   ·subst hc
    exact ⟨[],.inr ⟨s,rfl,splitD_dot s⟩⟩
   ·rcases hx with ⟨h1,h2⟩ | ⟨s',h1,h2⟩
    ·exact ⟨c :: x,.inl ⟨splitD_other c s hc x [] h1,by rw [h2]⟩⟩
    ·exact ⟨c :: x,.inr ⟨s',by rw [h1]; rfl,splitD_other c s hc x _ h2⟩⟩
theorem seg_ids {x : List UInt8} (h : segB x = true) : ∃ c r,x = c :: r ∧ letterB c = true ∧ ∀ y ∈ x,idB y = true:=by
 cases x with
 | nil => cases h
 | cons c r =>
   unfold segB at h
   simp only [Bool.and_eq_true] at h
   exact ⟨c,r,rfl,h.1.1.2,fun y hy => List.all_eq_true.1 h.1.2 y hy⟩
theorem word_front {x y : List UInt8} (h : ∀ c ∈ x,idB c = true) (hy : ∀ c r,y = c :: r → idB c = false) : wordN (x ++ y) = x.length:=by
 unfold wordN
 have hx : (x.takeWhile idB).length = x.length:=wordN_all h
 rw [tw_all hx,List.length_append]
 cases y with
 | nil => rfl
 | cons c r => rw [List.takeWhile_cons,if_neg (by rw [hy c r rfl]; decide)]; rfl
theorem segs_all : ∀ (f : Nat) (s : List UInt8),s.length ≤ f → (splitD s).all segB = true → (∃ c r,s = c :: r ∧ letterB c = true) ∧ segsN f s = some s.length
 | 0,s,h,ha => by
   obtain rfl : s = []:=List.eq_nil_of_length_eq_zero (by omega)
   exact absurd ha (by decide)
 | f + 1,s,h,ha => by
   obtain ⟨x,hx⟩:=splitD_cutF s
   have hsx : segB x = true:=by
    rcases hx with ⟨h1,_⟩ | ⟨s',_,h1⟩ <;> (rw [h1,List.all_cons,Bool.and_eq_true] at ha; exact ha.1)
   obtain ⟨c,r,hxe,hlc,hid⟩:=seg_ids hsx
   rcases hx with ⟨h1,h2⟩ | ⟨s',h1,h2⟩
   ·subst h2
    have hw : wordN s = s.length:=by have:=word_front (x:=s) (y:=[]) hid (fun c r e => by cases e); rwa [List.append_nil] at this
    refine ⟨⟨c,r,hxe,hlc⟩,?_⟩
    rw [hxe] at hw hsx ⊢
    rw [segsN,if_neg (by rw [hlc]; decide),hw,List.take_length,if_neg (by rw [hsx]; decide),List.drop_length]
   ·have hw : wordN s = x.length:=by rw [h1]; exact word_front hid (fun c r e => by injection e with e _; subst e; decide)
    have hls : s'.length ≤ f:=by have:=congrArg List.length h1; rw [List.length_append,List.length_cons] at this; omega
    rw [h2,List.all_cons,Bool.and_eq_true] at ha
    have ih:=(segs_all f s' hls ha.2).2
    have hs : s = c :: (r ++ 46 :: s'):=by rw [h1,hxe]; rfl
    refine ⟨⟨c,_,hs,hlc⟩,?_⟩
    have ht : s.take x.length = x:=by rw [h1,List.take_left]
    have hd : s.drop x.length = 46 :: s':=by rw [h1,List.drop_left]
    have hsl : s.length = x.length + 1 + s'.length:=by rw [h1,List.length_append,List.length_cons]; omega
    rw [hs] at hw ht hd hsl ⊢
    rw [segsN,if_neg (by rw [hlc]; decide),hw,ht,if_neg (by rw [hsx]; decide),hd]
    simp only [ih,Option.map_some,hsl]
theorem drop_car : ∀ s : List UInt8,s.drop (caretN s) = s.dropWhile (· == 94)
 | [] => rfl
 | c :: s => by
   unfold caretN
   rw [List.takeWhile_cons,List.dropWhile_cons]
   by_cases h : (c == 94) = true
   ·rw [if_pos h,if_pos h,List.length_cons,List.drop_succ_cons]
    exact drop_car s
   ·rw [if_neg h,if_neg h]; rfl
theorem nm_go {s : List UInt8} (n : Nat) (hp : preN s = n) (hn : n ≤ s.length) (h0 : s.drop n = [] → 0 < n) (h1 : s.drop n ≠ [] → (splitD (s.drop n)).all segB = true) : nmB s = true:=by
 unfold nmB
 rw [decide_eq_true_eq]
 unfold nameN
 rw [hp]
 cases hd : s.drop n with
 | nil =>
   have hl : s.length ≤ n:=List.drop_eq_nil_iff.1 hd
   simp only []
   rw [if_pos (h0 hd)]
   congr 1
   omega
 | cons c r =>
   have ha:=h1 (by rw [hd]; simp)
   rw [hd] at ha
   obtain ⟨⟨c',r',e,hl⟩,hs⟩:=segs_all (c :: r).length (c :: r) (Nat.le_refl _) ha
   injection e with e1 e2
   subst e1 e2
   simp only []
   rw [if_pos hl,hs]
   have:=congrArg List.length hd
   rw [List.length_drop] at this
   simp only [Option.map_some]
   congr 1
   omega
theorem par_nm {s : List UInt8} (h : parOk s = true) : nmB s = true:=by
 unfold parOk validB at h
 rw [Bool.and_eq_true] at h
 obtain ⟨h1,h2⟩:=h
 unfold preB at h1
 rw [decide_eq_true_eq] at h1
 cases hr : parRoot s with
 | true =>
   obtain ⟨t,rfl⟩ : ∃ t,s = 92 :: t:=by
    cases s with
    | nil => cases hr
    | cons c t =>
      have : (92 == c) = true:=by simpa [parRoot,Lib.hasPrefix] using hr
      exact ⟨t,by rw [← beq_iff_eq.1 this]⟩
   have hrest : parRest (92 :: t) = t:=by unfold parRest; rw [hr]; rfl
   refine nm_go 1 rfl (by simp) (fun _ => by omega) (fun hn => ?_)
   have hn' : t ≠ []:=hn
   unfold parSegs at h2
   rw [hrest,if_neg hn'] at h2
   exact h2
 | false =>
   have hc : ∀ r,s ≠ 92 :: r:=by
    rintro r rfl
    have : parRoot (92 :: r) = true:=by simp [parRoot,Lib.hasPrefix]
    rw [this] at hr; cases hr
   have hp : preN s = caretN s:=by
    unfold preN
    split
    ·next r => exact absurd rfl (hc r)
    ·rfl
   have hrest : parRest s = s.drop (caretN s):=by unfold parRest; rw [hr,drop_car]; rfl
   have hup : parUp s = caretN s:=by unfold parUp; rw [hr]; rfl
   refine nm_go (caretN s) hp (tw_le s) (fun hd => ?_) (fun hn => ?_)
   ·have hs : parSegs s = []:=by unfold parSegs; rw [hrest,if_pos hd]
    rw [hr,hs,hup] at h1
    obtain ⟨_,_,_,_,h5⟩:=h1
    rcases h5 with h5 | h5 | h5
    ·cases h5
    ·omega
    ·simp at h5
   ·unfold parSegs at h2
    rw [hrest,if_neg hn] at h2
    exact h2
def allOps : List Int:=[1,2,3,5,6,7,10,11,12,13,14,15,16,17,18,19,20,21,30,31,32,33,34,35,36,37,38,39,40,41,42,50,51,60,61,62,63,64,65,66,67,68,69,70,71,72,73,74,75,76,77,78,79,80,81,82,83,84,85,86,87,88]
theorem acc_ops {k : UInt8} {op : Int} (h : accB k op = true) : op ∈ allOps:=by
 have hx : op = 1 ∨ op = 2 ∨ op = 3 ∨ op = 5 ∨ op = 6 ∨ op = 7 ∨ (10 ≤ op ∧ op ≤ 21) ∨ (30 ≤ op ∧ op ≤ 42) ∨ op = 50 ∨ op = 51 ∨ (60 ≤ op ∧ op ≤ 88):=by
  unfold accB exprB dataB elemB at h
  repeat' split at h
  all_goals first | (cases h; done) | (simp only [Bool.or_eq_true,Bool.and_eq_true,beq_iff_eq,decide_eq_true_eq] at h; omega)
 have hall : ∀ i : Fin 100,((i.val : Int) = 1 ∨ (i.val : Int) = 2 ∨ (i.val : Int) = 3 ∨ (i.val : Int) = 5 ∨ (i.val : Int) = 6 ∨ (i.val : Int) = 7 ∨ (10 ≤ (i.val : Int) ∧ (i.val : Int) ≤ 21) ∨ (30 ≤ (i.val : Int) ∧ (i.val : Int) ≤ 42) ∨ (i.val : Int) = 50 ∨ (i.val : Int) = 51 ∨ (60 ≤ (i.val : Int) ∧ (i.val : Int) ≤ 88)) → (i.val : Int) ∈ allOps:=by decide +kernel
 obtain ⟨n,rfl⟩:=Int.eq_ofNat_of_zero_le (show 0 ≤ op by omega)
 exact hall ⟨n,by omega⟩ hx
theorem ops_words : ∀ op ∈ allOps,(op = 1 ∨ op = 2 ∨ op = 3 ∨ op = 5 ∨ op = 6 ∨ op = 7) ∨ (kwB (formP op).1 = true ∧ varW (formP op).1 = none ∧ opW (formP op).1 = op):=by decide +kernel
theorem local_words : ∀ i : Fin 8,kwB [76,111,99,97,108,UInt8.ofNat (48 + i.val)] = true ∧ varW [76,111,99,97,108,UInt8.ofNat (48 + i.val)] = some (6,i.val):=by decide +kernel
theorem arg_words : ∀ i : Fin 7,kwB [65,114,103,UInt8.ofNat (48 + i.val)] = true ∧ varW [65,114,103,UInt8.ofNat (48 + i.val)] = some (7,i.val):=by decide +kernel
def NumsOk (p : List Nd) : Prop:=∀ n ∈ p,0 ≤ n.num ∧ n.num ≤ 18446744073709551615
theorem okT_kw {w : List UInt8} (h : kwB w = true) : OkT ⟨2,0,w,0⟩:=⟨by unfold validT; simpa using h,Int.le_refl 0,by show (0 : Int) ≤ 18446744073709551615; omega⟩
theorem okT_nm {s : List UInt8} (h : nmB s = true) : OkT ⟨1,0,s,0⟩:=⟨by unfold validT; simpa using h,Int.le_refl 0,by show (0 : Int) ≤ 18446744073709551615; omega⟩
theorem okT_p {k : Int} (h : 5 ≤ k ∧ k ≤ 9) : OkT ⟨k,0,[],0⟩:=by
 refine ⟨?_,Int.le_refl 0,by show (0 : Int) ≤ 18446744073709551615; omega⟩
 unfold validT
 simp only
 rw [if_neg (by omega),if_neg (by omega),if_neg (by omega)]
 exact decide_eq_true (.inr h)
theorem leaf_ok {n : Nd} {k : UInt8} {t : TokI} (hf : fieldsB n k = true) (h0 : 0 ≤ n.num ∧ n.num ≤ 18446744073709551615) (hl : leafT n = some t) : OkT t:=by
 unfold leafT at hl
 unfold fieldsB at hf
 rw [Bool.and_eq_true] at hf
 obtain ⟨f1,f2⟩:=hf
 split at hl
 ·next e => injection hl with hl; subst hl; exact ⟨by unfold validT; simp,h0⟩
 next e1 =>
 rw [if_neg e1] at f1
 split at hl
 ·next e =>
  injection hl with hl; subst hl
  rw [if_neg (by omega),if_pos e] at f2
  exact ⟨by unfold validT; simpa using f2,Int.le_refl 0,by show (0 : Int) ≤ 18446744073709551615; omega⟩
 split at hl
 ·next e =>
  injection hl with hl; subst hl
  rw [if_pos (.inl e)] at f2
  unfold nameB at f2
  rw [Bool.and_eq_true] at f2
  exact okT_nm (par_nm f2.1)
 split at hl
 ·next e =>
  injection hl with hl; subst hl
  rw [if_pos e,decide_eq_true_eq] at f1
  have:=(local_words ⟨n.num.toNat,by omega⟩).1
  exact okT_kw this
 next e6 =>
 rw [if_neg e6] at f1
 split at hl
 ·next e =>
  injection hl with hl; subst hl
  rw [if_pos e,decide_eq_true_eq] at f1
  have:=(arg_words ⟨n.num.toNat,by omega⟩).1
  exact okT_kw this
 ·cases hl
theorem head_ok {n : Nd} {k : UInt8} (ha : accB k n.kind = true) (hf : fieldsB n k = true) (hl : leafT n = none) : OkT (headT n):=by
 have hw:=ops_words _ (acc_ops ha)
 unfold headT
 by_cases h5 : n.kind = 5
 ·rw [if_pos h5]
  unfold fieldsB at hf
  rw [Bool.and_eq_true] at hf
  have:=hf.2
  rw [if_pos (Or.inr h5)] at this
  unfold nameB at this
  rw [Bool.and_eq_true] at this
  exact okT_nm (par_nm this.1)
 ·rw [if_neg h5]
  have hne : ¬ (n.kind = 1 ∨ n.kind = 2 ∨ n.kind = 3 ∨ n.kind = 6 ∨ n.kind = 7):=by
   rintro h
   unfold leafT at hl
   rcases h with h | h | h | h | h <;> (rw [h] at hl; cases hl)
  rcases hw with hw | hw
  ·omega
  ·exact okT_kw hw.1
theorem chn_p {k : Int} {s : List UInt8} {r : PT} {pv : Prop} (hk : 5 ≤ k ∧ k ≤ 9) (hs : ∀ c ∈ s,blankB c = true) (h : Chn True r) : Chn pv ((s,⟨k,0,[],0⟩) :: r) :=
 ⟨.inr (.inr hk),hs,okT_p hk,h.weak (fun _ => hk)⟩
theorem bl32 : ∀ c ∈ ([32] : List UInt8),blankB c = true:=by intro c h; simp only [List.mem_cons,List.not_mem_nil,or_false] at h; subst h; rfl
theorem blNil : ∀ c ∈ ([] : List UInt8),blankB c = true:=by intro c h; cases h
theorem bl10 (n : Nat) : ∀ c ∈ (10 :: indL n : List UInt8),blankB c = true:=by
 intro c h
 rcases List.mem_cons.1 h with rfl | h
 ·rfl
 ·unfold indL at h; rw [List.eq_of_mem_replicate h]; rfl
def ChF (p : List Nd) (d : Nat) (b : Bool) : Prop:=∀ (k : UInt8) (i j lv : Nat) (s : List UInt8) (pv : Prop),vAny p d b k i = some j → (∀ c ∈ s,blankB c = true) → (pv ∨ s ≠ []) → Chn pv (fmtA p d b k i lv s).1
theorem fmt_ne (p : List Nd) {d : Nat} {b : Bool} {k : UInt8} {i j : Nat} (lv : Nat) (s : List UInt8) (h : vAny p d b k i = some j) : (fmtA p d b k i lv s).1 ≠ []:=by
 cases b with
 | false => obtain ⟨t,r,_,e⟩:=fmt_first p lv h; rw [e]; simp
 | true => obtain ⟨r,e⟩:=fmt_bfirst p lv h; rw [e]; simp
theorem elems_chn {p : List Nd} {d : Nat} (hs : ChF p d false) (k : UInt8) (lv : Nat) (tl : PT) (ht : Chn False tl) : ∀ (m : Nat) (first : Bool) (i j : Nat),nextN (vAny p d false k) m i = some j → Chn (first = true) ((elemsL (fmtA p d) k lv m first i).1 ++ tl)
 | 0,first,i,j,h => by rw [elemsL,List.nil_append]; exact ht.weak (fun h => h.elim)
 | m + 1,first,i,j,h => by
   rw [nextN] at h
   cases hx : vAny p d false k i with
   | none => rw [hx] at h; cases h
   | some q =>
     rw [hx] at h
     rw [elemsL]
     simp only [fmt_next p d false k i q _ _ hx]
     have ih:=elems_chn hs k lv tl ht m false q j h
     have hne:=fmt_ne p (elV k lv) (elS k lv first) hx
     have hbl : ∀ c ∈ elS k lv first,blankB c = true:=by
      unfold elS
      split
      ·split
       ·exact blNil
       ·exact bl32
      ·exact bl10 _
     have hel : ∀ pv,(pv ∨ elS k lv first ≠ []) → Chn pv ((fmtA p d false k i (elV k lv) (elS k lv first)).1 ++ ((elemsL (fmtA p d) k lv m false q).1 ++ tl)):=fun pv hp =>
      chn_app (hs k i q _ _ pv hx hbl hp) hne (ih.weak (fun h => by cases h))
     rw [List.append_assoc,List.append_assoc]
     unfold elC
     by_cases hl : listB k = true
     ·cases first with
      | true => rw [if_neg (by rintro ⟨_,h⟩; cases h),List.nil_append]; exact hel _ (.inl rfl)
      | false =>
        rw [if_pos ⟨hl,rfl⟩]
        refine chn_p (by omega) blNil (hel True (.inl trivial))
     ·rw [if_neg (fun h => hl h.1),List.nil_append]
      refine hel _ (.inr ?_)
      unfold elS
      rw [if_neg hl]
      simp
theorem args_chn {p : List Nd} {d : Nat} (hs : ChF p d false) (lv : Nat) (tl : PT) (ht : Chn False tl) : ∀ (ks : List UInt8) (first : Bool) (i j : Nat),nextK (fun k j => vAny p d (blkB k) k j) ks i = some j → Chn (first = true) ((argsE (fmtA p d) lv ks first i).1 ++ tl)
 | [],first,i,j,h => by rw [argsE]; exact chn_p (by omega) blNil (ht.weak (fun h => h.elim))
 | k :: ks,first,i,j,h => by
   rw [argsE]
   by_cases hb : blkB k = true
   ·rw [if_pos hb]; exact chn_p (by omega) blNil (ht.weak (fun h => h.elim))
   ·have hb' : blkB k = false:=by simpa using hb
    rw [if_neg hb]
    rw [nextK] at h
    simp only [hb'] at h
    cases hx : vAny p d false k i with
    | none => rw [hx] at h; cases h
    | some q =>
      rw [hx] at h
      simp only [fmt_next p d false k i q _ _ hx]
      have ih:=args_chn hs lv tl ht ks false q j h
      rw [List.append_assoc,List.append_assoc]
      have hel : ∀ pv s,(∀ c ∈ s,blankB c = true) → (pv ∨ s ≠ []) → Chn pv ((fmtA p d false k i lv s).1 ++ ((argsE (fmtA p d) lv ks false q).1 ++ tl)):=fun pv s hbl hp =>
       chn_app (hs k i q _ _ pv hx hbl hp) (fmt_ne p lv s hx) (ih.weak (fun h => by cases h))
      cases first with
      | true => rw [if_pos rfl,if_pos rfl,List.nil_append]; exact hel _ _ blNil (.inl rfl)
      | false =>
        rw [if_neg (by decide),if_neg (by decide)]
        exact chn_p (by omega) blNil (hel True _ bl32 (.inl trivial))
theorem blks_chn {p : List Nd} {d : Nat} (hs : ChF p d true) (lv : Nat) : ∀ (ks : List UInt8) (first : Bool) (i j : Nat),ks.all blkB = true → nextK (fun k j => vAny p d (blkB k) k j) ks i = some j → Chn False (blksE (fmtA p d) lv ks first i).1
 | [],first,i,j,ha,h => by rw [blksE]; trivial
 | k :: ks,first,i,j,ha,h => by
   rw [List.all_cons,Bool.and_eq_true] at ha
   rw [nextK] at h
   simp only [ha.1] at h
   cases hx : vAny p d true k i with
   | none => rw [hx] at h; cases h
   | some q =>
     rw [hx] at h
     rw [blksE]
     simp only [fmt_next p d true k i q _ _ hx]
     have ih:=blks_chn hs lv ks false q j ha.2 h
     have hel : ∀ pv,Chn pv ((fmtA p d true k i lv [32]).1 ++ (blksE (fmtA p d) lv ks false q).1):=fun pv =>
      chn_app (hs k i q _ _ pv hx bl32 (.inr (by simp))) (fmt_ne p lv _ hx) ih
     cases first with
     | true => rw [if_pos rfl,List.nil_append]; exact hel _
     | false =>
       rw [if_neg (by decide)]
       exact ⟨.inr (.inl (by simp)),bl32,okT_kw (by decide +kernel),hel _⟩
theorem rest_chn {p : List Nd} {d : Nat} (hf : ChF p d false) (ht : ChF p d true) (lv i j : Nat) (ks : List UInt8) (hsh : shpB ks = true) (h : nextK (fun k j => vAny p d (blkB k) k j) ks i = some j) : Chn False (restE (fmtA p d) ks lv i).1:=by
 unfold restE
 by_cases hks : ks = []
 ·rw [if_pos hks]; trivial
 ·rw [if_neg hks]
  unfold shpB at hsh
  rw [Bool.and_eq_true] at hsh
  have hn:=args_next lv (fun k i j lv s h => fmt_next p d false k i j lv s h) ks true i j h
  have hb:=blks_chn ht lv _ true _ j hsh.1 hn
  exact chn_p (by omega) bl32 ((args_chn hf lv _ hb ks true i j h).weak (fun _ => trivial))
theorem fmt_chn (p : List Nd) (hp : NumsOk p) : ∀ (d : Nat) (b : Bool),ChF p d b
 | 0,b,k,i,j,lv,s,pv,h,hs,hpv => by rw [vAny] at h; cases h
 | d + 1,true,k,i,j,lv,s,pv,h,hs,hpv => by
   obtain ⟨n,hn,_,hx⟩:=bl_node h
   rw [fmtA,hn]
   simp only []
   refine chn_p (by omega) hs ((elems_chn (fmt_chn p hp d false) k lv _ ?_ _ true _ _ hx).weak (fun _ => trivial))
   refine chn_p (by omega) ?_ trivial
   unfold endS
   split
   ·exact blNil
   ·exact bl10 _
 | d + 1,false,k,i,j,lv,s,pv,h,hs,hpv => by
   obtain ⟨n,ks,hn,ha,hf,hk,hx⟩:=el_node h
   have hm : n ∈ p:=List.mem_of_getElem? hn
   rw [fmtA,hn]
   simp only []
   cases hl : leafT n with
   | some t => exact ⟨hpv.imp id .inl,hs,leaf_ok hf (hp n hm) hl,trivial⟩
   | none =>
     simp only []
     have hho:=head_ok ha hf hl
     by_cases h5 : n.kind = 5 ∧ n.pos = 0
     ·rw [if_pos h5]
      exact ⟨hpv.imp id .inl,hs,hho,chn_p (by omega) bl32 (chn_p (by omega) blNil trivial)⟩
     ·rw [if_neg h5,hk]
      exact ⟨hpv.imp id .inl,hs,hho,(rest_chn (fmt_chn p hp d false) (fmt_chn p hp d true) lv _ _ ks (kids_shp hk).1 hx).weak (fun h => h.elim)⟩
theorem top_chn (p : List Nd) (hp : NumsOk p) : ∀ (f : Nat) (first : Bool) (i : Nat),vTop p f i = true → Chn (first = true) (topE p f first i)
 | 0,first,i,h => by rw [topE]; trivial
 | f + 1,first,i,h => by
   rw [topE]
   split
   ·trivial
   ·next hlt =>
    rw [vTop,if_neg hlt] at h
    cases hx : vAny p 32 false 68 i with
    | none => rw [hx] at h; cases h
    | some q =>
      rw [hx] at h
      simp only [] at h
      rw [fmt_next p 32 false 68 i q _ _ hx]
      refine chn_app (fmt_chn p hp 32 false 68 i q 0 _ _ hx ?_ ?_) (fmt_ne p 0 _ hx) ((top_chn p hp f false q h).weak (fun h => by cases h))
      ·split
       ·exact blNil
       ·intro c hc; simp only [List.mem_cons,List.not_mem_nil,or_false] at hc; subst hc; rfl
      ·cases first with
       | true => exact .inl rfl
       | false => exact .inr (by simp)
theorem fmt_scan (p : List Nd) (hp : NumsOk p) (hv : validL p = true) (hl : (fmtP p).length ≤ 65536) : scanL (fmtP p) = (toksP 0 (topE p p.length true 0),0,0):=by
 unfold validL at hv
 rw [Bool.and_eq_true] at hv
 unfold fmtP at hl ⊢
 refine chn_scan ((top_chn p hp p.length true 0 hv.2).weak (fun _ => trivial)) ?_ ?_ hl
 ·unfold tailL; split
  ·exact Brk.nil
  ·exact brk_cons rfl (by decide) (by decide)
 ·unfold tailL; split
  ·rfl
  ·rfl
theorem top_ok (p : List Nd) (hp : NumsOk p) (hv : validL p = true) : ∀ x ∈ topE p p.length true 0,OkT x.2:=by
 unfold validL at hv
 rw [Bool.and_eq_true] at hv
 exact (chn_good (tail:=[]) Brk.nil rfl (top_chn p hp p.length true 0 hv.2)).ok
end
section
open Go.RowKit
attribute [local go_sem] ByteArray.mk_append_mk bs_get bs_cut bs_end
def TAt (w : World) (b off : Nat) (t : TokI) : Prop:=w.cell? ⟨b,off,none⟩ = some (.int .i64 t.kind) ∧ w.cell? ⟨b,off + 1,none⟩ = some (.int .u64 t.num) ∧ w.cell? ⟨b,off + 2,none⟩ = some (.string ⟨t.str.toArray⟩) ∧ w.cell? ⟨b,off + 3,none⟩ = some (.int .i64 t.pos)
def tcI : List TokI → List Value
 | [] => []
 | t :: r => .int .i64 t.kind :: .int .u64 t.num :: .string ⟨t.str.toArray⟩ :: .int .i64 t.pos :: tcI r
theorem tcI_app : ∀ l m : List TokI,tcI (l ++ m) = tcI l ++ tcI m
 | [],m => rfl
 | t :: r,m => by rw [List.cons_append,tcI,tcI,tcI_app r m]; rfl
theorem tcI_len : ∀ l : List TokI,(tcI l).length = l.length * 4
 | [] => rfl
 | t :: r => by simp only [tcI,List.length_cons,tcI_len r]; omega
theorem tcI_at : ∀ (l : List TokI) (i : Nat) (h : i < l.length),(tcI l)[i * 4]? = some (.int .i64 l[i].kind) ∧ (tcI l)[i * 4 + 1]? = some (.int .u64 l[i].num) ∧ (tcI l)[i * 4 + 2]? = some (.string ⟨l[i].str.toArray⟩) ∧ (tcI l)[i * 4 + 3]? = some (.int .i64 l[i].pos)
 | t :: r,0,_ => ⟨rfl,rfl,rfl,rfl⟩
 | t :: r,i + 1,h => by
   have:=tcI_at r i (by simpa using h)
   rw [show (i + 1) * 4 = i * 4 + 4 by omega]
   exact this
def TokB (w : World) (B : Nat) (v : Value) (l : List TokI) : Prop :=
 ∃ (a : Option Addr) (cap : Nat),v = .slice a l.length cap ∧ l.length ≤ cap ∧ (l ≠ [] → ∃ b off,a = some ⟨b,off,none⟩ ∧ b < B ∧ ∀ i (h : i < l.length),TAt w b (off + i * 4) l[i])
theorem TAt.belowB {w w' : World} {B b off : Nat} {t : TokI} (h : TAt w b off t) (hb : Below B w w') (hB : b < B) : TAt w' b off t:=by
 obtain ⟨h0,h1,h2,h3⟩:=h
 refine ⟨?_,?_,?_,?_⟩
 ·rw [hb.cell (p:=⟨b,off,none⟩) hB]; exact h0
 ·rw [hb.cell (p:=⟨b,off + 1,none⟩) hB]; exact h1
 ·rw [hb.cell (p:=⟨b,off + 2,none⟩) hB]; exact h2
 ·rw [hb.cell (p:=⟨b,off + 3,none⟩) hB]; exact h3
theorem TokB.below {w w' : World} {B : Nat} {v : Value} {l : List TokI} (h : TokB w B v l) (hb : Below B w w') : TokB w' B v l:=by
 obtain ⟨a,cap,hv,hl,hc⟩:=h
 refine ⟨a,cap,hv,hl,fun hn => ?_⟩
 obtain ⟨b,off,ha,hB,hk⟩:=hc hn
 exact ⟨b,off,ha,hB,fun i hi => (hk i hi).belowB hb hB⟩
def tailV : Value → Value
 | .slice a n cap => sliced a 1 n cap 4
 | v => v
theorem TokB.tail {w : World} {B : Nat} {v : Value} {t : TokI} {q : List TokI} (h : TokB w B v (t :: q)) : TokB w B (tailV v) q:=by
 obtain ⟨a,cap,rfl,hl,hc⟩:=h
 obtain ⟨b,off,rfl,hB,hk⟩:=hc (by simp)
 rw [List.length_cons] at hl
 refine ⟨some (if cap = 1 then ⟨b,off,none⟩ else (Addr.add ⟨b,off,none⟩ (1 * 4))),cap - 1,?_,by omega,fun hn => ?_⟩
 ·by_cases h1 : cap = 1 <;> simp [tailV,sliced,slicedAt,h1]
 ·have hq:=List.length_pos_iff.2 hn
  rw [if_neg (by omega)]
  refine ⟨b,off + 4,by simp [Addr.add],hB,fun i hi => ?_⟩
  have:=hk (i + 1) (by simpa using hi)
  rw [show off + (i + 1) * 4 = off + 4 + i * 4 by omega] at this
  simpa using this
def NodesI (w : World) (B : Nat) (v : Value) (l : List Nd) : Prop:=w.ownsRow B 46 4 v l.length (tcI l)
theorem NodesI.nil (w : World) (B : Nat) : NodesI w B (.slice none 0 0) []:=⟨rfl,.inl ⟨rfl,rfl⟩⟩
theorem NodesI.below {w w' : World} {B : Nat} {v : Value} {l : List Nd} (h : NodesI w B v l) (hb : Below w.heap.size w w') : NodesI w' B v l:=own_below h hb
theorem NodesI.base {w : World} {B B' : Nat} {v : Value} {l : List Nd} (h : NodesI w B v l) (hB : B' ≤ B) : NodesI w B' v l:=own_base h hB
theorem NodesI.form {w : World} {B : Nat} {v : Value} {l : List Nd} (h : NodesI w B v l) : ∃ a c,v = .slice a l.length c:=by
 rcases h.2 with ⟨rfl,h0⟩ | ⟨g,cap,cur,rfl,_⟩
 ·exact ⟨none,0,by rw [h0]⟩
 ·exact ⟨_,cap,rfl⟩
theorem own_setOther {w : World} {B e z : Nat} {v : Value} {n : Nat} {xs : List Value} (h : w.ownsRow B e z v n xs) (p : Addr) (u : Value) (hp : v.ownBlock ≠ some p.block) : (w.setCell p u).ownsRow B e z v n xs:=by
 refine own_grown (row:=some p.block) h ⟨rfl,rfl,rfl,by simp [World.setCell],fun k hk hne => Below.heap_setCell _ _ _ _ (fun e => hne (by rw [e]))⟩ (fun g hg e => hp (by rw [hg,e]))
def TGood (r : List TokI) : Prop:=∀ t ∈ r,t.str.length ≤ 65536 ∧ (t.kind = 2 → t.str ≠ [])
theorem TGood.drop {r : List TokI} (h : TGood r) (k : Nat) : TGood (r.drop k):=fun t ht => h t (List.mem_of_mem_drop ht)
def SynG (m : Int) (w : World) : Prop:=w.cell? ⟨0,0,none⟩ = some (.int .i64 m) ∧
 (∀ j (h : j < exprT.length),w.cell? ⟨5,2 * j,none⟩ = some (.string ⟨exprT[j].1.toArray⟩) ∧ w.cell? ⟨5,2 * j + 1,none⟩ = some (.string ⟨exprT[j].2.toArray⟩)) ∧
 (∀ j (h : j < stmtT.length),w.cell? ⟨4,2 * j,none⟩ = some (.string ⟨stmtT[j].1.toArray⟩) ∧ w.cell? ⟨4,2 * j + 1,none⟩ = some (.string ⟨stmtT[j].2.toArray⟩)) ∧
 (∀ j (h : j < declT.length),w.cell? ⟨3,2 * j,none⟩ = some (.string ⟨declT[j].1.toArray⟩) ∧ w.cell? ⟨3,2 * j + 1,none⟩ = some (.string ⟨declT[j].2.toArray⟩))
def SynB (B : Nat) : Prop:=0 < B ∧ 5 < B ∧ 4 < B ∧ 3 < B
theorem SynG.below {m : Int} {w w' : World} {B : Nat} (h : SynG m w) (hb : Below B w w') (hB : SynB B) : SynG m w':=by
 obtain ⟨h1,h2,h3,h4⟩:=h
 refine ⟨(hb.cell (p:=⟨0,0,none⟩) hB.1).trans h1,fun j hj => ⟨?_,?_⟩,fun j hj => ⟨?_,?_⟩,fun j hj => ⟨?_,?_⟩⟩
 ·exact (hb.cell (p:=⟨_,2 * j,none⟩) hB.2.1).trans (h2 j hj).1
 ·exact (hb.cell (p:=⟨_,2 * j + 1,none⟩) hB.2.1).trans (h2 j hj).2
 ·exact (hb.cell (p:=⟨_,2 * j,none⟩) hB.2.2.1).trans (h3 j hj).1
 ·exact (hb.cell (p:=⟨_,2 * j + 1,none⟩) hB.2.2.1).trans (h3 j hj).2
 ·exact (hb.cell (p:=⟨_,2 * j,none⟩) hB.2.2.2).trans (h4 j hj).1
 ·exact (hb.cell (p:=⟨_,2 * j + 1,none⟩) hB.2.2.2).trans (h4 j hj).2
end
section
open Go.RowKit
attribute [local go_sem] ByteArray.mk_append_mk bs_get bs_cut bs_end
theorem infoNode : (Tryz.prog.info? 46).map (fun i => (i.zero,i.size,i.bytes)) = some (some (.agg #[.int .i64 0,.int .u64 0,.string ⟨#[]⟩,.int .i64 0]),4,40):=by kernel_rfl
abbrev nObj (a b : Int) (c : List UInt8) (d : Int) : Obj:=.cells #[.int .i64 a,.int .u64 b,.string ⟨c.toArray⟩,.int .i64 d] 46 (0,0)
def SameB (W : World) (b p : Nat) (x : World) : Prop:=x.heap[b]? = W.heap[b]? ∧ x.heap[p]? = W.heap[p]?
theorem SameB.some (W : World) (b p : Nat) : (∃ x,SameB W b p x) = True:=by simp only [eq_iff_iff,iff_true]; exact ⟨W,rfl,rfl⟩
theorem SameB.all (W : World) (b q : Nat) (p : Prop) : (∀ x,SameB W b q x → p) = p:=by
 simp only [eq_iff_iff]; exact ⟨fun h => h W ⟨rfl,rfl⟩,fun h _ _ => h⟩
attribute [local go_sem] SameB.some SameB.all
end
end Go.Proofs.YtoohondkpddmcaaGreatDoor
