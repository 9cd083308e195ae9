/- Fd -/
import Derived.Test.YtnicnfchkdmieaaGreatDoorXaq
import Derived.Test.YtnicnfchkdmieaaGreatDoorXax
set_option linter.unusedVariables false
set_option linter.unusedSimpArgs false
namespace Go.Proofs.YtnicnfchkdmieaaGreatDoor
open Go.RowKit
def BM (T : List TokI) (L : PT) : Prop:=T.map bareT = L.map fun x => bareT x.2
theorem BM.app {T : List TokI} {A B : PT} (h : BM T (A ++ B)) : ∃ T1 T2,T = T1 ++ T2 ∧ BM T1 A ∧ BM T2 B:=by
 unfold BM at h
 rw [List.map_append] at h
 obtain ⟨T1,T2,e,h1,h2⟩:=List.map_eq_append_iff.1 h
 exact ⟨T1,T2,e,h1,h2⟩
theorem BM.cons {T : List TokI} {x : List UInt8 × TokI} {B : PT} (h : BM T (x :: B)) : ∃ t T',T = t :: T' ∧ bareT t = bareT x.2 ∧ BM T' B:=by
 cases T with
 | nil => cases h
 | cons t T' =>
   unfold BM at h
   rw [List.map_cons,List.map_cons] at h
   injection h with h1 h2
   exact ⟨t,T',rfl,h1,h2⟩
theorem BM.nil {T : List TokI} (h : BM T []) : T = []:=by
 cases T with
 | nil => rfl
 | cons t T' => cases h
theorem BM.one {T : List TokI} {x : List UInt8 × TokI} (h : BM T [x]) : ∃ t,T = [t] ∧ bareT t = bareT x.2:=by
 obtain ⟨t,T',rfl,h1,h2⟩:=h.cons
 exact ⟨t,by rw [h2.nil],h1⟩
theorem bareT_kind (t : TokI) : (bareT t).kind = t.kind:=by
 unfold bareT
 split
 ·rfl
 ·split <;> rfl
theorem bare_kind {t u : TokI} (h : bareT t = bareT u) : t.kind = u.kind:=by
 have:=congrArg TokI.kind h
 rwa [bareT_kind,bareT_kind] at this
theorem bare_str {t u : TokI} (h : bareT t = bareT u) (hk : u.kind = 1 ∨ u.kind = 2 ∨ u.kind = 4) : t.str = u.str:=by
 have hk' : t.kind = 1 ∨ t.kind = 2 ∨ t.kind = 4:=by rw [bare_kind h]; exact hk
 unfold bareT at h
 rw [if_pos hk,if_pos hk'] at h
 injection h
theorem bare_num {t u : TokI} (h : bareT t = bareT u) (hk : u.kind = 3) : t.num = u.num:=by
 have hk' : t.kind = 3:=by rw [bare_kind h]; exact hk
 have h1 : bareT t = ⟨t.kind,t.num,[],0⟩:=by unfold bareT; rw [if_neg (by omega),if_pos hk']
 have h2 : bareT u = ⟨u.kind,u.num,[],0⟩:=by unfold bareT; rw [if_neg (by omega),if_pos hk]
 rw [h1,h2] at h
 injection h
def seg (p : List Nd) (i j : Nat) : List Nd:=(p.drop i).take (j - i)
theorem seg_nil (p : List Nd) (i : Nat) : seg p i i = []:=by unfold seg; rw [Nat.sub_self,List.take_zero]
theorem seg_app (p : List Nd) {i j k : Nat} (h1 : i ≤ j) (h2 : j ≤ k) : seg p i j ++ seg p j k = seg p i k:=by
 unfold seg
 rw [show k - i = (j - i) + (k - j) by omega,List.take_add,List.drop_drop,show i + (j - i) = j by omega]
theorem seg_one {p : List Nd} {i : Nat} {n : Nd} (h : p[i]? = some n) : seg p i (i + 1) = [n]:=by
 obtain ⟨hi,e⟩:=List.getElem?_eq_some_iff.1 h
 unfold seg
 rw [List.drop_eq_getElem_cons hi,show i + 1 - i = 1 by omega,List.take_succ_cons,List.take_zero,e]
theorem seg_cons {p : List Nd} {i j : Nat} {n : Nd} (h : p[i]? = some n) (hj : i + 1 ≤ j) : seg p i j = n :: seg p (i + 1) j:=by
 rw [← seg_app p (Nat.le_succ i) hj,seg_one h]; rfl
def Nxt (r : List TokI) : Prop:=atT 5 r = false ∧ elseT r = false
theorem nxt_p {t : TokI} {r : List TokI} (h : 6 ≤ t.kind) : Nxt (t :: r):=by
 constructor
 ·show (t.kind == 5) = false
  rw [beq_eq_false_iff_ne]; omega
 ·show (t.kind == 2 && t.str == [69,108,115,101]) = false
  rw [Bool.and_eq_false_iff]; left; rw [beq_eq_false_iff_ne]; omega
theorem nxt_fs {t : TokI} {r : List TokI} (h : Fs t) : Nxt (t :: r):=by
 obtain ⟨h1,h2,h3⟩:=h
 constructor
 ·show (t.kind == 5) = false
  rw [beq_eq_false_iff_ne]; omega
 ·show (t.kind == 2 && t.str == [69,108,115,101]) = false
  rw [Bool.eq_false_iff]
  intro h
  rw [Bool.and_eq_true,beq_iff_eq,beq_iff_eq] at h
  exact h3 h
theorem fs_bare {t u : TokI} (h : bareT t = bareT u) (hu : Fs u) : Fs t:=by
 obtain ⟨h1,h2,h3⟩:=hu
 have hk:=bare_kind h
 refine ⟨by omega,by omega,fun hx => h3 ⟨by omega,?_⟩⟩
 rw [← bare_str h (by omega)]; exact hx.2
theorem atT_of {t : TokI} {r : List TokI} {k : Int} (h : t.kind = k) : atT k (t :: r) = true:=by show (t.kind == k) = true; rw [beq_iff_eq]; exact h
theorem atT_no {t : TokI} {r : List TokI} {k : Int} (h : t.kind ≠ k) : atT k (t :: r) = false:=by show (t.kind == k) = false; rw [beq_eq_false_iff_ne]; exact h
section
variable (p : List Nd) (d : Nat)
def PbE : Prop:=∀ (k : UInt8) (i j lv : Nat) (s : List UInt8) (T r : List TokI) (F : Nat),vAny p d false k i = some j → T.length ≤ F → BM T (fmtA p d false k i lv s).1 → Nxt r → subP F k (T ++ r) = .ok r (seg p i j)
def PbB : Prop:=∀ (k : UInt8) (i j lv : Nat) (s : List UInt8) (T r : List TokI) (F : Nat),vAny p d true k i = some j → T.length ≤ F + 1 → BM T (fmtA p d true k i lv s).1 → blockP (subP F) k (T ++ r) = .ok r (seg p i j)
end
theorem bm_first {p : List Nd} {d : Nat} {k : UInt8} {i j lv : Nat} {s : List UInt8} {T : List TokI} {B : PT} (h : vAny p d false k i = some j) (hT : BM T ((fmtA p d false k i lv s).1 ++ B)) : ∃ t T',T = t :: T' ∧ Fs t:=by
 obtain ⟨t0,r0,h0,e0⟩:=fmt_first p lv h
 rw [e0] at hT
 obtain ⟨t,T',rfl,hb,_⟩:=hT.cons
 exact ⟨t,T',rfl,fs_bare hb h0⟩
theorem elems_nxt {p : List Nd} {d : Nat} {k : UInt8} {lv : Nat} {z : List UInt8} {m i j : Nat} {T r : List TokI} (h : nextN (vAny p d false k) m i = some j) (hT : BM T ((elemsL (fmtA p d) k lv m false i).1 ++ [(z,bcT)])) : Nxt (T ++ r):=by
 cases m with
 | zero =>
   rw [elemsL] at hT
   obtain ⟨t,rfl,hb⟩:=hT.one
   have hk8 : t.kind = 8:=bare_kind hb
   exact nxt_p (by omega)
 | succ m =>
   rw [nextN] at h
   cases hx : vAny p d false k i with
   | none => rw [hx] at h; cases h
   | some q =>
     rw [elemsL] at hT
     simp only [] at hT
     unfold elC at hT
     by_cases hl : listB k = true
     ·rw [if_pos ⟨hl,rfl⟩,List.append_assoc,List.singleton_append] at hT
      obtain ⟨t,T',rfl,hb,_⟩:=hT.cons
      have hk9 : t.kind = 9:=bare_kind hb
      exact nxt_p (by omega)
     ·rw [if_neg (fun h => hl h.1),List.nil_append,List.append_assoc] at hT
      obtain ⟨t,T',rfl,hf⟩:=bm_first hx hT
      exact nxt_fs hf
theorem vAny_lt {p : List Nd} {d : Nat} {b : Bool} {k : UInt8} {i j : Nat} (h : vAny p d b k i = some j) : i < j ∧ j ≤ p.length:=vAny_good p d b k i j h
theorem blockL_back {p : List Nd} {d F : Nat} {k : UInt8} {lv : Nat} {z : List UInt8} (hs : PbE p d) : ∀ (m : Nat) (first : Bool) (i j c : Nat) (ns : List Nd) (f : Nat) (T r : List TokI),nextN (vAny p d false k) m i = some j → (first = true ↔ c = 0) → BM T ((elemsL (fmtA p d) k lv m first i).1 ++ [(z,bcT)]) → T.length ≤ f → T.length ≤ F →
  blockL (subP F) k f c ns (T ++ r) = .ok r (⟨4,0,[],((c + m : Nat) : Int)⟩ :: (ns ++ seg p i j))
 | 0,first,i,j,c,ns,f,T,r,h,hc,hT,hf,hF => by
   rw [elemsL] at hT
   obtain ⟨t,rfl,hb⟩:=hT.one
   rw [nextN] at h
   injection h with h
   subst h
   cases f with
   | zero => simp at hf
   | succ f =>
     rw [List.singleton_append,blockL,if_pos (atT_of (show t.kind = 8 from bare_kind hb)),seg_nil,List.append_nil]
     rfl
 | m + 1,first,i,j,c,ns,f,T,r,h,hc,hT,hf,hF => by
   rw [nextN] at h
   cases hx : vAny p d false k i with
   | none => rw [hx] at h; cases h
   | some q =>
     rw [hx] at h
     simp only [] at h
     rw [elemsL] at hT
     simp only [fmt_next p d false k i q _ _ hx,List.append_assoc] at hT
     obtain ⟨Tc,T1,rfl,hTc,hT1⟩:=hT.app
     have hfst:=bm_first hx hT1
     obtain ⟨Te,Ty,rfl,hTe,hTy⟩:=hT1.app
     have hnx : Nxt (Ty ++ r):=elems_nxt h hTy
     simp only [List.length_append] at hf hF
     have hsub:=hs k i q _ _ Te (Ty ++ r) F hx (by omega) hTe hnx
     obtain ⟨hq1,hq2⟩:=vAny_lt hx
     have hqj : q ≤ j:=(nextN_good (fun i j => vAny_good p d false k i j) m q j h hq2).1
     have hel : 1 ≤ Te.length:=by
      obtain ⟨t0,r0,_,e0⟩:=fmt_first p (elV k lv) hx
      rw [e0] at hTe
      obtain ⟨t,T',rfl,_⟩:=hTe.cons
      simp
     cases f with
     | zero => omega
     | succ f =>
       have ih:=blockL_back (F:=F) hs m false q j (c + 1) (ns ++ seg p i q) f Ty r h ⟨fun h => (by cases h),fun h => absurd h (by omega)⟩ hTy (by omega) (by omega)
       have hfin : (PR.ok r (⟨4,0,[],((c + 1 + m : Nat) : Int)⟩ :: (ns ++ seg p i q ++ seg p q j)) : PR) = .ok r (⟨4,0,[],((c + (m + 1) : Nat) : Int)⟩ :: (ns ++ seg p i j)):=by
        rw [List.append_assoc,seg_app p (Nat.le_of_lt hq1) hqj,show c + 1 + m = c + (m + 1) by omega]
       rw [blockL]
       by_cases hl : listB k = true ∧ first = false
       ·have hcm : Tc = [] ++ Tc:=rfl
        unfold elC at hTc
        rw [if_pos hl] at hTc
        obtain ⟨t,rfl,hb⟩:=hTc.one
        have hk9 : t.kind = 9:=(bare_kind hb).trans rfl
        have hc0 : 0 < c:=by
         rcases Nat.eq_zero_or_pos c with h0 | h0
         ·rw [hc.2 h0] at hl; exact absurd hl.2 (by decide)
         ·exact h0
        rw [List.singleton_append,List.cons_append,if_neg (by rw [atT_no (by omega)]; decide),if_neg (by rw [atT_of hk9]; rintro ⟨_,_,h⟩; cases h),if_pos ⟨hl.1,hc0⟩,List.tail_cons,List.append_assoc,hsub]
        simp only []
        rw [ih]
        exact hfin
       ·unfold elC at hTc
        rw [if_neg hl] at hTc
        obtain rfl:=hTc.nil
        have hno : ¬ (listB k = true ∧ 0 < c):=by
         rintro ⟨h1,h2⟩
         refine hl ⟨h1,?_⟩
         cases first with
         | false => rfl
         | true => have:=hc.1 rfl; omega
        obtain ⟨t,T',e,hfs⟩:=hfst
        have h8 : atT 8 ([] ++ (Te ++ Ty) ++ r) = false:=by
         rw [List.nil_append,e,List.cons_append]; exact atT_no (by have:=hfs.2.1; omega)
        rw [if_neg (by rw [h8]; decide),if_neg (fun h => hno ⟨h.1,h.2.1⟩),if_neg hno,List.nil_append,List.append_assoc,hsub]
        simp only []
        rw [ih]
        exact hfin
theorem args_nxt {p : List Nd} {d lv : Nat} {ks : List UInt8} {i : Nat} {T r : List TokI} (hT : BM T (argsE (fmtA p d) lv ks false i).1) : Nxt (T ++ r) ∧ ∃ t T',T = t :: T' ∧ (t.kind = 6 ∨ t.kind = 9):=by
 cases ks with
 | nil =>
   rw [argsE] at hT
   obtain ⟨t,rfl,hb⟩:=hT.one
   have hk : t.kind = 6:=(bare_kind hb).trans rfl
   exact ⟨nxt_p (by omega),t,[],rfl,.inl hk⟩
 | cons k ks =>
   rw [argsE] at hT
   split at hT
   ·obtain ⟨t,rfl,hb⟩:=hT.one
    have hk : t.kind = 6:=(bare_kind hb).trans rfl
    exact ⟨nxt_p (by omega),t,[],rfl,.inl hk⟩
   ·rw [if_neg (by decide)] at hT
    obtain ⟨t,T',rfl,hb,_⟩:=hT.cons
    have hk : t.kind = 9:=(bare_kind hb).trans rfl
    exact ⟨nxt_p (by omega),t,T',rfl,.inr hk⟩
theorem argsL_back {p : List Nd} {d F lv : Nat} (hs : PbE p d) : ∀ (ks : List UInt8) (first : Bool) (i j : Nat) (ns : List Nd) (T r : List TokI),i ≤ p.length → nextK (fun k j => vAny p d (blkB k) k j) ks i = some j → BM T (argsE (fmtA p d) lv ks first i).1 → T.length ≤ F →
  argsL (subP F) ks first ns (T ++ r) = .ok r (ns ++ seg p i (argsE (fmtA p d) lv ks first i).2) ∧ i ≤ (argsE (fmtA p d) lv ks first i).2 ∧ (argsE (fmtA p d) lv ks first i).2 ≤ p.length
 | [],first,i,j,ns,T,r,hi,h,hT,hF => by
   rw [argsE] at hT ⊢
   obtain ⟨t,rfl,hb⟩:=hT.one
   refine ⟨?_,Nat.le_refl _,hi⟩
   rw [List.singleton_append,argsL,if_pos (atT_of (show t.kind = 6 from bare_kind hb)),seg_nil,List.append_nil]
   rfl
 | k :: ks,first,i,j,ns,T,r,hi,h,hT,hF => by
   rw [argsE] at hT ⊢
   by_cases hb : blkB k = true
   ·rw [if_pos hb] at hT ⊢
    obtain ⟨t,rfl,hbt⟩:=hT.one
    refine ⟨?_,Nat.le_refl _,hi⟩
    rw [List.singleton_append,argsL,if_pos hb,if_pos (atT_of (show t.kind = 6 from bare_kind hbt)),seg_nil,List.append_nil]
    rfl
   ·have hb' : blkB k = false:=by simpa using hb
    rw [if_neg hb] at hT ⊢
    rw [nextK] at h
    simp only [hb'] at h
    cases hx : vAny p d false k i with
    | none => rw [hx] at h; cases h
    | some q =>
      rw [hx] at h
      simp only [] at h
      simp only [fmt_next p d false k i q _ _ hx] at hT ⊢
      obtain ⟨Tc,T1,rfl,hTc,hT1⟩:=hT.app
      obtain ⟨Te,Ty,rfl,hTe,hTy⟩:=hT1.app
      obtain ⟨hq1,hq2⟩:=vAny_lt hx
      simp only [List.length_append] at hF
      have hsub:=hs k i q _ _ Te (Ty ++ r) F hx (by omega) hTe (args_nxt hTy).1
      obtain ⟨ih1,ih2,ih3⟩:=argsL_back (F:=F) hs ks false q j (ns ++ seg p i q) Ty r hq2 h hTy (by omega)
      refine ⟨?_,by omega,ih3⟩
      rw [argsL,if_neg hb]
      have hfin : (PR.ok r (ns ++ seg p i q ++ seg p q (argsE (fmtA p d) lv ks false q).2) : PR) = .ok r (ns ++ seg p i (argsE (fmtA p d) lv ks false q).2):=by
       rw [List.append_assoc,seg_app p (Nat.le_of_lt hq1) ih2]
      cases first with
      | true =>
        rw [if_pos rfl] at hTc
        obtain rfl:=hTc.nil
        rw [if_neg (by rintro ⟨h,_⟩; cases h),if_neg (by decide),List.nil_append,List.append_assoc,hsub]
        simp only []
        rw [ih1]; exact hfin
      | false =>
        rw [if_neg (by decide)] at hTc
        obtain ⟨t,rfl,hbt⟩:=hTc.one
        rw [List.singleton_append,List.cons_append,if_neg (by rw [atT_of (show t.kind = 9 from bare_kind hbt)]; rintro ⟨_,h⟩; cases h),if_pos rfl,List.tail_cons,List.append_assoc,hsub]
        simp only []
        rw [ih1]; exact hfin
theorem callL_back {p : List Nd} {d F lv : Nat} (text : List UInt8) (hs : PbE p d) : ∀ (q : Nat) (s : List UInt8) (m i j : Nat) (ns : List Nd) (f : Nat) (T r : List TokI),nextK (fun k j => vAny p d (blkB k) k j) (List.replicate (q + 1) 101) i = some j → m + q + 1 ≤ 7 → q < f →
  BM T ((fmtA p d false 101 i lv s).1 ++ (argsE (fmtA p d) lv (List.replicate q 101) false (fmtA p d false 101 i lv s).2).1) → T.length ≤ F →
  callL (subP F) text f m ns (T ++ r) = .ok r (⟨5,0,text,((m + q + 1 : Nat) : Int)⟩ :: (ns ++ seg p i j))
 | q,s,m,i,j,ns,0,T,r,h,hm,hf,hT,hF => by omega
 | q,s,m,i,j,ns,f + 1,T,r,h,hm,hf,hT,hF => by
   rw [List.replicate_succ,nextK] at h
   simp only [show blkB 101 = false from rfl] at h
   cases hx : vAny p d false 101 i with
   | none => rw [hx] at h; cases h
   | some e =>
     rw [hx] at h
     simp only [] at h
     rw [fmt_next p d false 101 i e _ _ hx] at hT
     obtain ⟨Te,Ty,rfl,hTe,hTy⟩:=hT.app
     obtain ⟨he1,he2⟩:=vAny_lt hx
     obtain ⟨hnx,t,T',ety,htk⟩:=args_nxt (r:=r) hTy
     simp only [List.length_append] at hF
     have hsub:=hs 101 i e _ _ Te (Ty ++ r) F hx (by omega) hTe hnx
     rw [callL,List.append_assoc,hsub]
     simp only []
     cases q with
     | zero =>
       rw [List.replicate_zero,argsE] at hTy
       rw [List.replicate_zero,nextK] at h
       injection h with h
       subst h
       obtain ⟨t,rfl,hb⟩:=hTy.one
       have hk : t.kind = 6:=(bare_kind hb).trans rfl
       rw [List.singleton_append,if_pos (.inr (atT_no (by omega))),if_pos (atT_of hk),List.tail_cons]
     | succ q =>
       have hej : e ≤ j:=(nextK_good (fun k i j => vAny_good p d (blkB k) k i j) _ _ _ h he2).1
       have h2:=h
       rw [List.replicate_succ,argsE,if_neg (by decide),if_neg (by decide)] at hTy
       obtain ⟨t,T2,rfl,hb,hT2⟩:=hTy.cons
       have hk : t.kind = 9:=(bare_kind hb).trans rfl
       rw [List.cons_append,if_neg (by rw [atT_of hk]; rintro (h | h); omega; cases h),List.tail_cons]
       have ih:=callL_back (F:=F) text hs q _ (m + 1) e j (ns ++ seg p i e) f T2 r h2 (by omega) (by omega) hT2 (by rw [List.length_cons] at hF; omega)
       rw [ih,List.append_assoc,seg_app p (Nat.le_of_lt he1) hej,show m + 1 + q + 1 = m + (q + 1) + 1 by omega]
theorem ops_back {p : List Nd} {d F lv : Nat} (hs : PbE p d) (hb : PbB p d) (ks : List UInt8) (i j : Nat) (T r : List TokI) (hi : i ≤ p.length) (hsh : shpB ks = true) (hd : (ks.dropWhile fun k => !blkB k).length ≤ 1) (h : nextK (fun k j => vAny p d (blkB k) k j) ks i = some j) (hT : BM T (restE (fmtA p d) ks lv i).1) (hF : T.length ≤ F) :
  opsP (subP F) ks (T ++ r) = .ok r (seg p i j):=by
 unfold opsP
 unfold restE at hT
 by_cases hks : ks = []
 ·subst hks
  rw [if_pos rfl] at hT ⊢
  rw [nextK] at h
  injection h with h
  subst h
  rw [hT.nil,seg_nil]
  rfl
 ·rw [if_neg hks] at hT ⊢
  simp only [] at hT
  obtain ⟨t,T',rfl,hbt,hT'⟩:=hT.cons
  have hk : t.kind = 5:=(bare_kind hbt).trans rfl
  obtain ⟨Ta,Tb,rfl,hTa,hTb⟩:=hT'.app
  rw [List.cons_append,if_neg (by rw [atT_of hk]; decide),List.tail_cons,List.append_assoc]
  obtain ⟨a1,a2,a3⟩:=argsL_back (lv:=lv) (F:=F) hs ks true i j [] Ta (Tb ++ r) hi h hTa (by simp only [List.length_cons,List.length_append] at hF; omega)
  have hn:=args_next lv (fun k i j lv s h => fmt_next p d false k i j lv s h) ks true i j h
  rw [a1]
  simp only [List.nil_append]
  unfold shpB at hsh
  rw [Bool.and_eq_true] at hsh
  obtain ⟨I,hI⟩ : ∃ I,(argsE (fmtA p d) lv ks true i).2 = I:=⟨_,rfl⟩
  rw [hI] at hn hTb a2 a3 ⊢
  cases hdw : (ks.dropWhile fun k => !blkB k) with
  | nil =>
    rw [hdw] at hn hTb
    rw [nextK] at hn
    injection hn with hn
    subst hn
    rw [blksE] at hTb
    rw [hTb.nil,blksL]
    rfl
  | cons k r2 =>
    have hr2 : r2 = []:=by rw [hdw] at hd; simpa using hd
    subst hr2
    rw [hdw] at hn hTb hsh
    have hbk : blkB k = true:=by have:=hsh.1; rw [List.all_cons,Bool.and_eq_true] at this; exact this.1
    rw [nextK] at hn
    simp only [hbk] at hn
    cases hx : vAny p d true k I with
    | none => rw [hx] at hn; cases hn
    | some q =>
      rw [hx] at hn
      simp only [nextK] at hn
      injection hn with hn
      subst hn
      rw [blksE,blksE,if_pos rfl,List.nil_append,List.append_nil] at hTb
      have:=hb k I q _ _ Tb r F hx (by simp only [List.length_cons,List.length_append] at hF; omega) hTb
      rw [blksL,this]
      simp only []
      rw [blksL,seg_app p a2 (Nat.le_of_lt (vAny_lt hx).1)]
theorem nd_is {n : Nd} {k : UInt8} {a b : Int} {s : List UInt8} {c : Int} (h1 : n.kind = a) (h2 : n.num = b) (h3 : n.str = s) (h4 : n.pos = c) : n = ⟨a,b,s,c⟩:=by
 obtain ⟨x,y,z,w⟩:=n
 simp only at h1 h2 h3 h4
 rw [h1,h2,h3,h4]
theorem leaf_back {p : List Nd} (hp : NumsOk p) {F : Nat} {k : UInt8} {n u t : TokI} {r : List TokI} {ks : List UInt8} (hm : n ∈ p) (ha : accB k n.kind = true) (hf : fieldsB n k = true) (hk : kidsK n = some ks) (hl : leafT n = some u) (hb : bareT t = bareT u) (hr : Nxt r) :
  subP (F + 1) k (t :: r) = .ok r [n]:=by
 have hpos:=(leaf_kids hl hk).2
 have h0:=(hp n hm).1
 unfold leafT at hl
 unfold fieldsB at hf
 rw [Bool.and_eq_true] at hf
 obtain ⟨f1,f2⟩:=hf
 rw [subP]
 split at hl
 ·next e =>
  injection hl with hl; subst hl
  have hkt : t.kind = 3:=bare_kind hb
  have hn:=bare_num hb rfl
  have hs : n.str = []:=by rw [if_neg (by omega),if_neg (by omega)] at f2; exact beq_iff_eq.1 f2
  rw [if_neg (by omega),if_neg (by omega),if_pos ⟨hkt,by rw [← e]; exact ha⟩,hn]
  rw [← nd_is (n:=n) (k:=k) e rfl hs hpos]
 next e1 =>
 rw [if_neg e1] at f1
 split at hl
 ·next e =>
  injection hl with hl; subst hl
  have hkt : t.kind = 4:=bare_kind hb
  rw [if_neg (by omega),if_neg (by omega)] at f1
  have hs:=bare_str hb (.inr (.inr rfl))
  rw [if_neg (by omega),if_neg (by omega),if_neg (by rintro ⟨h,_⟩; omega),if_pos ⟨hkt,by rw [← e]; exact ha⟩,hs]
  rw [← nd_is (n:=n) (k:=k) e (beq_iff_eq.1 f1) rfl hpos]
 split at hl
 ·next e =>
  injection hl with hl; subst hl
  have hkt : t.kind = 1:=bare_kind hb
  rw [if_neg (by omega),if_neg (by omega)] at f1
  rw [if_pos (.inl e)] at f2
  have hs:=bare_str hb (.inl rfl)
  rw [e] at ha
  rw [if_pos hkt,hs]
  unfold nameP
  rw [if_neg (by rw [f2]; decide),if_neg (by rintro ⟨h,_⟩; rw [ha] at h; cases h),List.tail_cons,if_neg (by rintro ⟨_,h⟩; rw [hr.1] at h; cases h),if_neg (by rw [ha]; decide)]
  rw [← nd_is (n:=n) (k:=k) e (beq_iff_eq.1 f1) rfl hpos]
 split at hl
 ·next e =>
  injection hl with hl; subst hl
  have hkt : t.kind = 2:=bare_kind hb
  rw [if_pos e,decide_eq_true_eq] at f1
  have hs:=bare_str hb (.inr (.inl rfl))
  have hw:=(local_words ⟨n.num.toNat,by omega⟩).2
  rw [if_neg (by omega),if_pos hkt,hs]
  unfold wordP
  simp only at hw
  simp only [hw]
  have hstr : n.str = []:=by rw [if_neg (by omega),if_neg (by omega)] at f2; exact beq_iff_eq.1 f2
  rw [if_pos (by rw [← e]; exact ha),List.tail_cons]
  rw [← nd_is (n:=n) (k:=k) e (show n.num = (n.num.toNat : Int) by omega) hstr hpos]
 next e6 =>
 rw [if_neg e6] at f1
 split at hl
 ·next e =>
  injection hl with hl; subst hl
  have hkt : t.kind = 2:=bare_kind hb
  rw [if_pos e,decide_eq_true_eq] at f1
  have hs:=bare_str hb (.inr (.inl rfl))
  have hw:=(arg_words ⟨n.num.toNat,by omega⟩).2
  rw [if_neg (by omega),if_pos hkt,hs]
  unfold wordP
  simp only at hw
  simp only [hw]
  have hstr : n.str = []:=by rw [if_neg (by omega),if_neg (by omega)] at f2; exact beq_iff_eq.1 f2
  rw [if_pos (by rw [← e]; exact ha),List.tail_cons]
  rw [← nd_is (n:=n) (k:=k) e (show n.num = (n.num.toNat : Int) by omega) hstr hpos]
 ·cases hl
theorem fields5 {n : Nd} {k : UInt8} (hf : fieldsB n k = true) (h5 : n.kind = 5) : (n.num == 0) = true ∧ nameB k n.str = true:=by
 unfold fieldsB at hf
 rw [Bool.and_eq_true] at hf
 obtain ⟨f1,f2⟩:=hf
 rw [if_neg (by omega),if_neg (by omega),if_neg (by omega)] at f1
 rw [if_pos (Or.inr h5)] at f2
 exact ⟨f1,f2⟩
theorem call_back {p : List Nd} {d F lv : Nat} (hs : PbE p d) {k : UInt8} {i j : Nat} {n t : TokI} {T r : List TokI} {ks : List UInt8} (hn : p[i]? = some n) (h5 : n.kind = 5) (hp0 : n.pos ≠ 0) (ha : accB k n.kind = true) (hf : fieldsB n k = true) (hk : kidsK n = some ks) (hx : nextK (fun k j => vAny p d (blkB k) k j) ks (i + 1) = some j)
  (hb : bareT t = bareT (headT n)) (hT : BM T (restE (fmtA p d) ks lv (i + 1)).1) (hF : T.length ≤ F) : subP (F + 1) k (t :: (T ++ r)) = .ok r (seg p i j):=by
 unfold headT at hb
 rw [if_pos h5] at hb
 have hkt : t.kind = 1:=bare_kind hb
 have hst:=bare_str hb (.inl rfl)
 have hi : i < p.length:=(List.getElem?_eq_some_iff.1 hn).1
 unfold kidsK at hk
 rw [if_pos h5] at hk
 split at hk
 ·next hpos =>
  injection hk with hk
  subst hk
  obtain ⟨q,hq⟩ : ∃ q : Nat,n.pos.toNat = q + 1:=⟨n.pos.toNat - 1,by omega⟩
  rw [hq] at hx hT
  unfold restE at hT
  rw [if_neg (by simp),rep_drop,blksE] at hT
  simp only [List.append_nil] at hT
  obtain ⟨tp,T',rfl,hbp,hT'⟩:=hT.cons
  have hkp : tp.kind = 5:=(bare_kind hbp).trans rfl
  rw [List.replicate_succ,argsE,if_neg (by decide),if_pos rfl,if_pos rfl,List.nil_append] at hT'
  have hT2:=hT'
  obtain ⟨f1,f2⟩:=fields5 hf h5
  rw [subP,if_pos hkt,hst]
  rw [h5] at ha
  unfold nameP
  rw [if_neg (by rw [f2]; decide),if_neg (by rintro ⟨_,h⟩; rw [ha] at h; cases h),List.tail_cons,List.cons_append,if_pos ⟨ha,atT_of hkp⟩,List.tail_cons]
  have hx':=hx
  rw [List.replicate_succ,nextK] at hx'
  simp only [show blkB 101 = false from rfl] at hx'
  cases hv : vAny p d false 101 (i + 1) with
  | none => rw [hv] at hx'; cases hx'
  | some e =>
    obtain ⟨t1,T1,e1,hfs⟩:=bm_first hv hT2
    unfold callP
    rw [if_neg (by rw [e1,List.cons_append,atT_no (by have:=hfs.2.1; omega)]; decide)]
    rw [callL_back (F:=F) n.str hs q [] 0 (i + 1) j [] 7 T' r hx (by omega) (by omega) hT2 (by rw [List.length_cons] at hF; omega)]
    have hij : i + 1 ≤ j:=(nextK_good (fun k i j => vAny_good p d (blkB k) k i j) _ _ _ hx (by omega)).1
    rw [List.nil_append,seg_cons hn hij,← nd_is (n:=n) (k:=k) h5 (beq_iff_eq.1 f1) rfl (show n.pos = ((0 + q + 1 : Nat) : Int) by omega)]
 ·cases hk
theorem call0_back {p : List Nd} {F : Nat} {k : UInt8} {i : Nat} {n t a b : TokI} {r : List TokI} (hn : p[i]? = some n) (h5 : n.kind = 5) (hp0 : n.pos = 0) (ha : accB k n.kind = true) (hf : fieldsB n k = true)
  (hb : bareT t = bareT (headT n)) (h1 : a.kind = 5) (h2 : b.kind = 6) : subP (F + 1) k (t :: a :: b :: r) = .ok r [n]:=by
 unfold headT at hb
 rw [if_pos h5] at hb
 have hkt : t.kind = 1:=bare_kind hb
 have hst:=bare_str hb (.inl rfl)
 obtain ⟨f1,f2⟩:=fields5 hf h5
 rw [subP,if_pos hkt,hst]
 rw [h5] at ha
 unfold nameP
 rw [if_neg (by rw [f2]; decide),if_neg (by rintro ⟨_,h⟩; rw [ha] at h; cases h),List.tail_cons,if_pos ⟨ha,atT_of h1⟩,List.tail_cons]
 unfold callP
 rw [if_pos (atT_of h2),List.tail_cons]
 rw [← nd_is (n:=n) (k:=k) h5 (beq_iff_eq.1 f1) rfl hp0]
theorem word_back {p : List Nd} {d F lv : Nat} (hs : PbE p d) (hbk : PbB p d) {k : UInt8} {i j : Nat} {n t : TokI} {T r : List TokI} {ks : List UInt8} (hn : p[i]? = some n) (h5 : n.kind ≠ 5) (hl : leafT n = none) (ha : accB k n.kind = true) (hf : fieldsB n k = true) (hk : kidsK n = some ks) (hx : nextK (fun k j => vAny p d (blkB k) k j) ks (i + 1) = some j)
  (hb : bareT t = bareT (headT n)) (hT : BM T (restE (fmtA p d) ks lv (i + 1)).1) (hr : Nxt r) (hF : T.length ≤ F) : subP (F + 1) k (t :: (T ++ r)) = .ok r (seg p i j):=by
 unfold headT at hb
 rw [if_neg h5] at hb
 have hkt : t.kind = 2:=bare_kind hb
 have hst:=bare_str hb (.inr (.inl rfl))
 have hi : i < p.length:=(List.getElem?_eq_some_iff.1 hn).1
 have hij : i + 1 ≤ j:=(nextK_good (fun k i j => vAny_good p d (blkB k) k i j) _ _ _ hx (by omega)).1
 have hne : ¬ (n.kind = 1 ∨ n.kind = 2 ∨ n.kind = 3 ∨ n.kind = 6 ∨ n.kind = 7):=by
  rintro h
  unfold leafT at hl
  rcases h with h | h | h | h | h <;> (rw [h] at hl; cases hl)
 have hop:=acc_ops ha
 have hw:=ops_words _ hop
 have hop0 : n.kind ≠ 0:=by
  intro h; rw [h] at hop; exact absurd hop (by decide)
 obtain ⟨hw1,hw2,hw3⟩ : kwB (formP n.kind).1 = true ∧ varW (formP n.kind).1 = none ∧ opW (formP n.kind).1 = n.kind:=by
  rcases hw with hw | hw
  ·omega
  ·exact hw
 unfold fieldsB at hf
 rw [Bool.and_eq_true,if_neg (by omega),if_neg (by omega),if_neg (by omega),if_neg (by omega),if_neg (by omega)] at hf
 have hnum:=beq_iff_eq.1 hf.1
 have hstr:=beq_iff_eq.1 hf.2
 obtain ⟨hsh,hshd⟩:=kids_shp hk
 rw [subP,if_neg (by omega),if_pos hkt,hst]
 unfold wordP
 simp only [hw2,hw3]
 rw [if_neg (by rintro (h | h); exact hop0 h; rw [ha] at h; cases h),List.tail_cons]
 have hfin : ∀ c,n.pos = c → (PR.ok r (⟨n.kind,0,[],c⟩ :: seg p (i + 1) j) : PR) = .ok r (seg p i j):=fun c hc => by
  rw [seg_cons hn hij,← nd_is (n:=n) (k:=k) rfl hnum hstr hc]
 by_cases h33 : n.kind = 33
 ·rw [if_pos h33]
  unfold kidsK at hk
  rw [if_neg h5,if_pos h33] at hk
  split at hk
  ·next hpos =>
   injection hk with hk
   subst hk
   rcases (by omega : n.pos = 0 ∨ n.pos = 1) with hp | hp
   ·rw [hp] at hT hx
    have e0 : (List.replicate (Int.toNat 0) (101 : UInt8)) = []:=rfl
    rw [e0] at hT hx
    unfold restE at hT
    rw [if_pos rfl] at hT
    rw [hT.nil,List.nil_append,if_neg (by rw [hr.1]; decide)]
    have:=hfin 0 hp
    rw [nextK] at hx
    injection hx with hx
    subst hx
    rw [seg_nil,h33] at this
    exact this
   ·have e1 : (List.replicate n.pos.toNat (101 : UInt8)) = [101]:=by rw [hp]; rfl
    rw [e1] at hT hx
    have ho:=ops_back (F:=F) hs hbk [101] (i + 1) j T r (by omega) (by decide) (by decide) hx hT hF
    have h5T : atT 5 (T ++ r) = true:=by
     unfold restE at hT
     rw [if_neg (by simp)] at hT
     obtain ⟨tp,T',rfl,hbp,_⟩:=hT.cons
     exact atT_of (show tp.kind = 5 from bare_kind hbp)
    rw [if_pos h5T,ho]
    simp only []
    have:=hfin 1 hp
    rw [h33] at this
    exact this
  ·cases hk
 ·rw [if_neg h33]
  unfold kidsK at hk
  rw [if_neg h5,if_neg h33] at hk
  split at hk
  ·next h3 =>
   obtain ⟨h31,hp3⟩:=h3
   injection hk with hk
   subst hk
   have ef : (formP n.kind).2 = [101,83]:=by rw [h31]; decide
   rw [ef]
   -- the blocks are two
   unfold restE at hT
   rw [if_neg (by simp)] at hT
   have edw : (([101,83,83] : List UInt8).dropWhile fun k => !blkB k) = [83,83]:=by decide
   rw [edw] at hT
   have hn2:=args_next lv (fun k i j lv s h => fmt_next p d false k i j lv s h) [101,83,83] true (i + 1) j hx
   rw [edw] at hn2
   have eargs : argsE (fmtA p d) lv [101,83,83] true (i + 1) = argsE (fmtA p d) lv [101,83] true (i + 1):=by
    rw [argsE,argsE,argsE,argsE]; rfl
   rw [eargs] at hT hn2
   obtain ⟨I,hI⟩ : ∃ I,(argsE (fmtA p d) lv [101,83] true (i + 1)).2 = I:=⟨_,rfl⟩
   rw [hI] at hn2 hT
   rw [nextK] at hn2
   simp only [show blkB 83 = true from rfl] at hn2
   cases hv1 : vAny p d true 83 I with
   | none => rw [hv1] at hn2; cases hn2
   | some q =>
     rw [hv1] at hn2
     simp only [nextK,show blkB 83 = true from rfl] at hn2
     cases hv2 : vAny p d true 83 q with
     | none => rw [hv2] at hn2; cases hn2
     | some q2 =>
       rw [hv2] at hn2
       simp only [] at hn2
       injection hn2 with hn2
       subst hn2
       obtain ⟨tp,T',rfl,hbp,hT'⟩:=hT.cons
       rw [blksE,blksE,blksE,if_pos rfl,if_neg (by decide),fmt_next p d true 83 I q _ _ hv1,List.nil_append,List.append_nil] at hT'
       obtain ⟨Ta,Tb,rfl,hTa,hTb⟩:=hT'.app
       obtain ⟨Tb1,Tc,rfl,hTb1,hTc⟩:=hTb.app
       obtain ⟨te,Tb2,rfl,hbe,hTb2⟩:=hTc.cons
       have hx1 : nextK (fun k j => vAny p d (blkB k) k j) [101,83] (i + 1) = some q:=by
        have hx2:=hx
        rw [nextK] at hx2 ⊢
        simp only [show blkB 101 = false from rfl] at hx2 ⊢
        cases hv0 : vAny p d false 101 (i + 1) with
        | none => rw [hv0] at hx2; cases hx2
        | some q0 =>
          have : I = q0:=by
           rw [← hI,argsE,if_neg (by decide)]
           show (argsE (fmtA p d) lv [83] false (fmtA p d false 101 (i + 1) lv _).2).2 = q0
           rw [fmt_next p d false 101 (i + 1) q0 _ _ hv0,argsE,if_pos (show blkB 83 = true from rfl)]
          subst this
          simp only [nextK,show blkB 83 = true from rfl,hv1]
       have hrest : BM (tp :: (Ta ++ Tb1)) (restE (fmtA p d) [101,83] lv (i + 1)).1:=by
        unfold restE
        rw [if_neg (by simp),show (([101,83] : List UInt8).dropWhile fun k => !blkB k) = [83] by decide,hI,blksE,blksE,if_pos rfl,List.nil_append,List.append_nil]
        unfold BM at hTa hTb1 ⊢
        rw [List.map_cons,List.map_cons,List.map_append,List.map_append,hTa,hTb1,hbp]
       simp only [List.length_cons,List.length_append] at hF
       have ho:=ops_back (F:=F) (r:=te :: (Tb2 ++ r)) hs hbk [101,83] (i + 1) q _ (by omega) (by decide) (by decide) hx1 hrest (by simp only [List.length_cons,List.length_append]; omega)
       have eT : tp :: (Ta ++ (Tb1 ++ te :: Tb2)) ++ r = tp :: (Ta ++ Tb1) ++ te :: (Tb2 ++ r):=by simp
       rw [eT,ho]
       simp only []
       have hke : te.kind = 2:=(bare_kind hbe).trans rfl
       have hse : te.str = [69,108,115,101]:=bare_str hbe (.inr (.inl rfl))
       rw [if_pos ⟨h31,by show (te.kind == 2 && te.str == [69,108,115,101]) = true; rw [hke,hse]; rfl⟩,List.tail_cons]
       rw [hbk 83 q q2 _ _ Tb2 r F hv2 (by omega) hTb2]
       simp only []
       have g1 : i + 1 ≤ q:=(nextK_good (fun k i j => vAny_good p d (blkB k) k i j) _ _ _ hx1 (by omega)).1
       rw [seg_app p g1 (Nat.le_of_lt (vAny_lt hv2).1)]
       have:=hfin 3 hp3
       rw [h31] at this
       exact this
  ·next h3 =>
   split at hk
   ·next hlen =>
    injection hk with hk
    subst hk
    have hd1 : ((formP n.kind).2.dropWhile fun k => !blkB k).length ≤ 1:=(form_shp n.kind).2.1
    have ho:=ops_back (F:=F) hs hbk (formP n.kind).2 (i + 1) j T r (by omega) hsh hd1 hx hT hF
    rw [ho]
    simp only []
    rw [if_neg (by rintro ⟨_,h⟩; rw [hr.2] at h; cases h)]
    exact hfin _ hlen.symm
   ·cases hk
theorem fmt_back (p : List Nd) (hp : NumsOk p) : ∀ d,PbE p d ∧ PbB p d
 | 0 => ⟨fun k i j lv s T r F h => (by rw [vAny] at h; cases h),fun k i j lv s T r F h => (by rw [vAny] at h; cases h)⟩
 | d + 1 => by
   obtain ⟨ihE,ihB⟩:=fmt_back p hp d
   refine ⟨fun k i j lv s T r F h hF hT hr => ?_,fun k i j lv s T r F h hF hT => ?_⟩
   ·obtain ⟨n,ks,hn,ha,hf,hk,hx⟩:=el_node h
    have hm : n ∈ p:=List.mem_of_getElem? hn
    have h1T : 1 ≤ T.length:=by
     obtain ⟨t0,r0,_,e0⟩:=fmt_first p lv h
     rw [e0] at hT
     obtain ⟨t,T',rfl,_⟩:=hT.cons
     simp
    obtain ⟨F,rfl⟩ : ∃ G,F = G + 1:=⟨F - 1,by omega⟩
    rw [fmtA,hn] at hT
    simp only [] at hT
    cases hl : leafT n with
    | some u =>
      rw [hl] at hT
      simp only [] at hT
      obtain ⟨t,rfl,hb⟩:=hT.one
      obtain ⟨rfl,_⟩:=leaf_kids hl hk
      rw [nextK] at hx
      injection hx with hx
      subst hx
      rw [List.singleton_append,seg_one hn]
      exact leaf_back hp hm ha hf hk hl hb hr
    | none =>
      rw [hl] at hT
      simp only [] at hT
      by_cases h5 : n.kind = 5 ∧ n.pos = 0
      ·rw [if_pos h5] at hT
       obtain ⟨t,T1,rfl,hb,hT1⟩:=hT.cons
       obtain ⟨a,T2,rfl,hba,hT2⟩:=hT1.cons
       obtain ⟨b,rfl,hbb⟩:=hT2.one
       unfold kidsK at hk
       rw [if_pos h5.1,if_pos (by omega),h5.2] at hk
       injection hk with hk
       subst hk
       have e : nextK (fun k j => vAny p d (blkB k) k j) (List.replicate (Int.toNat 0) 101) (i + 1) = some (i + 1):=rfl
       rw [e] at hx
       injection hx with hx
       subst hx
       rw [seg_one hn]
       exact call0_back hn h5.1 h5.2 ha hf hb ((bare_kind hba).trans rfl) ((bare_kind hbb).trans rfl)
      ·rw [if_neg h5,hk] at hT
       obtain ⟨t,T1,rfl,hb,hT1⟩:=hT.cons
       rw [List.cons_append]
       by_cases h5k : n.kind = 5
       ·exact call_back ihE hn h5k (fun h => h5 ⟨h5k,h⟩) ha hf hk hx hb hT1 (by rw [List.length_cons] at hF; omega)
       ·exact word_back ihE ihB hn h5k hl ha hf hk hx hb hT1 hr (by rw [List.length_cons] at hF; omega)
   ·obtain ⟨n,hn,⟨e1,e2,e3,e4⟩,hx⟩:=bl_node h
    rw [fmtA,hn] at hT
    simp only [] at hT
    obtain ⟨t,T',rfl,hb,hT'⟩:=hT.cons
    have hk : t.kind = 7:=(bare_kind hb).trans rfl
    have hi : i < p.length:=(List.getElem?_eq_some_iff.1 hn).1
    have hij : i + 1 ≤ j:=(nextN_good (fun i j => vAny_good p d false k i j) _ _ _ hx (by omega)).1
    unfold blockP
    rw [List.cons_append,if_pos (atT_of hk),List.tail_cons]
    rw [blockL_back (F:=F) ihE n.pos.toNat true (i + 1) j 0 [] _ T' r hx (by simp) hT' (by simp only [List.length_cons,List.length_append]; omega) (by rw [List.length_cons] at hF; omega)]
    rw [List.nil_append,seg_cons hn hij,← nd_is (n:=n) (k:=k) e1 e2 e3 (show n.pos = ((0 + n.pos.toNat : Nat) : Int) by omega)]
theorem top_back (p : List Nd) (hp : NumsOk p) {G : Nat} : ∀ (f : Nat) (first : Bool) (i g : Nat) (ns : List Nd) (T : List TokI),i ≤ p.length → vTop p f i = true → BM T (topE p f first i) → p.length - i ≤ f → T.length ≤ g → T.length ≤ G → progF G g ns T = .ok [] (ns ++ p.drop i)
 | 0,first,i,g,ns,T,hi,h,hT,hf,hg,hG => by
   rw [topE] at hT
   obtain rfl:=hT.nil
   have e : p.drop i = []:=List.drop_eq_nil_iff.2 (by omega)
   rw [e,List.append_nil]
   cases g with
   | zero => rw [progF]
   | succ g => rw [progF,if_pos rfl]
 | f + 1,first,i,g,ns,T,hi,h,hT,hf,hg,hG => by
   rw [topE] at hT
   by_cases hlt : p.length ≤ i
   ·rw [if_pos hlt] at hT
    obtain rfl:=hT.nil
    have e : p.drop i = []:=List.drop_eq_nil_iff.2 hlt
    rw [e,List.append_nil]
    cases g with
    | zero => rw [progF]
    | succ g => rw [progF,if_pos rfl]
   ·rw [if_neg hlt] at hT
    rw [vTop,if_neg hlt] at h
    cases hx : vAny p 32 false 68 i with
    | none => rw [hx] at h; cases h
    | some q =>
      rw [hx] at h
      simp only [] at h
      rw [fmt_next p 32 false 68 i q _ _ hx] at hT
      obtain ⟨t0,T0,e0,hfs0⟩:=bm_first hx hT
      obtain ⟨Te,Ty,rfl,hTe,hTy⟩:=hT.app
      obtain ⟨hq1,hq2⟩:=vAny_lt hx
      have hel : 1 ≤ Te.length:=by
       obtain ⟨t0,r0,_,e0⟩:=fmt_first p 0 hx
       rw [e0] at hTe
       obtain ⟨t,T',rfl,_⟩:=hTe.cons
       simp
      have hnx : Nxt Ty:=by
       cases f with
       | zero => rw [topE] at hTy; rw [hTy.nil]; exact ⟨rfl,rfl⟩
       | succ f =>
         rw [topE] at hTy
         by_cases hq : p.length ≤ q
         ·rw [if_pos hq] at hTy; rw [hTy.nil]; exact ⟨rfl,rfl⟩
         ·rw [if_neg hq] at hTy
          rw [vTop,if_neg hq] at h
          cases hx2 : vAny p 32 false 68 q with
          | none => rw [hx2] at h; cases h
          | some q2 =>
            obtain ⟨t,T',rfl,hfs⟩:=bm_first hx2 hTy
            exact nxt_fs hfs
      rw [List.length_append] at hg hG
      cases g with
      | zero => omega
      | succ g =>
        have hne : Te ++ Ty ≠ []:=by rw [e0]; simp
        rw [progF,if_neg hne,(fmt_back p hp 32).1 68 i q _ _ Te Ty G hx (by omega) hTe hnx]
        simp only []
        rw [top_back p hp f false q g (ns ++ seg p i q) Ty hq2 h hTy (by omega) (by omega) (by omega)]
        have e : seg p i q ++ p.drop q = p.drop i:=by
         unfold seg
         have:=List.take_append_drop (q - i) (p.drop i)
         rw [List.drop_drop,show i + (q - i) = q by omega] at this
         exact this
        rw [List.append_assoc,e]
theorem toks_parse (p : List Nd) (hp : NumsOk p) (hv : validL p = true) (E : Int) (T : List TokI) (hT : BM T (topE p p.length true 0)) : parseT E T = (p,0,0):=by
 have hv':=hv
 unfold validL at hv'
 rw [Bool.and_eq_true] at hv'
 unfold parseT
 rw [top_back p hp p.length true 0 T.length [] T (Nat.zero_le _) hv'.2 hT (by omega) (Nat.le_refl _) (Nat.le_refl _)]
 unfold parseR
 simp only [List.nil_append,List.drop_zero]
 rw [if_pos hv]
end Go.Proofs.YtnicnfchkdmieaaGreatDoor
