/- Sl Sm -/
import Derived.Test.YtnicnfchkdmieaaGreatDoorXav
set_option linter.unusedVariables false
set_option linter.unusedSimpArgs false
namespace Go.Proofs.YtnicnfchkdmieaaGreatDoor
section
open Go.RowKit
attribute [local go_sem] ByteArray.mk_append_mk bs_get bs_cut bs_end
theorem skip_set (m E : Int) (B b : Nat) (w : World) (t : TokI) (q : List TokI) (o : List Nd) (h : PSt m E B b w (t :: q) o) (hr : q.length ≤ 1000000) :
  Calls Tryz.prog 87 #[.pointer (some ⟨b,0,none⟩)] w fun e w' => e = .returned (.tuple #[]) ∧ PSt m E B b w' q o ∧ Below B w w' ∧ ∃ u,w' = w.setCell ⟨b,0,none⟩ u:=by
 have H:=Lib.hid h
 obtain ⟨⟨tv,bad,nv,h1,h2,h3⟩,h4,h5,h6,h7,h8⟩:=h
 have KEY : Hid (∀ u,u = tailV tv → PSt m E B b (w.setCell ⟨b,0,none⟩ u) q o):=Lib.hid (by rintro _ rfl; exact H.out.setTok h1 h3 h2.tail (h8.drop 1))
 obtain ⟨a,cap,rfl,hl,hc⟩:=h2
 obtain ⟨c0,c1,c2,c3⟩:=cells4 h1
 have f0:=free3 h1 0
 have hq : (1 : Int) ≤ ((t :: q).length : Int):=by simp only [List.length_cons]; omega
 clear h3 h6 h8 h1 hc
 go_enter Tryz.func87,Tryz.ntmps87
 go_wp2_with fail
 all_goals
  go_end0
  exact ⟨rfl,KEY.out _ (by simp [tailV,sliced,slicedAt,h,Addr.add]),(Below.refl _ _).setCell h4 _,_,rfl⟩
theorem sub_nil (m E : Int) (B b : Nat) (f : Nat) (kd : UInt8) (o : List Nd) (w : World) (h : PSt m E B b w [] o) :
  Calls Tryz.prog 47 #[.pointer (some ⟨b,0,none⟩),.int .u8 kd.toNat] w (SynPost m E B b w o (subP f kd [])):=by
 have HF:=Lib.hid (fail_any m E B b w [] o h (by simp))
 obtain ⟨X,hX⟩ : ∃ X,Hid (subP f kd [] = X):=⟨_,Lib.hid rfl⟩
 have HX : Hid (X = .no []):=Lib.hid (by rw [← hX.out]; cases f <;> rfl)
 obtain ⟨tv,bad,nv,k1,k2,k3⟩:=h.ex
 obtain ⟨ta,tcap,rfl,tl,tc⟩:=k2
 obtain ⟨c0,c1,c2,c3⟩:=cells4 k1
 clear k1 k3 tc h
 go_enter Tryz.func47,Tryz.ntmps47
 go_wp2_with fail
 ((with_reducible refine HF.out.mono ?_))
 rintro e wf ⟨rfl,hbad,hbf⟩
 have HBF:=Lib.hid hbf
 have HBAD:=Lib.hid hbad
 clear hbad hbf
 go_wp2_with fail
 go_ret
 rw [hX.out,HX.out]
 exact ⟨HBF.out,rfl,HBAD.out⟩
set_option maxRecDepth 100000 in
set_option maxHeartbeats 8000000 in
theorem sub_step (m E : Int) (B b : Nat) (f : Nat) (hs : SubOk m E B b (subP f) f)
  (kd : UInt8) (t : TokI) (q : List TokI) (o : List Nd) (w : World) (h : PSt m E B b w (t :: q) o) (hr : (t :: q).length ≤ f + 1) (hl : o.length + (t :: q).length ≤ 100000) :
  Calls Tryz.prog 47 #[.pointer (some ⟨b,0,none⟩),.int .u8 kd.toNat] w (SynPost m E B b w o (subP (f + 1) kd (t :: q))):=by
 have HS:=Lib.hid hs
 have HGD:=Lib.hid (subP_good f)
 obtain ⟨X,hX⟩ : ∃ X,Hid (subP (f + 1) kd (t :: q) = X):=⟨_,Lib.hid rfl⟩
 obtain ⟨hgs,hgk⟩:=h.good t (by simp)
 have HGK:=Lib.hid hgk
 have H2:=Lib.hid (h.alloc (.cells #[.int .i64 t.kind,.int .u64 t.num,.string ⟨t.str.toArray⟩,.int .i64 t.pos] 37))
 have HB2 : Hid (Below B w (w.alloc (.cells #[.int .i64 t.kind,.int .u64 t.num,.string ⟨t.str.toArray⟩,.int .i64 t.pos] 37))):=Lib.hid ((Below.refl _ _).alloc h.size _)
 have HBX0:=Lib.hid (heap_alloc_new w (.cells #[.int .i64 t.kind,.int .u64 t.num,.string ⟨t.str.toArray⟩,.int .i64 t.pos] 37))
 obtain ⟨tv,bad,nv,k1,k2,k3⟩:=h.ex
 obtain ⟨ta,tcap,rfl,tl,tc⟩:=k2
 obtain ⟨tg,toff,rfl,tB,tk⟩:=tc (by simp)
 obtain ⟨d0,d1,d2,d3⟩:=tk 0 (by simp)
 obtain ⟨c0,c1,c2,c3⟩:=cells4 k1
 simp only [Nat.zero_mul,Nat.add_zero,List.getElem_cons_zero] at d0 d1 d2 d3
 have hq : (0 : Int) < ((t :: q).length : Int):=by simp only [List.length_cons]; omega
 have hq0 : (((t :: q).length : Int) == 0) = false:=by rw [beq_eq_false_iff_ne]; omega
 have HSZ:=Lib.hid h.size
 have HBN : Hid (w.heap.size ≠ b):=Lib.hid (fun e => by have:=lt_of_block k1; omega)
 clear k1 k3 tk tc h hs hgk
 obtain ⟨tk,tn,ts,tp⟩:=t
 simp only at d0 d1 d2 d3 H2 HB2 HBX0 hgs HGK
 go_enter Tryz.func47,Tryz.ntmps47
 go_upto_region 4 with fail
 generalize w.alloc (.cells #[.int .i64 tk,.int .u64 tn,.string ⟨ts.toArray⟩,.int .i64 tp] 37) = W2 at *
 obtain ⟨e0,e1,e2,e3⟩:=cells4 HBX0.out
 clear c0 c1 c2 c3 d0 d1 d2 d3
 rw [List.length_cons] at hr hl
 by_cases h1 : tk = 1
 ·subst h1
  have HX1 : Hid (X = nameP (subP f) kd ts (⟨1,tn,ts,tp⟩ :: q)):=Lib.hid (by rw [← hX.out]; unfold subP; rfl)
  have HCA:=Lib.hid (name_any m E B b (subP f) f HS.out HGD.out kd ts ⟨1,tn,ts,tp⟩ q o W2 H2.out (by omega) (by omega) hgs)
  go_wp2_with fail
  ((with_reducible refine HCA.out.mono ?_))
  rintro e w6 ⟨hb6,hres⟩
  have HB6 : Hid (Below B w w6):=Lib.hid (HB2.out.trans hb6)
  clear hb6
  cases hcp : nameP (subP f) kd ts (⟨1,tn,ts,tp⟩ :: q) with
  | no x =>
    rw [hcp] at hres HX1
    obtain ⟨rfl,hp6⟩:=hres
    have HP6:=Lib.hid hp6
    clear hp6
    go_wp2_with fail
    go_ret
    rw [hX.out,HX1.out]
    exact ⟨HB6.out,rfl,HP6.out⟩
  | ok x ns =>
    rw [hcp] at hres HX1
    obtain ⟨rfl,hp6⟩:=hres
    have HP6:=Lib.hid hp6
    clear hp6
    go_wp2_with fail
    go_ret
    rw [hX.out,HX1.out]
    exact ⟨HB6.out,rfl,HP6.out⟩
 by_cases h2 : tk = 2
 ·subst h2
  have hne:=HGK.out rfl
  obtain ⟨d,c,hdc⟩ : ∃ d c,ts = d ++ [c]:=⟨ts.dropLast,ts.getLast hne,(List.dropLast_concat_getLast hne).symm⟩
  have HX1 : Hid (X = wordP (subP f) kd ts (⟨2,tn,ts,tp⟩ :: q)):=Lib.hid (by rw [← hX.out]; unfold subP; rfl)
  have HCA:=Lib.hid (keyword_any m E B b (subP f) f HS.out HGD.out kd d c ⟨2,tn,ts,tp⟩ q o W2 H2.out (by omega) (by omega) (by rw [hdc] at hgs; simp at hgs; omega))
  rw [← hdc] at HCA
  clear hne hdc
  go_wp2_with fail
  ((with_reducible refine HCA.out.mono ?_))
  rintro e w6 ⟨hb6,hres⟩
  have HB6 : Hid (Below B w w6):=Lib.hid (HB2.out.trans hb6)
  clear hb6
  cases hcp : wordP (subP f) kd ts (⟨2,tn,ts,tp⟩ :: q) with
  | no x =>
    rw [hcp] at hres HX1
    obtain ⟨rfl,hp6⟩:=hres
    have HP6:=Lib.hid hp6
    clear hp6
    go_wp2_with fail
    go_ret
    rw [hX.out,HX1.out]
    exact ⟨HB6.out,rfl,HP6.out⟩
  | ok x ns =>
    rw [hcp] at hres HX1
    obtain ⟨rfl,hp6⟩:=hres
    have HP6:=Lib.hid hp6
    clear hp6
    go_wp2_with fail
    go_ret
    rw [hX.out,HX1.out]
    exact ⟨HB6.out,rfl,HP6.out⟩
 by_cases h3 : tk = 3
 ·subst h3
  obtain ⟨a,ha⟩ : ∃ a,Hid (accB kd 1 = a):=⟨_,Lib.hid rfl⟩
  have HA:=Lib.hid (fun w => acc_is kd 1 a ha w)
  cases a with
  | false =>
    have HX : Hid (X = .no (⟨3,tn,ts,tp⟩ :: q)):=Lib.hid (by rw [← hX.out]; unfold subP; simp only [show ((3 : Int) = 1) = False by decide,show ((3 : Int) = 2) = False by decide,if_false,true_and]; rw [ha.out] <;> rfl)
    go_wp2_with fail
    ((with_reducible refine (HA.out _).mono ?_))
    rintro e wa ⟨rfl,rfl⟩
    have HF:=Lib.hid (fail_any m E B b W2 _ _ H2.out (by first | omega | (simp only [List.length_cons]; omega)))
    go_wp2_with fail
    ((with_reducible refine HF.out.mono ?_))
    rintro e wf ⟨rfl,hbad,hbf⟩
    have HBF : Hid (Below B w wf):=Lib.hid (HB2.out.trans hbf)
    have HBAD:=Lib.hid hbad
    clear hbad hbf
    go_wp2_with fail
    go_ret
    rw [hX.out,HX.out]
    exact ⟨HBF.out,rfl,HBAD.out⟩
  | true =>
    have HX : Hid (X = .ok q [⟨1,tn,[],0⟩]):=Lib.hid (by rw [← hX.out]; unfold subP; simp only [show ((3 : Int) = 1) = False by decide,show ((3 : Int) = 2) = False by decide,if_false,true_and]; rw [ha.out] <;> rfl)
    have HSK:=Lib.hid (skip_set m E B b W2 ⟨3,tn,ts,tp⟩ q o H2.out (by omega))
    go_wp2_with fail
    ((with_reducible refine (HA.out _).mono ?_))
    rintro e wa ⟨rfl,rfl⟩
    go_wp2_with fail
    ((with_reducible refine HSK.out.mono ?_))
    rintro e w4 ⟨rfl,h4,hb4,u4,hw4⟩
    have HB4 : Hid (Below B w w4):=Lib.hid (HB2.out.trans hb4)
    have hg4 : w4.heap[w.heap.size]? = some (.cells #[.int .i64 3,.int .u64 tn,.string ⟨ts.toArray⟩,.int .i64 tp] 37 (0,0)):=by rw [hw4]; exact blk_other HBX0.out _ _ HBN.out
    obtain ⟨g0,g1,g2,g3⟩:=cells4 hg4
    have HAD:=Lib.hid (add_any m E B b 1 tn 0 [] w4 q o h4 (by omega))
    unfold tokV at HAD
    clear h4 hb4 HSK e0 e1 e2 e3 hg4 hw4
    go_wp2_with fail
    ((with_reducible refine HAD.out.mono ?_))
    rintro e w6 ⟨rfl,h6,hb6⟩
    have HB6 : Hid (Below B w w6):=Lib.hid (HB4.out.trans hb6)
    have H6:=Lib.hid h6
    clear h6 hb6
    go_wp2_with fail
    go_ret
    rw [hX.out,HX.out]
    exact ⟨HB6.out,rfl,H6.out⟩
 by_cases h4 : tk = 4
 ·subst h4
  obtain ⟨a,ha⟩ : ∃ a,Hid (accB kd 2 = a):=⟨_,Lib.hid rfl⟩
  have HA:=Lib.hid (fun w => acc_is kd 2 a ha w)
  cases a with
  | false =>
    have HX : Hid (X = .no (⟨4,tn,ts,tp⟩ :: q)):=Lib.hid (by rw [← hX.out]; unfold subP; simp only [show ((4 : Int) = 1) = False by decide,show ((4 : Int) = 2) = False by decide,show ((4 : Int) = 3) = False by decide,if_false,true_and,false_and]; rw [ha.out] <;> rfl)
    go_wp2_with fail
    ((with_reducible refine (HA.out _).mono ?_))
    rintro e wa ⟨rfl,rfl⟩
    have HF:=Lib.hid (fail_any m E B b W2 _ _ H2.out (by first | omega | (simp only [List.length_cons]; omega)))
    go_wp2_with fail
    ((with_reducible refine HF.out.mono ?_))
    rintro e wf ⟨rfl,hbad,hbf⟩
    have HBF : Hid (Below B w wf):=Lib.hid (HB2.out.trans hbf)
    have HBAD:=Lib.hid hbad
    clear hbad hbf
    go_wp2_with fail
    go_ret
    rw [hX.out,HX.out]
    exact ⟨HBF.out,rfl,HBAD.out⟩
  | true =>
    have HX : Hid (X = .ok q [⟨2,0,ts,0⟩]):=Lib.hid (by rw [← hX.out]; unfold subP; simp only [show ((4 : Int) = 1) = False by decide,show ((4 : Int) = 2) = False by decide,show ((4 : Int) = 3) = False by decide,if_false,true_and,false_and]; rw [ha.out] <;> rfl)
    have HSK:=Lib.hid (skip_set m E B b W2 ⟨4,tn,ts,tp⟩ q o H2.out (by omega))
    go_wp2_with fail
    ((with_reducible refine (HA.out _).mono ?_))
    rintro e wa ⟨rfl,rfl⟩
    go_wp2_with fail
    ((with_reducible refine HSK.out.mono ?_))
    rintro e w4 ⟨rfl,h4,hb4,u4,hw4⟩
    have HB4 : Hid (Below B w w4):=Lib.hid (HB2.out.trans hb4)
    have hg4 : w4.heap[w.heap.size]? = some (.cells #[.int .i64 4,.int .u64 tn,.string ⟨ts.toArray⟩,.int .i64 tp] 37 (0,0)):=by rw [hw4]; exact blk_other HBX0.out _ _ HBN.out
    obtain ⟨g0,g1,g2,g3⟩:=cells4 hg4
    have HAD:=Lib.hid (add_any m E B b 2 0 0 ts w4 q o h4 (by omega))
    unfold tokV at HAD
    clear h4 hb4 HSK e0 e1 e2 e3 hg4 hw4
    go_wp2_with fail
    ((with_reducible refine HAD.out.mono ?_))
    rintro e w6 ⟨rfl,h6,hb6⟩
    have HB6 : Hid (Below B w w6):=Lib.hid (HB4.out.trans hb6)
    have H6:=Lib.hid h6
    clear h6 hb6
    go_wp2_with fail
    go_ret
    rw [hX.out,HX.out]
    exact ⟨HB6.out,rfl,H6.out⟩
 have f1 : (tk == 1) = false:=beq_eq_false_iff_ne.2 h1
 have f2 : (tk == 2) = false:=beq_eq_false_iff_ne.2 h2
 have f3 : (tk == 3) = false:=beq_eq_false_iff_ne.2 h3
 have f4 : (tk == 4) = false:=beq_eq_false_iff_ne.2 h4
 have HX : Hid (X = .no (⟨tk,tn,ts,tp⟩ :: q)):=Lib.hid (by rw [← hX.out]; unfold subP; simp only [h1,h2,h3,h4,if_false,false_and])
 clear h1 h2 h3 h4
 have HF:=Lib.hid (fail_any m E B b W2 _ _ H2.out (by first | omega | (simp only [List.length_cons]; omega)))
 go_wp2_with fail
 ((with_reducible refine HF.out.mono ?_))
 rintro e wf ⟨rfl,hbad,hbf⟩
 have HBF : Hid (Below B w wf):=Lib.hid (HB2.out.trans hbf)
 have HBAD:=Lib.hid hbad
 clear hbad hbf
 go_wp2_with fail
 go_ret
 rw [hX.out,HX.out]
 exact ⟨HBF.out,rfl,HBAD.out⟩
theorem sub_ok (m E : Int) (B b : Nat) : ∀ f,SubOk m E B b (subP f) f
 | 0,kd,r,o,w,h,hr,hl => by
   have : r = []:=List.eq_nil_of_length_eq_zero (by omega)
   subst this
   exact sub_nil m E B b 0 kd o w h
 | f + 1,kd,r,o,w,h,hr,hl => by
   cases r with
   | nil => exact sub_nil m E B b (f + 1) kd o w h
   | cons t q => exact sub_step m E B b f (sub_ok m E B b f) kd t q o w h hr hl
end
section
open Go.RowKit
attribute [local go_sem] ByteArray.mk_append_mk bs_get bs_cut bs_end run_kids
def KidsPost (w : World) (n : Nd) (e : Ending) (w' : World) : Prop:=∃ ks : List UInt8,e = .returned (.tuple #[.string ⟨ks.toArray⟩,.bool (kidsK n).isSome]) ∧ (∀ x,kidsK n = some x → ks = x) ∧ Below w.heap.size w w'
theorem form_is (op : Int) (xw xk : List UInt8) (H : Hid (formP op = (xw,xk))) (w : World) (m : Int) (hm : SynG m w) : Calls Tryz.prog 81 #[.int .i64 op] w fun e w' => e = .returned (.agg #[.string ⟨xw.toArray⟩,.string ⟨xk.toArray⟩]) ∧ Below w.heap.size w w':=by
 have:=form_any op w m hm
 rw [H.out] at this
 exact this
theorem take_es (p : Int) (h0 : 0 ≤ p) (h7 : p ≤ 7) : List.take p.toNat ([101,101,101,101,101,101,101] : List UInt8) = List.replicate p.toNat 101:=by
 have : p = 0 ∨ p = 1 ∨ p = 2 ∨ p = 3 ∨ p = 4 ∨ p = 5 ∨ p = 6 ∨ p = 7:=by omega
 rcases this with rfl | rfl | rfl | rfl | rfl | rfl | rfl | rfl <;> rfl
set_option maxRecDepth 100000 in
set_option maxHeartbeats 4000000 in
theorem kids_any (k n p : Int) (s : List UInt8) (w : World) (m : Int) (hm : SynG m w) : Calls Tryz.prog 75 #[tokV k n s p] w (KidsPost w ⟨k,n,s,p⟩):=by
 obtain ⟨X,hX⟩ : ∃ X,Hid (kidsK ⟨k,n,s,p⟩ = X):=⟨_,Lib.hid rfl⟩
 have HBA : Hid (∀ o,Below w.heap.size w (w.alloc o)):=Lib.hid (fun o => (Below.refl _ _).alloc (Nat.le_refl _) o)
 obtain ⟨e0,e1,e2,e3⟩:=cells4 (heap_alloc_new w (nObj k n s p))
 have HE:=Lib.hid (heap_alloc_new w (nObj k n s p))
 have HG:=Lib.hid (hm.below (HBA.out (nObj k n s p)) hm.low)
 clear hm
 unfold tokV KidsPost
 by_cases h5 : k = 5
 ·subst h5
  by_cases h0 : p < 0
  ·have HX : Hid (X = none):=Lib.hid (by rw [← hX.out]; unfold kidsK; simp only [if_true]; rw [if_neg (by omega)])
   go_enter Tryz.func75,Tryz.ntmps75
   go_wp2_with fail
   go_ret2
   rw [hX.out,HX.out]
   exact ⟨_,rfl,fun x hx => (by cases hx),HBA.out _⟩
  by_cases h7 : 7 < p
  ·have HX : Hid (X = none):=Lib.hid (by rw [← hX.out]; unfold kidsK; simp only [if_true]; rw [if_neg (by omega)])
   go_enter Tryz.func75,Tryz.ntmps75
   go_wp2_with fail
   go_ret2
   rw [hX.out,HX.out]
   exact ⟨_,rfl,fun x hx => (by cases hx),HBA.out _⟩
  ·have HX : Hid (X = some (List.replicate p.toNat 101)):=Lib.hid (by rw [← hX.out]; unfold kidsK; simp only [if_true]; rw [if_pos (by omega)])
   have HT:=Lib.hid (take_es p (by omega) (by omega))
   have h0' : 0 ≤ p:=by omega
   have h7' : p ≤ 7:=by omega
   go_enter Tryz.func75,Tryz.ntmps75
   go_wp2_with fail
   go_ret2
   rw [hX.out,HX.out]
   exact ⟨_,rfl,fun x hx => (by injection hx with hx; rw [← hx]; exact HT.out),HBA.out _⟩
 have f5 : (k == 5) = false:=beq_eq_false_iff_ne.2 h5
 by_cases h33 : k = 33
 ·subst h33
  by_cases h0 : p < 0
  ·have HX : Hid (X = none):=Lib.hid (by rw [← hX.out]; unfold kidsK; simp only [show ((33 : Int) = 5) = False by decide,if_false,if_true]; rw [if_neg (by omega)])
   go_enter Tryz.func75,Tryz.ntmps75
   go_wp2_with fail
   go_ret2
   rw [hX.out,HX.out]
   exact ⟨_,rfl,fun x hx => (by cases hx),HBA.out _⟩
  by_cases h7 : 1 < p
  ·have HX : Hid (X = none):=Lib.hid (by rw [← hX.out]; unfold kidsK; simp only [show ((33 : Int) = 5) = False by decide,if_false,if_true]; rw [if_neg (by omega)])
   go_enter Tryz.func75,Tryz.ntmps75
   go_wp2_with fail
   go_ret2
   rw [hX.out,HX.out]
   exact ⟨_,rfl,fun x hx => (by cases hx),HBA.out _⟩
  ·have HX : Hid (X = some (List.replicate p.toNat 101)):=Lib.hid (by rw [← hX.out]; unfold kidsK; simp only [show ((33 : Int) = 5) = False by decide,if_false,if_true]; rw [if_pos (by omega)])
   have HT:=Lib.hid (take_es p (by omega) (by omega))
   have h0' : 0 ≤ p:=by omega
   have h7' : p ≤ 1:=by omega
   have h7'' : p ≤ 7:=by omega
   go_enter Tryz.func75,Tryz.ntmps75
   go_wp2_with fail
   go_ret2
   rw [hX.out,HX.out]
   exact ⟨_,rfl,fun x hx => (by injection hx with hx; rw [← hx]; exact HT.out),HBA.out _⟩
 have f33 : (k == 33) = false:=beq_eq_false_iff_ne.2 h33
 by_cases h31 : k = 31 ∧ p = 3
 ·obtain ⟨rfl,rfl⟩:=h31
  have HX : Hid (X = some [101,83,83]):=Lib.hid (by rw [← hX.out] <;> rfl)
  go_enter Tryz.func75,Tryz.ntmps75
  go_wp2_with fail
  go_ret2
  rw [hX.out,HX.out]
  exact ⟨_,rfl,fun x hx => (by injection hx),HBA.out _⟩
 have HXF : Hid (X = if ((formP k).2.length : Int) = p then some (formP k).2 else none):=Lib.hid (by rw [← hX.out]; unfold kidsK; simp only []; rw [if_neg h5,if_neg h33,if_neg h31])
 obtain ⟨⟨xw,xk⟩,hf⟩ : ∃ x,formP k = x:=⟨_,rfl⟩
 have HF:=Lib.hid (fun w hm => form_is k xw xk (Lib.hid hf) w m hm)
 rw [hf] at HXF
 simp only at HXF
 have f31 : k = 31 → (p == 3) = false:=fun h => beq_eq_false_iff_ne.2 (fun h2 => h31 ⟨h,h2⟩)
 obtain ⟨L,hL⟩ : ∃ L,xk.length = L:=⟨_,rfl⟩
 have HL:=Lib.hid hL
 by_cases hk : k = 31
 ·have f31':=f31 hk
  subst hk
  clear h5 h33 h31 hf f31
  go_enter Tryz.func75,Tryz.ntmps75
  go_wp2_with fail
  ((with_reducible refine (HF.out _ HG.out).mono ?_))
  rintro e w2 ⟨rfl,hb⟩
  have HB2:=Lib.hid (bel_then (HBA.out (nObj 31 n s p)) (by simp) hb)
  have HE2:=Lib.hid (blk_below HE.out hb)
  clear hb e0 e1 e2 e3
  obtain ⟨e0,e1,e2,e3⟩:=cells4 HE2.out
  go_wp2_with fail
  go_quiet (fail)
  go_wp2_with fail
  go_ret2
  rw [hX.out,HXF.out,HL.out]
  refine ⟨xk,?_,fun x hx => ?_,below_drewN HB2.out _⟩
  ·by_cases hp : (L : Int) = p <;> simp [hp]
  ·split at hx
   ·injection hx
   ·cases hx
 ·have f31' : (k == 31) = false:=beq_eq_false_iff_ne.2 hk
  clear h5 h33 h31 hf f31 hk
  go_enter Tryz.func75,Tryz.ntmps75
  go_wp2_with fail
  ((with_reducible refine (HF.out _ HG.out).mono ?_))
  rintro e w2 ⟨rfl,hb⟩
  have HB2:=Lib.hid (bel_then (HBA.out (nObj k n s p)) (by simp) hb)
  have HE2:=Lib.hid (blk_below HE.out hb)
  clear hb e0 e1 e2 e3
  obtain ⟨e0,e1,e2,e3⟩:=cells4 HE2.out
  go_wp2_with fail
  go_quiet (fail)
  go_wp2_with fail
  go_ret2
  rw [hX.out,HXF.out,HL.out]
  refine ⟨xk,?_,fun x hx => ?_,below_drewN HB2.out _⟩
  ·by_cases hp : (L : Int) = p <;> simp [hp]
  ·split at hx
   ·injection hx
   ·cases hx
def intB (k n : Int) : Bool:=if k = 1 then true else if k = 6 then decide (n < 8) else if k = 7 then decide (n < 7) else n == 0
def strB (k : Int) (s : List UInt8) (kd : UInt8) : Bool:=if k = 3 ∨ k = 5 then nameB kd s else if k = 2 then decide (s.length ≤ 255) else s == []
theorem fieldsB_is (k n p : Int) (s : List UInt8) (kd : UInt8) : fieldsB ⟨k,n,s,p⟩ kd = (intB k n && strB k s kd):=rfl
set_option maxRecDepth 100000 in
set_option maxHeartbeats 8000000 in
theorem fields_any (k n p : Int) (s : List UInt8) (kd : UInt8) (w : World) (m : Int) (hm : SynG m w) (hs : s.length ≤ 4000000000) (hn : 0 ≤ n) : Calls Tryz.prog 74 #[tokV k n s p,.int .u8 kd.toNat] w fun e w' => e = .returned (.bool (fieldsB ⟨k,n,s,p⟩ kd)) ∧ Below w.heap.size w w':=by
 have HBA : Hid (∀ o,Below w.heap.size w (w.alloc o)):=Lib.hid (fun o => (Below.refl _ _).alloc (Nat.le_refl _) o)
 have HE:=Lib.hid (heap_alloc_new w (nObj k n s p))
 have HG:=Lib.hid (hm.below (HBA.out (nObj k n s p)) hm.low)
 have HB:=Lib.hid (HBA.out (nObj k n s p))
 obtain ⟨e0,e1,e2,e3⟩:=cells4 HE.out
 obtain ⟨X,hX⟩ : ∃ X,Hid (fieldsB ⟨k,n,s,p⟩ kd = X):=⟨_,Lib.hid rfl⟩
 have HX0 : Hid (X = (intB k n && strB k s kd)):=Lib.hid (by rw [← hX.out,fieldsB_is])
 obtain ⟨P,hP⟩ : ∃ P,w.heap.size = P:=⟨_,rfl⟩
 have HPE:=Lib.hid hP
 clear hm HBA
 unfold tokV
 go_enter Tryz.func74,Tryz.ntmps74
 go_upto_region 1 with fail
 generalize w.alloc (nObj k n s p) = W at *
 simp only [hP] at HB HE e0 e1 e2 e3 ⊢
 clear hP
 go_upto_block 0 with fail
 go_cut [12] (fun v wx => Hid (intB k n = true) ∧ W = wx)
 case first =>
  by_cases h1 : k = 1
  ·have f1 : (k == 1) = true:=by rw [h1]; rfl
   have HI : Hid (intB k n = true):=Lib.hid (by unfold intB; rw [if_pos h1])
   clear h1
   go_wp2_with fail
   go_meet
   exact ⟨HI,rfl⟩
  have f1 : (k == 1) = false:=beq_eq_false_iff_ne.2 h1
  by_cases h6 : k = 6
  ·have f6 : (k == 6) = true:=by rw [h6]; rfl
   by_cases h8 : n < 8
   ·have HI : Hid (intB k n = true):=Lib.hid (by unfold intB; rw [if_neg h1,if_pos h6]; exact decide_eq_true h8)
    clear h1 h6
    go_wp2_with fail
    go_meet
    exact ⟨HI,rfl⟩
   ·have HX : Hid (X = false):=Lib.hid (by rw [HX0.out,show intB k n = false by unfold intB; rw [if_neg h1,if_pos h6]; exact decide_eq_false h8] <;> rfl)
    have h8' : 8 ≤ n:=by omega
    clear h1 h6
    go_wp2_with fail
    go_ret
    rw [hX.out,HX.out]
    exact ⟨rfl,by rw [HPE.out]; exact HB.out⟩
  have f6 : (k == 6) = false:=beq_eq_false_iff_ne.2 h6
  by_cases h7 : k = 7
  ·have f7 : (k == 7) = true:=by rw [h7]; rfl
   by_cases h8 : n < 7
   ·have HI : Hid (intB k n = true):=Lib.hid (by unfold intB; rw [if_neg h1,if_neg h6,if_pos h7]; exact decide_eq_true h8)
    clear h1 h6 h7
    go_wp2_with fail
    go_meet
    exact ⟨HI,rfl⟩
   ·have HX : Hid (X = false):=Lib.hid (by rw [HX0.out,show intB k n = false by unfold intB; rw [if_neg h1,if_neg h6,if_pos h7]; exact decide_eq_false h8] <;> rfl)
    have h8' : 7 ≤ n:=by omega
    clear h1 h6 h7
    go_wp2_with fail
    go_ret
    rw [hX.out,HX.out]
    exact ⟨rfl,by rw [HPE.out]; exact HB.out⟩
  have f7 : (k == 7) = false:=beq_eq_false_iff_ne.2 h7
  by_cases h8 : n = 0
  ·have f8 : (n != 0) = false:=by rw [h8]; rfl
   have HI : Hid (intB k n = true):=Lib.hid (by unfold intB; rw [if_neg h1,if_neg h6,if_neg h7,h8] <;> rfl)
   clear h1 h6 h7 h8
   go_wp2_with fail
   go_meet
   exact ⟨HI,rfl⟩
  ·have f8 : (n != 0) = true:=bne_iff_ne.2 h8
   have HX : Hid (X = false):=Lib.hid (by rw [HX0.out,show intB k n = false by unfold intB; rw [if_neg h1,if_neg h6,if_neg h7]; exact beq_eq_false_iff_ne.2 h8] <;> rfl)
   clear h1 h6 h7 h8
   go_wp2_with fail
   go_ret
   rw [hX.out,HX.out]
   exact ⟨rfl,by rw [HPE.out]; exact HB.out⟩
 case rest =>
  obtain ⟨HI,rfl⟩:=hcut
  obtain ⟨W,rfl⟩ : ∃ x : World,x = W:=⟨_,rfl⟩
  have HX1 : Hid (X = strB k s kd):=Lib.hid (by rw [HX0.out,HI.out,Bool.true_and])
  clear HX0 HI
  by_cases h35 : k = 3 ∨ k = 5
  ·have HX2 : Hid (X = nameB kd s):=Lib.hid (by rw [HX1.out]; unfold strB; rw [if_pos h35])
   have HPA:=Lib.hid (parse_any s m W HG.out.1 (by omega))
   have hPW : Hid (P ≤ W.heap.size):=Lib.hid (Nat.le_of_lt (lt_of_block HE.out))
   have f35 : (k == 3) = true ∨ ((k == 3) = false ∧ (k == 5) = true):=by
    rcases h35 with h | h
    ·left; rw [h]; rfl
    ·right; rw [h]; exact ⟨rfl,rfl⟩
   clear h35 HX1
   cases hok : parOk s with
   | false =>
     have HX : Hid (X = false):=Lib.hid (by rw [HX2.out]; unfold nameB; rw [hok] <;> rfl)
     unfold parPost PPost at HPA
     rw [hok] at HPA
     simp only [Bool.false_and,Bool.false_eq_true,if_false] at HPA
     clear hok
     rcases f35 with f3 | ⟨f3,f5⟩
     all_goals
      go_wp2_with fail
      ((with_reducible refine HPA.out.mono ?_))
      rintro e w1 ⟨v,rfl,hv,hb1⟩
      obtain ⟨va,vc,rfl⟩:=own_strs_form hv
      have HB1 : Hid (Below P w w1):=Lib.hid (HB.out.trans (hb1.mono hPW.out))
      have HS1:=Lib.hid hb1.size
      clear hv hb1
      go_wp2_with fail
      go_ret
      rw [hX.out,HX.out]
      exact ⟨rfl,by rw [HPE.out]; exact HB1.out.alloc (Nat.le_trans hPW.out HS1.out) _⟩
   | true =>
     have hsl:=parSegs_len hok
     have HSG : Hid (singB s = (!parRoot s && (((parUp s : Nat) : Int) == 0) && (((parSegs s).length : Int) == 1))):=Lib.hid (by
      unfold singB
      congr 1
      ·congr 1
       rw [Bool.eq_iff_iff]; simp <;> omega
      ·rw [Bool.eq_iff_iff]; simp <;> omega)
     have HNB : Hid (X = (kd != 115 || singB s)):=Lib.hid (by rw [HX2.out]; unfold nameB; rw [hok] <;> rfl)
     unfold parPost PPost at HPA
     rw [hok] at HPA
     obtain ⟨segs,hsegs⟩ : ∃ z,parSegs s = z:=⟨_,rfl⟩
     obtain ⟨root,hroot⟩ : ∃ z,parRoot s = z:=⟨_,rfl⟩
     obtain ⟨up,hup⟩ : ∃ z,((parUp s : Nat) : Int) = z:=⟨_,rfl⟩
     simp only [Bool.true_and,if_true,hsegs,hroot,hup] at HPA HSG
     rw [hsegs] at hsl
     clear hok hsegs hroot hup HX2
     have hkd : ((kd.toNat : Int) != 115) = (kd != 115):=by rw [bne,bne]; congr 1; exact byte_int kd 115
     obtain ⟨kb,hkb⟩ : ∃ z,(kd != 115) = z:=⟨_,rfl⟩
     rw [hkb] at hkd HNB
     clear hkb
     cases kb with
     | true =>
       have HX : Hid (X = true):=Lib.hid (by rw [HNB.out] <;> rfl)
       rcases f35 with f3 | ⟨f3,f5⟩
       all_goals
        go_wp2_with fail
        ((with_reducible refine HPA.out.mono ?_))
        rintro e w1 ⟨v,rfl,hv,hb1⟩
        obtain ⟨va,vc,rfl⟩:=own_strs_form hv
        have HB1 : Hid (Below P w w1):=Lib.hid (HB.out.trans (hb1.mono hPW.out))
        have HS1:=Lib.hid hb1.size
        clear hv hb1
        go_wp2_with fail
        go_ret
        rw [hX.out,HX.out]
        exact ⟨rfl,by rw [HPE.out]; exact HB1.out.alloc (Nat.le_trans hPW.out HS1.out) _⟩
     | false =>
       have HX : Hid (X = singB s):=Lib.hid (by rw [HNB.out] <;> rfl)
       have HSI:=Lib.hid (fun va vc w => single_any root up va segs.length vc w (by omega))
       rw [← HSG.out,← HX.out] at HSI
       rcases f35 with f3 | ⟨f3,f5⟩
       all_goals
        go_wp2_with fail
        ((with_reducible refine HPA.out.mono ?_))
        rintro e w1 ⟨v,rfl,hv,hb1⟩
        obtain ⟨va,vc,rfl⟩:=own_strs_form hv
        have HB1 : Hid (Below P w w1):=Lib.hid (HB.out.trans (hb1.mono hPW.out))
        have HS1:=Lib.hid hb1.size
        obtain ⟨d0,d1,d2⟩:=cells3 (heap_alloc_new w1 (.cells #[.bool root,.int .i64 up,.slice va segs.length vc] 144))
        have HB2 : Hid (Below P w (w1.alloc (.cells #[.bool root,.int .i64 up,.slice va segs.length vc] 144))):=Lib.hid (HB1.out.alloc (Nat.le_trans hPW.out HS1.out) _)
        have HS2 : Hid (P ≤ (w1.alloc (.cells #[.bool root,.int .i64 up,.slice va segs.length vc] 144)).heap.size):=Lib.hid (by simp; have:=hPW.out; have:=HS1.out; omega)
        clear hv hb1
        go_wp2_with fail
        ((with_reducible refine (HSI.out _ _ _).mono ?_))
        rintro e w3 ⟨rfl,hb3⟩
        have HB3 : Hid (Below P w w3):=Lib.hid (HB2.out.trans (hb3.mono HS2.out))
        clear hb3
        go_wp2_with fail
        go_ret
        rw [hX.out]
        exact ⟨rfl,by rw [HPE.out]; exact HB3.out⟩
  ·have f3 : (k == 3) = false:=beq_eq_false_iff_ne.2 (fun h => h35 (.inl h))
   have f5 : (k == 5) = false:=beq_eq_false_iff_ne.2 (fun h => h35 (.inr h))
   by_cases h2 : k = 2
   ·have f2 : (k == 2) = true:=by rw [h2]; rfl
    have HX : Hid (X = decide (s.length ≤ 255)):=Lib.hid (by rw [HX1.out]; unfold strB; rw [if_neg h35,if_pos h2])
    have hd : decide ((s.length : Int) ≤ 255) = decide (s.length ≤ 255):=by rw [decide_eq_decide]; omega
    clear h2 h35 HX1
    go_wp2_with fail
    all_goals
     go_ret
     rw [hX.out,HX.out]
     exact ⟨by first | rfl | (congr 2; symm; simp; omega) | (congr 2; simp; omega),by rw [HPE.out]; exact HB.out⟩
   ·have f2 : (k == 2) = false:=beq_eq_false_iff_ne.2 h2
    have HX : Hid (X = s.isEmpty):=Lib.hid (by rw [HX1.out]; unfold strB; rw [if_neg h35,if_neg h2]; cases s <;> rfl)
    clear h2 h35 HX1
    go_wp2_with fail
    go_ret
    rw [hX.out,HX.out]
    exact ⟨rfl,by rw [HPE.out]; exact HB.out⟩
end
end Go.Proofs.YtnicnfchkdmieaaGreatDoor
