/- Ri -/
import Derived.Test.YtoohondkpddmcaaGreatDoorVbj
import Derived.Test.YtoohondkpddmcaaGreatDoorVav
set_option linter.unusedVariables false
set_option linter.unusedSimpArgs false
namespace Go.Proofs.YtoohondkpddmcaaGreatDoor
open Go.RowKit
attribute [local go_sem] ByteArray.mk_append_mk bs_get bs_cut bs_end
set_option maxRecDepth 100000 in
set_option maxHeartbeats 8000000 in
/-- The fields of a name or a call. -/
theorem rfields_path (op num : Int) (hop : op = 3 ∨ op = 5) (str : List UInt8) (pos : Int) (k : UInt8) (w : World) (hs : str.length ≤ 1048576) :
  Calls Tryz.prog 99 #[tokV op num str pos,.int .u8 k.toNat] w fun e w' => e = .returned (.bool (num == 0 && nameB k str)) ∧ Below w.heap.size w w':=by
 obtain ⟨X,hX⟩ : ∃ X,Hid ((num == 0 && nameB k str) = X):=⟨_,Lib.hid rfl⟩
 rw [hX.out]
 have HB0 : Hid (Below w.heap.size w (w.alloc (nObj op num str pos))):=Lib.hid ((Below.refl _ _).alloc (Nat.le_refl _) _)
 have HE0 : Hid ((w.alloc (nObj op num str pos)).heap[w.heap.size]? = some (nObj op num str pos)):=Lib.hid (heap_alloc_new _ _)
 obtain ⟨P,hP⟩ : ∃ P,w.heap.size = P:=⟨_,rfl⟩
 have HPE:=Lib.hid hP
 have HOP:=Lib.hid hop
 have e12 : (op == 1) = false ∧ (op == 2) = false:=by constructor <;> (rw [beq_eq_false_iff_ne]; omega)
 obtain ⟨e1,e2⟩:=e12
 have e35 : (op == 3) = true ∨ ((op == 3) = false ∧ (op == 5) = true):=by
  rcases hop with rfl | rfl
  ·exact .inl rfl
  ·exact .inr ⟨rfl,rfl⟩
 clear hop
 unfold tokV
 go_enter Tryz.func99,Tryz.ntmps99
 go_upto_region 1 with fail
 (try simp only [hP])
 rw [hP] at HB0 HE0
 generalize w.alloc (nObj op num str pos) = W0 at *
 clear hP
 obtain ⟨d0,d1,d2,d3⟩:=cells4 HE0.out
 have HPA:=Lib.hid (rparse_any str W0 (by omega))
 unfold parPost PPost at HPA
 obtain ⟨O,hO⟩ : ∃ O,parOk str = O:=⟨_,rfl⟩
 obtain ⟨R,hR⟩ : ∃ R,(parOk str && parRoot str) = R:=⟨_,rfl⟩
 obtain ⟨U,hU⟩ : ∃ U : Int,(if parOk str = true then (parUp str : Int) else 0) = U:=⟨_,rfl⟩
 obtain ⟨S,hS⟩ : ∃ S,(if parOk str = true then parSegs str else []) = S:=⟨_,rfl⟩
 have hFM : O = true → fmtV R U S = str:=by
  intro h
  rw [h] at hO
  rw [← hR,← hU,← hS,hO]
  simp only [Bool.true_and,if_true]
  exact fmt_par hO
 have hSL : S.length ≤ 32 ∧ ∀ x ∈ S,x.length ≤ 9223372036854775000:=by
  rw [← hS]
  by_cases h : parOk str = true
  ·rw [if_pos h]
   refine ⟨parSegs_len h,fun x hx => ?_⟩
   have:=segB_small (validB_segs h x hx)
   omega
  ·rw [if_neg h]; simp
 have hXS : O = true → X = (num == 0 && (k != 115 || segB str)):=by
  intro h
  rw [h] at hO
  rw [← hX.out]
  unfold nameB
  rw [hO,Bool.true_and,singB_seg hO]
 have hXN : O = false → X = false:=by
  intro h
  rw [h] at hO
  rw [← hX.out]
  unfold nameB
  rw [hO,Bool.false_and,Bool.and_false]
 rw [hR,hU,hS,hO] at HPA
 have HFM:=Lib.hid hFM
 have HSL:=Lib.hid hSL
 have HXS:=Lib.hid hXS
 have HXN:=Lib.hid hXN
 clear hO hR hU hS hFM hSL hXS hXN hX
 rcases e35 with e3 | ⟨e3,e5⟩
 all_goals
  go_wp2_with fail
  ((with_reducible refine HPA.out.mono ?_))
  rintro e w1 ⟨v,rfl,hv,hb1⟩
  have HB1 : Hid (Below P w w1):=Lib.hid (HB0.out.trans (hb1.mono (by have:=HB0.out.size; have:=HPE.out; omega)))
  have HE1:=Lib.hid (blk_below HE0.out hb1)
  have HST:=Lib.hid (StrsAt.of_own hv (by have:=HSL.out.1; omega))
  obtain ⟨va,vc,rfl⟩:=own_strs_form hv
  have hal : Below w1.heap.size w1 (w1.alloc (pObj R U (.slice va S.length vc))):=(Below.refl _ _).alloc (Nat.le_refl _) _
  have HB2 : Hid (Below P w (w1.alloc (pObj R U (.slice va S.length vc)))):=Lib.hid (HB1.out.trans (hal.mono (by have:=HB1.out.size; have:=HPE.out; omega)))
  have HE2:=Lib.hid (blk_below HE1.out hal)
  have HQ2:=Lib.hid (heap_alloc_new w1 (pObj R U (.slice va S.length vc)))
  have HST2:=Lib.hid (HST.out.below hal)
  have hsz : P ≤ (w1.alloc (pObj R U (.slice va S.length vc))).heap.size:=by have:=HB2.out.size; have:=HPE.out; omega
  have HSZ:=Lib.hid hsz
  clear hv hb1 hal HPA HB0 HE0 HB1 HE1 HST d0 d1 d2 d3 hsz
  go_upto_region 9 with fail
  generalize w1.heap.size = Q at *
  generalize w1.alloc (pObj R U (.slice va S.length vc)) = W at *
  obtain ⟨d0,d1,d2,d3⟩:=cells4 HE2.out
  obtain ⟨c0,c1,c2⟩:=cells3 HQ2.out
  cases hn : num == 0 with
  | false =>
    have HX : Hid (X = false):=Lib.hid (by
     cases O with
     | true => rw [HXS.out rfl,hn,Bool.false_and]
     | false => exact HXN.out rfl)
    go_quiet (fail)
    go_wp2_with fail
    go_ret
    rw [HX.out,HPE.out]
    exact ⟨rfl,below_drewN HB2.out _⟩
  | true =>
    cases O with
    | false =>
      have HX : Hid (X = false):=Lib.hid (HXN.out rfl)
      go_quiet (fail)
      go_wp2_with fail
      go_ret
      rw [HX.out,HPE.out]
      exact ⟨rfl,below_drewN HB2.out _⟩
    | true =>
      have HX : Hid (X = (k != 115 || segB str)):=Lib.hid (by rw [HXS.out rfl,hn,Bool.true_and])
      have HFF : Hid (fmtV R U S = str):=Lib.hid (HFM.out rfl)
      have k1 : ∀ x,Grows W x → x.cell? ⟨P,1,none⟩ = some (.int .u64 num):=fun x hx => (cells4 (blk_below HE2.out hx)).2.1
      have k2 : ∀ x,Grows W x → x.cell? ⟨P,2,none⟩ = some (.string ⟨str.toArray⟩):=fun x hx => (cells4 (blk_below HE2.out hx)).2.2.1
      have p0 : ∀ x,Grows W x → x.cell? ⟨Q,0,none⟩ = some (.bool R):=fun x hx => (cells3 (blk_below HQ2.out hx)).1
      have p1 : ∀ x,Grows W x → x.cell? ⟨Q,1,none⟩ = some (.int .i64 U):=fun x hx => (cells3 (blk_below HQ2.out hx)).2.1
      have p2 : ∀ x,Grows W x → x.cell? ⟨Q,2,none⟩ = some (.slice va S.length vc):=fun x hx => (cells3 (blk_below HQ2.out hx)).2.2
      clear d0 d1 d2 d3 c0 c1 c2 HXS HXN HFM
      obtain ⟨kb,hkb⟩ : ∃ z,segB str = z:=⟨_,rfl⟩
      have HSI:=Lib.hid (fun w => rsingle_is str kb (Lib.hid hkb) w (by omega))
      rw [hkb] at HX
      clear hkb
      by_cases hk : k = 115
      ·subst hk
       have HX2 : Hid (X = kb):=Lib.hid (by rw [HX.out]; rfl)
       refine wp_region_plan (Grows _) 22 [.reads [0,1,2,3,4,5,6,7,9,10],.act 8,.reads [11,12,13,14,15,16,17,18],.act 19,.reads [20,21],.act 22] (by kernel_rfl) (by kernel_rfl) (by kernel_rfl) (by kernel_rfl) (by kernel_rfl) (fun _ _ d _ _ h => by cases d <;> exact h) (Grows.self _) ?_
       refine wpPlan_reads ?_
       simp only [pickOps,List.drop_succ_cons,List.drop_zero,List.take_succ_cons,List.take_zero,List.cons_append,List.nil_append]
       repeat (go_big_quiet_step (first | (intro hb; rw [p0 _ hb]; simp only [Result.andThen]; rw [p1 _ hb]; simp only; rw [p2 _ hb]; exact ⟨rfl,rfl⟩) | (intro hb; rw [k1 _ hb]; exact ⟨rfl,rfl⟩) | (intro hb; rw [k2 _ hb]; exact ⟨rfl,rfl⟩)))
       refine wpQuiet_nil ?_
       refine wpPlan_act rfl ?_
       simp only [pickOps,List.drop_succ_cons,List.drop_zero,List.take_succ_cons,List.take_zero,List.cons_append,List.nil_append]
       have HFP:=Lib.hid (fun (x : World) (h : Grows W x) => formatPath_any _ R U S x (PathV.mk (HST2.out.below h)) HSL.out.2)
       go_wp2_with fail
       ((with_reducible refine (HFP.out _ (Grows.self _)).mono ?_))
       rintro e w5 ⟨rfl,hb5⟩
       rw [HFF.out]
       have HG5:=Lib.hid ((Grows.self W).trans hb5)
       clear hb5 HFP
       go_wp2_with fail
       refine ⟨fun _ => HG5.out,?_⟩
       refine wpPlan_reads ?_
       simp only [pickOps,List.drop_succ_cons,List.drop_zero,List.take_succ_cons,List.take_zero,List.cons_append,List.nil_append]
       repeat (go_big_quiet_step (first | (intro hb; rw [p0 _ hb]; simp only [Result.andThen]; rw [p1 _ hb]; simp only; rw [p2 _ hb]; exact ⟨rfl,rfl⟩) | (intro hb; rw [k1 _ hb]; exact ⟨rfl,rfl⟩) | (intro hb; rw [k2 _ hb]; exact ⟨rfl,rfl⟩)))
       refine wpQuiet_nil ?_
       refine wpPlan_act rfl ?_
       simp only [pickOps,List.drop_succ_cons,List.drop_zero,List.take_succ_cons,List.take_zero,List.cons_append,List.nil_append]
       go_wp2_with fail
       ((with_reducible refine (HSI.out _).mono ?_))
       rintro e w6 ⟨rfl,rfl⟩
       go_wp2_with fail
       refine ⟨fun _ => HG5.out,?_⟩
       refine wpPlan_reads ?_
       simp only [pickOps,List.drop_succ_cons,List.drop_zero,List.take_succ_cons,List.take_zero,List.cons_append,List.nil_append]
       repeat (go_big_quiet_step (first | (intro hb; rw [p0 _ hb]; simp only [Result.andThen]; rw [p1 _ hb]; simp only; rw [p2 _ hb]; exact ⟨rfl,rfl⟩) | (intro hb; rw [k1 _ hb]; exact ⟨rfl,rfl⟩) | (intro hb; rw [k2 _ hb]; exact ⟨rfl,rfl⟩)))
       refine wpQuiet_nil ?_
       refine wpPlan_act rfl ?_
       simp only [pickOps,List.drop_succ_cons,List.drop_zero,List.take_succ_cons,List.take_zero,List.cons_append,List.nil_append]
       go_wp2_with fail
       refine ⟨fun h => absurd h (by decide),wpPlan_nil ?_⟩
       go_wp2_with fail
       go_ret
       rw [HX2.out,HPE.out]
       exact ⟨rfl,bel_then HB2.out (Nat.le_of_eq HPE.out.symm) HG5.out⟩
      ·have hkk : ((k.toNat : Int) != 115) = true:=by
        have:=byte_int k 115
        rw [bne,show (115 : Int) = ((115 : UInt8).toNat : Int) from rfl,this,beq_eq_false_iff_ne.2 hk]
        rfl
       have HX2 : Hid (X = true):=Lib.hid (by rw [HX.out,bne_iff_ne.2 hk]; rfl)
       refine wp_region_plan (Grows _) 22 [.reads [0,1,2,3,4,5,6,7,9,10],.act 8,.reads [11,12,13,14,15,16,17,18],.act 19,.reads [20,21],.act 22] (by kernel_rfl) (by kernel_rfl) (by kernel_rfl) (by kernel_rfl) (by kernel_rfl) (fun _ _ d _ _ h => by cases d <;> exact h) (Grows.self _) ?_
       refine wpPlan_reads ?_
       simp only [pickOps,List.drop_succ_cons,List.drop_zero,List.take_succ_cons,List.take_zero,List.cons_append,List.nil_append]
       repeat (go_big_quiet_step (first | (intro hb; rw [p0 _ hb]; simp only [Result.andThen]; rw [p1 _ hb]; simp only; rw [p2 _ hb]; exact ⟨rfl,rfl⟩) | (intro hb; rw [k1 _ hb]; exact ⟨rfl,rfl⟩) | (intro hb; rw [k2 _ hb]; exact ⟨rfl,rfl⟩)))
       refine wpQuiet_nil ?_
       refine wpPlan_act rfl ?_
       simp only [pickOps,List.drop_succ_cons,List.drop_zero,List.take_succ_cons,List.take_zero,List.cons_append,List.nil_append]
       have HFP:=Lib.hid (fun (x : World) (h : Grows W x) => formatPath_any _ R U S x (PathV.mk (HST2.out.below h)) HSL.out.2)
       go_wp2_with fail
       ((with_reducible refine (HFP.out _ (Grows.self _)).mono ?_))
       rintro e w5 ⟨rfl,hb5⟩
       rw [HFF.out]
       have HG5:=Lib.hid ((Grows.self W).trans hb5)
       clear hb5 HFP
       go_wp2_with fail
       refine ⟨fun _ => HG5.out,?_⟩
       refine wpPlan_reads ?_
       simp only [pickOps,List.drop_succ_cons,List.drop_zero,List.take_succ_cons,List.take_zero,List.cons_append,List.nil_append]
       repeat (go_big_quiet_step (first | (intro hb; rw [p0 _ hb]; simp only [Result.andThen]; rw [p1 _ hb]; simp only; rw [p2 _ hb]; exact ⟨rfl,rfl⟩) | (intro hb; rw [k1 _ hb]; exact ⟨rfl,rfl⟩) | (intro hb; rw [k2 _ hb]; exact ⟨rfl,rfl⟩)))
       refine wpQuiet_nil ?_
       refine wpPlan_act rfl ?_
       simp only [pickOps,List.drop_succ_cons,List.drop_zero,List.take_succ_cons,List.take_zero,List.cons_append,List.nil_append]
       go_wp2_with fail
       refine ⟨fun _ => HG5.out,?_⟩
       refine wpPlan_reads ?_
       simp only [pickOps,List.drop_succ_cons,List.drop_zero,List.take_succ_cons,List.take_zero,List.cons_append,List.nil_append]
       repeat (go_big_quiet_step (first | (intro hb; rw [p0 _ hb]; simp only [Result.andThen]; rw [p1 _ hb]; simp only; rw [p2 _ hb]; exact ⟨rfl,rfl⟩) | (intro hb; rw [k1 _ hb]; exact ⟨rfl,rfl⟩) | (intro hb; rw [k2 _ hb]; exact ⟨rfl,rfl⟩)))
       refine wpQuiet_nil ?_
       refine wpPlan_act rfl ?_
       simp only [pickOps,List.drop_succ_cons,List.drop_zero,List.take_succ_cons,List.take_zero,List.cons_append,List.nil_append]
       go_wp2_with fail
       refine ⟨fun h => absurd h (by decide),wpPlan_nil ?_⟩
       go_wp2_with fail
       go_ret
       rw [HX2.out,HPE.out]
       exact ⟨rfl,bel_then HB2.out (Nat.le_of_eq HPE.out.symm) HG5.out⟩
set_option maxRecDepth 100000 in
set_option maxHeartbeats 8000000 in
/-- The fields of other nodes. -/
theorem rfields_other (op num : Int) (h3 : op ≠ 3) (h5 : op ≠ 5) (h0 : 0 ≤ num) (str : List UInt8) (pos : Int) (k : UInt8) (w : World) (hs : str.length ≤ 1048576) :
  Calls Tryz.prog 99 #[tokV op num str pos,.int .u8 k.toNat] w fun e w' => e = .returned (.bool (fieldsB ⟨op,num,str,pos⟩ k)) ∧ Below w.heap.size w w':=by
 obtain ⟨X,hX⟩ : ∃ X,Hid (fieldsB ⟨op,num,str,pos⟩ k = X):=⟨_,Lib.hid rfl⟩
 rw [hX.out]
 have hx:=hX.out
 unfold fieldsB at hx
 simp only [h3,h5,or_self,if_false] at hx
 rw [show (str == []) = str.isEmpty by cases str <;> rfl] at hx
 have HB0 : Hid (Below w.heap.size w (w.alloc (nObj op num str pos))):=Lib.hid ((Below.refl _ _).alloc (Nat.le_refl _) _)
 have HE0 : Hid ((w.alloc (nObj op num str pos)).heap[w.heap.size]? = some (nObj op num str pos)):=Lib.hid (heap_alloc_new _ _)
 obtain ⟨P,hP⟩ : ∃ P,w.heap.size = P:=⟨_,rfl⟩
 have HPE:=Lib.hid hP
 have e3 : (op == 3) = false:=beq_eq_false_iff_ne.2 h3
 have e5 : (op == 5) = false:=beq_eq_false_iff_ne.2 h5
 unfold tokV
 go_enter Tryz.func99,Tryz.ntmps99
 go_upto_region 1 with fail
 (try simp only [hP])
 rw [hP] at HB0 HE0
 generalize w.alloc (nObj op num str pos) = W0 at *
 clear hP
 obtain ⟨d0,d1,d2,d3⟩:=cells4 HE0.out
 have hsz : (str.length : Int) ≤ 1048576:=by omega
 obtain ⟨sb,hsb⟩ : ∃ z,str.isEmpty = z:=⟨_,rfl⟩
 obtain ⟨nb,hnb⟩ : ∃ z,(num == 0) = z:=⟨_,rfl⟩
 by_cases c1 : op = 1
 ·subst c1
  simp only [if_true,show ((1 : Int) = 2) = False by decide,if_false,Bool.true_and] at hx
  have HX:=Lib.hid hx
  clear hx h3 h5 hX hsb hnb
  go_wp2_with fail
  go_ret
  rw [← HX.out,HPE.out]
  exact ⟨rfl,HB0.out⟩
 have f1 : (op == 1) = false:=beq_eq_false_iff_ne.2 c1
 by_cases c2 : op = 2
 ·subst c2
  simp only [show ((2 : Int) = 1) = False by decide,show ((2 : Int) = 6) = False by decide,show ((2 : Int) = 7) = False by decide,if_true,if_false] at hx
  rw [hnb] at hx
  have HX:=Lib.hid hx
  clear hx h3 h5 hX hsb c1
  cases nb
  all_goals
   go_wp2_with fail
   go_ret
   rw [← HX.out,HPE.out]
   exact ⟨boolOf (by first | (simp; done) | (simp; omega)),HB0.out⟩
 have f2 : (op == 2) = false:=beq_eq_false_iff_ne.2 c2
 by_cases c6 : op = 6
 ·subst c6
  simp only [show ((6 : Int) = 1) = False by decide,show ((6 : Int) = 2) = False by decide,if_true,if_false] at hx
  rw [hsb] at hx
  have HX:=Lib.hid hx
  clear hx h3 h5 hX hnb c1 c2
  cases sb
  all_goals
   go_wp2_with fail
   go_ret
   rw [← HX.out,HPE.out]
   exact ⟨boolOf (by simp),HB0.out⟩
 have f6 : (op == 6) = false:=beq_eq_false_iff_ne.2 c6
 by_cases c7 : op = 7
 ·subst c7
  simp only [show ((7 : Int) = 1) = False by decide,show ((7 : Int) = 2) = False by decide,show ((7 : Int) = 6) = False by decide,if_true,if_false] at hx
  rw [hsb] at hx
  have HX:=Lib.hid hx
  clear hx h3 h5 hX hnb c1 c2 c6
  cases sb
  all_goals
   go_wp2_with fail
   go_ret
   rw [← HX.out,HPE.out]
   exact ⟨boolOf (by simp),HB0.out⟩
 have f7 : (op == 7) = false:=beq_eq_false_iff_ne.2 c7
 simp only [c1,c2,c6,c7,if_false] at hx
 rw [hnb,hsb] at hx
 have HX:=Lib.hid hx
 clear hx h3 h5 hX c1 c2 c6 c7
 cases nb
 all_goals
  go_wp2_with fail
  go_ret
  rw [← HX.out,HPE.out]
  exact ⟨boolOf (by first | (simp [hsb]; done) | (cases sb <;> simp [hsb])),HB0.out⟩
theorem rfields_any (n : Nd) (h0 : 0 ≤ n.num) (k : UInt8) (w : World) (hs : n.str.length ≤ 1048576) :
  Calls Tryz.prog 99 #[tokV n.kind n.num n.str n.pos,.int .u8 k.toNat] w fun e w' => e = .returned (.bool (fieldsB n k)) ∧ Below w.heap.size w w':=by
 obtain ⟨op,num,str,pos⟩:=n
 by_cases h : op = 3 ∨ op = 5
 ·have:=rfields_path op num h str pos k w hs
  rw [show fieldsB ⟨op,num,str,pos⟩ k = (num == 0 && nameB k str) by
   unfold fieldsB
   simp only [h,if_true]
   rw [if_neg (by omega),if_neg (by omega),if_neg (by omega)]]
  exact this
 ·exact rfields_other op num (by omega) (by omega) h0 str pos k w hs
theorem rfields_is (n : Nd) (h0 : 0 ≤ n.num) (k : UInt8) (b : Bool) (H : Hid (fieldsB n k = b)) (w : World) (hs : n.str.length ≤ 1048576) :
  Calls Tryz.prog 99 #[tokV n.kind n.num n.str n.pos,.int .u8 k.toNat] w fun e w' => e = .returned (.bool b) ∧ Below w.heap.size w w':=by
 have:=rfields_any n h0 k w hs
 rw [H.out] at this
 exact this
end Go.Proofs.YtoohondkpddmcaaGreatDoor
