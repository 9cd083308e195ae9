/- Rh Ri -/
import Derived.Test.YtnicnfchkdmieaaGreatDoorXbi
import Derived.Test.YtnicnfchkdmieaaGreatDoorXap
import Derived.Test.YtnicnfchkdmieaaGreatDoorXav
set_option linter.unusedVariables false
set_option linter.unusedSimpArgs false
namespace Go.Proofs.YtnicnfchkdmieaaGreatDoor
section
open Go.RowKit
attribute [local go_sem] ByteArray.mk_append_mk bs_get bs_cut bs_end
def kindsV (op kids : Int) : List UInt8 × Bool :=
 if op = 1 ∨ op = 2 ∨ op = 3 ∨ op = 6 ∨ op = 7 then ([],kids == 0)
 else if op = 5 then (if kids < 0 ∨ 7 < kids then ([],false) else (List.replicate kids.toNat 101,true))
 else if op = 31 ∧ kids = 3 then ([101,83,83],true)
 else if op = 33 ∧ kids = 1 then ([101],true)
 else ((rowR (rowF op)).2.2,(rowF op).isSome && (((rowR (rowF op)).2.2.length : Int) == kids))
def inR (op : Int) : Bool:=op == 1 || op == 2 || op == 3 || op == 5 || op == 6 || op == 7 || inTab op
theorem accB_inR {k : UInt8} {op : Int} (h : accB k op = true) : inR op = true:=by
 unfold accB exprB elemB dataB at h
 unfold inR inTab
 repeat' split at h
 all_goals
  simp only [Bool.or_eq_true,Bool.and_eq_true,Bool.not_eq_true',Bool.or_eq_false_iff,decide_eq_true_eq,beq_iff_eq,beq_eq_false_iff_ne,Bool.false_eq_true] at h ⊢
  try omega
theorem kidsK_kinds (n : Nd) (h : inR n.kind = true) : kidsK n = if (kindsV n.kind n.pos).2 = true then some (kindsV n.kind n.pos).1 else none:=by
 unfold kidsK kindsV
 by_cases h5 : n.kind = 5
 ·rw [h5]
  simp only [show ((5 : Int) = 1 ∨ (5 : Int) = 2 ∨ (5 : Int) = 3 ∨ (5 : Int) = 6 ∨ (5 : Int) = 7) = False by decide,if_true,if_false]
  by_cases hk : 0 ≤ n.pos ∧ n.pos ≤ 7
  ·rw [if_pos hk,if_neg (show ¬ (n.pos < 0 ∨ 7 < n.pos) by omega)]; rfl
  ·rw [if_neg hk,if_pos (show n.pos < 0 ∨ 7 < n.pos by omega)]; rfl
 rw [if_neg h5]
 by_cases hL : n.kind = 1 ∨ n.kind = 2 ∨ n.kind = 3 ∨ n.kind = 6 ∨ n.kind = 7
 ·rw [if_pos hL,if_neg (by omega),if_neg (by omega)]
  have e : formP n.kind = ([],[]):=by rcases hL with h | h | h | h | h <;> rw [h] <;> rfl
  rw [e]
  simp only [List.length_nil,beq_iff_eq]
  by_cases hp : n.pos = 0
  ·rw [if_pos hp,if_pos (by rw [hp] <;> rfl)]
  ·rw [if_neg hp,if_neg (by intro e; exact hp e.symm)]
 rw [if_neg hL,if_neg h5]
 have ht : inTab n.kind = true:=by
  unfold inR at h
  simp only [Bool.or_eq_true,beq_iff_eq] at h
  rcases h with h | h
  ·omega
  ·exact h
 rw [rowF_tab ht]
 simp only [rowR,Option.isSome_some,Bool.true_and]
 by_cases h33 : n.kind = 33
 ·rw [h33]
  have e : formP 33 = ([82,101,116,117,114,110],[]):=by decide +kernel
  simp only [e,show ((33 : Int) = 31) = False by decide,false_and,if_false,if_true,true_and,List.length_nil]
  by_cases h1 : n.pos = 1
  ·rw [if_pos (by omega),if_pos h1,h1]; rfl
  ·rw [if_neg h1]
   by_cases h0 : n.pos = 0
   ·rw [if_pos (by omega),h0]; rfl
   ·rw [if_neg (by omega),if_neg (by simp only [beq_iff_eq]; omega)]
 rw [if_neg h33]
 simp only [show (n.kind = 33) = False from eq_false h33,false_and,if_false]
 by_cases h31 : n.kind = 31 ∧ n.pos = 3
 ·rw [if_pos h31,if_pos h31]; rfl
 ·rw [if_neg h31,if_neg h31]
  by_cases hl : ((formP n.kind).2.length : Int) = n.pos
  ·rw [if_pos hl,if_pos (by simp only [beq_iff_eq]; exact hl)]
  ·rw [if_neg hl,if_neg (by simp only [beq_iff_eq]; exact hl)]
theorem rows_short : ∀ t ∈ rowsL,t.2.2.length ≤ 5:=by decide +kernel
set_option maxRecDepth 100000 in
set_option maxHeartbeats 4000000 in
theorem kinds_any (op kids : Int) (w : World) : Calls Tryz.prog 59 #[.int .i64 op,.int .i64 kids] w fun e w' => e = .returned (.tuple #[.string ⟨(kindsV op kids).1.toArray⟩,.bool (kindsV op kids).2]) ∧ Below w.heap.size w w':=by
 obtain ⟨X,hX⟩ : ∃ X,Hid (kindsV op kids = X):=⟨_,Lib.hid rfl⟩
 rw [hX.out]
 have hx:=hX.out
 unfold kindsV at hx
 have HB0:=Lib.hid (Below.refl w.heap.size w)
 by_cases hL : op = 1 ∨ op = 2 ∨ op = 3 ∨ op = 6 ∨ op = 7
 ·rw [if_pos hL] at hx
  have HX:=Lib.hid hx
  clear hx
  rcases hL with rfl | rfl | rfl | rfl | rfl
  all_goals
   go_enter Tryz.func59,Tryz.ntmps59
   go_wp2_with fail
   go_ret2
   rw [← HX.out]
   exact ⟨rfl,HB0.out⟩
 rw [if_neg hL] at hx
 by_cases h5 : op = 5
 ·rw [if_pos h5] at hx
  subst h5
  by_cases hk : kids < 0 ∨ 7 < kids
  ·rw [if_pos hk] at hx
   have HX:=Lib.hid hx
   clear hx hL
   rcases hk with hk | hk
   all_goals
    go_enter Tryz.func59,Tryz.ntmps59
    go_wp2_with fail
    go_ret2
    rw [← HX.out]
    exact ⟨rfl,HB0.out⟩
  ·rw [if_neg hk] at hx
   obtain ⟨n,rfl⟩ : ∃ n : Nat,kids = n:=⟨kids.toNat,by omega⟩
   have hn : n ≤ 7:=by omega
   have hn' : ¬ (n : Int) < 0:=by omega
   have hn2 : ¬ (7 : Int) < (n : Int):=by omega
   have HE : Hid (List.take n [101,101,101,101,101,101,101] = List.replicate n (101 : UInt8)):=Lib.hid (by
    match n,hn with
    | 0,_ => rfl
    | 1,_ => rfl
    | 2,_ => rfl
    | 3,_ => rfl
    | 4,_ => rfl
    | 5,_ => rfl
    | 6,_ => rfl
    | 7,_ => rfl)
   have HX:=Lib.hid hx
   clear hx hL hk
   go_enter Tryz.func59,Tryz.ntmps59
   go_wp2_with fail
   go_ret2
   rw [← HX.out]
   refine ⟨?_,HB0.out⟩
   rw [HE.out]
   rfl
 rw [if_neg h5] at hx
 have e1 : (op == 1) = false:=by rw [beq_eq_false_iff_ne]; omega
 have e2 : (op == 2) = false:=by rw [beq_eq_false_iff_ne]; omega
 have e3 : (op == 3) = false:=by rw [beq_eq_false_iff_ne]; omega
 have e6 : (op == 6) = false:=by rw [beq_eq_false_iff_ne]; omega
 have e7 : (op == 7) = false:=by rw [beq_eq_false_iff_ne]; omega
 have e5 : (op == 5) = false:=by rw [beq_eq_false_iff_ne]; omega
 by_cases h31 : op = 31 ∧ kids = 3
 ·rw [if_pos h31] at hx
  obtain ⟨rfl,rfl⟩:=h31
  have HX:=Lib.hid hx
  clear hx hL h5
  go_enter Tryz.func59,Tryz.ntmps59
  go_wp2_with fail
  go_ret2
  rw [← HX.out]
  exact ⟨rfl,HB0.out⟩
 rw [if_neg h31] at hx
 by_cases h33 : op = 33 ∧ kids = 1
 ·rw [if_pos h33] at hx
  obtain ⟨rfl,rfl⟩:=h33
  have HX:=Lib.hid hx
  clear hx hL h5 h31
  go_enter Tryz.func59,Tryz.ntmps59
  go_wp2_with fail
  go_ret2
  rw [← HX.out]
  exact ⟨rfl,HB0.out⟩
 rw [if_neg h33] at hx
 have HRO:=Lib.hid (rowOf_any op w)
 obtain ⟨R,hR⟩ : ∃ R,rowF op = R:=⟨_,rfl⟩
 rw [hR] at HRO hx
 obtain ⟨s,hs⟩ : ∃ s,(rowR R).2.2 = s:=⟨_,rfl⟩
 have hsl : s.length ≤ 1000:=by
  rw [← hs,← hR]
  unfold rowF
  cases hf : rowsL.find? (fun t => t.1 == op) with
  | none => simp [rowR]
  | some t => exact Nat.le_trans (rows_short t (List.mem_of_find?_eq_some hf)) (by omega)
 obtain ⟨a,b,hab⟩ : ∃ a b,rowR R = (a,b,s):=⟨(rowR R).1,(rowR R).2.1,by rw [← hs]⟩
 obtain ⟨ok,hok⟩ : ∃ ok,R.isSome = ok:=⟨_,rfl⟩
 rw [hs,hok] at hx
 rw [hab,hok] at HRO
 have HX:=Lib.hid hx
 clear hx hR hs hab hok
 have hcase : (op = 31 ∧ kids ≠ 3) ∨ (op = 33 ∧ kids ≠ 1) ∨ (op ≠ 31 ∧ op ≠ 33):=by omega
 clear hL h5 h31 h33
 have hfin : ((op == 31) = true ∧ (kids == 3) = false) ∨ ((op == 33) = true ∧ (op == 31) = false ∧ (kids == 1) = false) ∨ ((op == 31) = false ∧ (op == 33) = false):=by
  rcases hcase with ⟨h1,h2⟩ | ⟨h1,h2⟩ | ⟨h1,h2⟩
  ·exact .inl ⟨by rw [h1]; rfl,beq_eq_false_iff_ne.2 h2⟩
  ·exact .inr (.inl ⟨by rw [h1]; rfl,by rw [h1]; rfl,beq_eq_false_iff_ne.2 h2⟩)
  ·exact .inr (.inr ⟨beq_eq_false_iff_ne.2 h1,beq_eq_false_iff_ne.2 h2⟩)
 clear hcase
 rcases hfin with ⟨t1,t2⟩ | ⟨t1,t2,t3⟩ | ⟨t1,t2⟩
 all_goals
  go_enter Tryz.func59,Tryz.ntmps59
  go_wp2_with fail
  ((with_reducible refine HRO.out.mono ?_))
  rintro e w1 ⟨rfl,hb1⟩
  have HB1 : Hid (Below w.heap.size w (w1.alloc (rwObj a b s))):=Lib.hid (hb1.alloc hb1.size _)
  have hcell:=heap_alloc_new w1 (rwObj a b s)
  clear hb1 HRO
  go_upto_region 19 with fail
  obtain ⟨d0,d1,d2⟩:=cells3 hcell
  generalize w1.alloc (rwObj a b s) = W at *
  clear hcell
  cases ok
  all_goals
   go_quiet (fail)
   go_wp2_with fail
   go_ret2
   rw [← HX.out]
   exact ⟨rfl,below_drewN HB1.out _⟩
theorem kinds_is (op kids : Int) (ks : List UInt8) (ok : Bool) (H : Hid (kindsV op kids = (ks,ok))) (w : World) : Calls Tryz.prog 59 #[.int .i64 op,.int .i64 kids] w fun e w' => e = .returned (.tuple #[.string ⟨ks.toArray⟩,.bool ok]) ∧ Below w.heap.size w w':=by
 have:=kinds_any op kids w
 rw [H.out] at this
 exact this
end
section
open Go.RowKit
attribute [local go_sem] ByteArray.mk_append_mk bs_get bs_cut bs_end
set_option maxRecDepth 100000 in
set_option maxHeartbeats 8000000 in
/-- The fields of a name or a call. -/
theorem rfields_path (op num : Int) (hop : op = 3 ∨ op = 5) (str : List UInt8) (pos : Int) (k : UInt8) (w : World) (hs : str.length ≤ 1048576) :
  Calls Tryz.prog 77 #[tokV op num str pos,.int .u8 k.toNat] w fun e w' => e = .returned (.bool (num == 0 && nameB k str)) ∧ Below w.heap.size w w':=by
 obtain ⟨X,hX⟩ : ∃ X,Hid ((num == 0 && nameB k str) = X):=⟨_,Lib.hid rfl⟩
 rw [hX.out]
 have HB0 : Hid (Below w.heap.size w (w.alloc (nObj op num str pos))):=Lib.hid ((Below.refl _ _).alloc (Nat.le_refl _) _)
 have HE0 : Hid ((w.alloc (nObj op num str pos)).heap[w.heap.size]? = some (nObj op num str pos)):=Lib.hid (heap_alloc_new _ _)
 obtain ⟨P,hP⟩ : ∃ P,w.heap.size = P:=⟨_,rfl⟩
 have HPE:=Lib.hid hP
 have HOP:=Lib.hid hop
 have e12 : (op == 1) = false ∧ (op == 2) = false:=by constructor <;> (rw [beq_eq_false_iff_ne]; omega)
 obtain ⟨e1,e2⟩:=e12
 have e35 : (op == 3) = true ∨ ((op == 3) = false ∧ (op == 5) = true):=by
  rcases hop with rfl | rfl
  ·exact .inl rfl
  ·exact .inr ⟨rfl,rfl⟩
 clear hop
 unfold tokV
 go_enter Tryz.func77,Tryz.ntmps77
 go_upto_region 1 with fail
 (try simp only [hP])
 rw [hP] at HB0 HE0
 generalize w.alloc (nObj op num str pos) = W0 at *
 clear hP
 obtain ⟨d0,d1,d2,d3⟩:=cells4 HE0.out
 have HPA:=Lib.hid (rparse_any str W0 (by omega))
 unfold parPost PPost at HPA
 obtain ⟨O,hO⟩ : ∃ O,parOk str = O:=⟨_,rfl⟩
 obtain ⟨R,hR⟩ : ∃ R,(parOk str && parRoot str) = R:=⟨_,rfl⟩
 obtain ⟨U,hU⟩ : ∃ U : Int,(if parOk str = true then (parUp str : Int) else 0) = U:=⟨_,rfl⟩
 obtain ⟨S,hS⟩ : ∃ S,(if parOk str = true then parSegs str else []) = S:=⟨_,rfl⟩
 have hFM : O = true → fmtV R U S = str:=by
  intro h
  rw [h] at hO
  rw [← hR,← hU,← hS,hO]
  simp only [Bool.true_and,if_true]
  exact fmt_par hO
 have hSL : S.length ≤ 32 ∧ ∀ x ∈ S,x.length ≤ 9223372036854775000:=by
  rw [← hS]
  by_cases h : parOk str = true
  ·rw [if_pos h]
   refine ⟨parSegs_len h,fun x hx => ?_⟩
   have:=segB_small (validB_segs h x hx)
   omega
  ·rw [if_neg h]; simp
 have hXS : O = true → X = (num == 0 && (k != 115 || segB str)):=by
  intro h
  rw [h] at hO
  rw [← hX.out]
  unfold nameB
  rw [hO,Bool.true_and,singB_seg hO]
 have hXN : O = false → X = false:=by
  intro h
  rw [h] at hO
  rw [← hX.out]
  unfold nameB
  rw [hO,Bool.false_and,Bool.and_false]
 rw [hR,hU,hS,hO] at HPA
 have HFM:=Lib.hid hFM
 have HSL:=Lib.hid hSL
 have HXS:=Lib.hid hXS
 have HXN:=Lib.hid hXN
 clear hO hR hU hS hFM hSL hXS hXN hX
 rcases e35 with e3 | ⟨e3,e5⟩
 all_goals
  go_wp2_with fail
  ((with_reducible refine HPA.out.mono ?_))
  rintro e w1 ⟨v,rfl,hv,hb1⟩
  have HB1 : Hid (Below P w w1):=Lib.hid (HB0.out.trans (hb1.mono (by have:=HB0.out.size; have:=HPE.out; omega)))
  have HE1:=Lib.hid (blk_below HE0.out hb1)
  have HST:=Lib.hid (StrsAt.of_own hv (by have:=HSL.out.1; omega))
  obtain ⟨va,vc,rfl⟩:=own_strs_form hv
  have hal : Below w1.heap.size w1 (w1.alloc (pObj R U (.slice va S.length vc))):=(Below.refl _ _).alloc (Nat.le_refl _) _
  have HB2 : Hid (Below P w (w1.alloc (pObj R U (.slice va S.length vc)))):=Lib.hid (HB1.out.trans (hal.mono (by have:=HB1.out.size; have:=HPE.out; omega)))
  have HE2:=Lib.hid (blk_below HE1.out hal)
  have HQ2:=Lib.hid (heap_alloc_new w1 (pObj R U (.slice va S.length vc)))
  have HST2:=Lib.hid (HST.out.below hal)
  have hsz : P ≤ (w1.alloc (pObj R U (.slice va S.length vc))).heap.size:=by have:=HB2.out.size; have:=HPE.out; omega
  have HSZ:=Lib.hid hsz
  clear hv hb1 hal HPA HB0 HE0 HB1 HE1 HST d0 d1 d2 d3 hsz
  go_upto_region 9 with fail
  generalize w1.heap.size = Q at *
  generalize w1.alloc (pObj R U (.slice va S.length vc)) = W at *
  obtain ⟨d0,d1,d2,d3⟩:=cells4 HE2.out
  obtain ⟨c0,c1,c2⟩:=cells3 HQ2.out
  cases hn : num == 0 with
  | false =>
    have HX : Hid (X = false):=Lib.hid (by
     cases O with
     | true => rw [HXS.out rfl,hn,Bool.false_and]
     | false => exact HXN.out rfl)
    go_quiet (fail)
    go_wp2_with fail
    go_ret
    rw [HX.out,HPE.out]
    exact ⟨rfl,below_drewN HB2.out _⟩
  | true =>
    cases O with
    | false =>
      have HX : Hid (X = false):=Lib.hid (HXN.out rfl)
      go_quiet (fail)
      go_wp2_with fail
      go_ret
      rw [HX.out,HPE.out]
      exact ⟨rfl,below_drewN HB2.out _⟩
    | true =>
      have HX : Hid (X = (k != 115 || segB str)):=Lib.hid (by rw [HXS.out rfl,hn,Bool.true_and])
      have HFF : Hid (fmtV R U S = str):=Lib.hid (HFM.out rfl)
      have k1 : ∀ x,Grows W x → x.cell? ⟨P,1,none⟩ = some (.int .u64 num):=fun x hx => (cells4 (blk_below HE2.out hx)).2.1
      have k2 : ∀ x,Grows W x → x.cell? ⟨P,2,none⟩ = some (.string ⟨str.toArray⟩):=fun x hx => (cells4 (blk_below HE2.out hx)).2.2.1
      have p0 : ∀ x,Grows W x → x.cell? ⟨Q,0,none⟩ = some (.bool R):=fun x hx => (cells3 (blk_below HQ2.out hx)).1
      have p1 : ∀ x,Grows W x → x.cell? ⟨Q,1,none⟩ = some (.int .i64 U):=fun x hx => (cells3 (blk_below HQ2.out hx)).2.1
      have p2 : ∀ x,Grows W x → x.cell? ⟨Q,2,none⟩ = some (.slice va S.length vc):=fun x hx => (cells3 (blk_below HQ2.out hx)).2.2
      clear d0 d1 d2 d3 c0 c1 c2 HXS HXN HFM
      obtain ⟨kb,hkb⟩ : ∃ z,segB str = z:=⟨_,rfl⟩
      have HSI:=Lib.hid (fun w => rsingle_is str kb (Lib.hid hkb) w (by omega))
      rw [hkb] at HX
      clear hkb
      by_cases hk : k = 115
      ·subst hk
       have HX2 : Hid (X = kb):=Lib.hid (by rw [HX.out] <;> rfl)
       refine wp_region_plan (Grows _) 22 [.reads [0,1,2,3,4,5,6,7,9,10],.act 8,.reads [11,12,13,14,15,16,17,18],.act 19,.reads [20,21],.act 22] (by kernel_rfl) (by kernel_rfl) (by kernel_rfl) (by kernel_rfl) (by kernel_rfl) (fun _ _ d _ _ h => by cases d <;> exact h) (Grows.self _) ?_
       refine wpPlan_reads ?_
       simp only [pickOps,List.drop_succ_cons,List.drop_zero,List.take_succ_cons,List.take_zero,List.cons_append,List.nil_append]
       repeat (go_big_quiet_step (first | (intro hb; rw [p0 _ hb]; simp only [Result.andThen]; rw [p1 _ hb]; simp only; rw [p2 _ hb]; exact ⟨rfl,rfl⟩) | (intro hb; rw [k1 _ hb]; exact ⟨rfl,rfl⟩) | (intro hb; rw [k2 _ hb]; exact ⟨rfl,rfl⟩)))
       refine wpQuiet_nil ?_
       refine wpPlan_act rfl ?_
       simp only [pickOps,List.drop_succ_cons,List.drop_zero,List.take_succ_cons,List.take_zero,List.cons_append,List.nil_append]
       have HFP:=Lib.hid (fun (x : World) (h : Grows W x) => formatPath_any _ R U S x (PathV.mk (HST2.out.below h)) HSL.out.2)
       go_wp2_with fail
       ((with_reducible refine (HFP.out _ (Grows.self _)).mono ?_))
       rintro e w5 ⟨rfl,hb5⟩
       rw [HFF.out]
       have HG5:=Lib.hid ((Grows.self W).trans hb5)
       clear hb5 HFP
       go_wp2_with fail
       refine ⟨fun _ => HG5.out,?_⟩
       refine wpPlan_reads ?_
       simp only [pickOps,List.drop_succ_cons,List.drop_zero,List.take_succ_cons,List.take_zero,List.cons_append,List.nil_append]
       repeat (go_big_quiet_step (first | (intro hb; rw [p0 _ hb]; simp only [Result.andThen]; rw [p1 _ hb]; simp only; rw [p2 _ hb]; exact ⟨rfl,rfl⟩) | (intro hb; rw [k1 _ hb]; exact ⟨rfl,rfl⟩) | (intro hb; rw [k2 _ hb]; exact ⟨rfl,rfl⟩)))
       refine wpQuiet_nil ?_
       refine wpPlan_act rfl ?_
       simp only [pickOps,List.drop_succ_cons,List.drop_zero,List.take_succ_cons,List.take_zero,List.cons_append,List.nil_append]
       go_wp2_with fail
       ((with_reducible refine (HSI.out _).mono ?_))
       rintro e w6 ⟨rfl,rfl⟩
       go_wp2_with fail
       refine ⟨fun _ => HG5.out,?_⟩
       refine wpPlan_reads ?_
       simp only [pickOps,List.drop_succ_cons,List.drop_zero,List.take_succ_cons,List.take_zero,List.cons_append,List.nil_append]
       repeat (go_big_quiet_step (first | (intro hb; rw [p0 _ hb]; simp only [Result.andThen]; rw [p1 _ hb]; simp only; rw [p2 _ hb]; exact ⟨rfl,rfl⟩) | (intro hb; rw [k1 _ hb]; exact ⟨rfl,rfl⟩) | (intro hb; rw [k2 _ hb]; exact ⟨rfl,rfl⟩)))
       refine wpQuiet_nil ?_
       refine wpPlan_act rfl ?_
       simp only [pickOps,List.drop_succ_cons,List.drop_zero,List.take_succ_cons,List.take_zero,List.cons_append,List.nil_append]
       go_wp2_with fail
       refine ⟨fun h => absurd h (by decide),wpPlan_nil ?_⟩
       go_wp2_with fail
       go_ret
       rw [HX2.out,HPE.out]
       exact ⟨rfl,bel_then HB2.out (Nat.le_of_eq HPE.out.symm) HG5.out⟩
      ·have hkk : ((k.toNat : Int) != 115) = true:=by
        have:=byte_int k 115
        rw [bne,show (115 : Int) = ((115 : UInt8).toNat : Int) from rfl,this,beq_eq_false_iff_ne.2 hk]
        rfl
       have HX2 : Hid (X = true):=Lib.hid (by rw [HX.out,bne_iff_ne.2 hk] <;> rfl)
       refine wp_region_plan (Grows _) 22 [.reads [0,1,2,3,4,5,6,7,9,10],.act 8,.reads [11,12,13,14,15,16,17,18],.act 19,.reads [20,21],.act 22] (by kernel_rfl) (by kernel_rfl) (by kernel_rfl) (by kernel_rfl) (by kernel_rfl) (fun _ _ d _ _ h => by cases d <;> exact h) (Grows.self _) ?_
       refine wpPlan_reads ?_
       simp only [pickOps,List.drop_succ_cons,List.drop_zero,List.take_succ_cons,List.take_zero,List.cons_append,List.nil_append]
       repeat (go_big_quiet_step (first | (intro hb; rw [p0 _ hb]; simp only [Result.andThen]; rw [p1 _ hb]; simp only; rw [p2 _ hb]; exact ⟨rfl,rfl⟩) | (intro hb; rw [k1 _ hb]; exact ⟨rfl,rfl⟩) | (intro hb; rw [k2 _ hb]; exact ⟨rfl,rfl⟩)))
       refine wpQuiet_nil ?_
       refine wpPlan_act rfl ?_
       simp only [pickOps,List.drop_succ_cons,List.drop_zero,List.take_succ_cons,List.take_zero,List.cons_append,List.nil_append]
       have HFP:=Lib.hid (fun (x : World) (h : Grows W x) => formatPath_any _ R U S x (PathV.mk (HST2.out.below h)) HSL.out.2)
       go_wp2_with fail
       ((with_reducible refine (HFP.out _ (Grows.self _)).mono ?_))
       rintro e w5 ⟨rfl,hb5⟩
       rw [HFF.out]
       have HG5:=Lib.hid ((Grows.self W).trans hb5)
       clear hb5 HFP
       go_wp2_with fail
       refine ⟨fun _ => HG5.out,?_⟩
       refine wpPlan_reads ?_
       simp only [pickOps,List.drop_succ_cons,List.drop_zero,List.take_succ_cons,List.take_zero,List.cons_append,List.nil_append]
       repeat (go_big_quiet_step (first | (intro hb; rw [p0 _ hb]; simp only [Result.andThen]; rw [p1 _ hb]; simp only; rw [p2 _ hb]; exact ⟨rfl,rfl⟩) | (intro hb; rw [k1 _ hb]; exact ⟨rfl,rfl⟩) | (intro hb; rw [k2 _ hb]; exact ⟨rfl,rfl⟩)))
       refine wpQuiet_nil ?_
       refine wpPlan_act rfl ?_
       simp only [pickOps,List.drop_succ_cons,List.drop_zero,List.take_succ_cons,List.take_zero,List.cons_append,List.nil_append]
       go_wp2_with fail
       refine ⟨fun _ => HG5.out,?_⟩
       refine wpPlan_reads ?_
       simp only [pickOps,List.drop_succ_cons,List.drop_zero,List.take_succ_cons,List.take_zero,List.cons_append,List.nil_append]
       repeat (go_big_quiet_step (first | (intro hb; rw [p0 _ hb]; simp only [Result.andThen]; rw [p1 _ hb]; simp only; rw [p2 _ hb]; exact ⟨rfl,rfl⟩) | (intro hb; rw [k1 _ hb]; exact ⟨rfl,rfl⟩) | (intro hb; rw [k2 _ hb]; exact ⟨rfl,rfl⟩)))
       refine wpQuiet_nil ?_
       refine wpPlan_act rfl ?_
       simp only [pickOps,List.drop_succ_cons,List.drop_zero,List.take_succ_cons,List.take_zero,List.cons_append,List.nil_append]
       go_wp2_with fail
       refine ⟨fun h => absurd h (by decide),wpPlan_nil ?_⟩
       go_wp2_with fail
       go_ret
       rw [HX2.out,HPE.out]
       exact ⟨rfl,bel_then HB2.out (Nat.le_of_eq HPE.out.symm) HG5.out⟩
set_option maxRecDepth 100000 in
set_option maxHeartbeats 8000000 in
/-- The fields of other nodes. -/
theorem rfields_other (op num : Int) (h3 : op ≠ 3) (h5 : op ≠ 5) (h0 : 0 ≤ num) (str : List UInt8) (pos : Int) (k : UInt8) (w : World) (hs : str.length ≤ 1048576) :
  Calls Tryz.prog 77 #[tokV op num str pos,.int .u8 k.toNat] w fun e w' => e = .returned (.bool (fieldsB ⟨op,num,str,pos⟩ k)) ∧ Below w.heap.size w w':=by
 obtain ⟨X,hX⟩ : ∃ X,Hid (fieldsB ⟨op,num,str,pos⟩ k = X):=⟨_,Lib.hid rfl⟩
 rw [hX.out]
 have hx:=hX.out
 unfold fieldsB at hx
 simp only [h3,h5,or_self,if_false] at hx
 rw [show (str == []) = str.isEmpty by cases str <;> rfl] at hx
 have HB0 : Hid (Below w.heap.size w (w.alloc (nObj op num str pos))):=Lib.hid ((Below.refl _ _).alloc (Nat.le_refl _) _)
 have HE0 : Hid ((w.alloc (nObj op num str pos)).heap[w.heap.size]? = some (nObj op num str pos)):=Lib.hid (heap_alloc_new _ _)
 obtain ⟨P,hP⟩ : ∃ P,w.heap.size = P:=⟨_,rfl⟩
 have HPE:=Lib.hid hP
 have e3 : (op == 3) = false:=beq_eq_false_iff_ne.2 h3
 have e5 : (op == 5) = false:=beq_eq_false_iff_ne.2 h5
 unfold tokV
 go_enter Tryz.func77,Tryz.ntmps77
 go_upto_region 1 with fail
 (try simp only [hP])
 rw [hP] at HB0 HE0
 generalize w.alloc (nObj op num str pos) = W0 at *
 clear hP
 obtain ⟨d0,d1,d2,d3⟩:=cells4 HE0.out
 have hsz : (str.length : Int) ≤ 1048576:=by omega
 obtain ⟨sb,hsb⟩ : ∃ z,str.isEmpty = z:=⟨_,rfl⟩
 obtain ⟨nb,hnb⟩ : ∃ z,(num == 0) = z:=⟨_,rfl⟩
 by_cases c1 : op = 1
 ·subst c1
  simp only [if_true,show ((1 : Int) = 2) = False by decide,if_false,Bool.true_and] at hx
  have HX:=Lib.hid hx
  clear hx h3 h5 hX hsb hnb
  go_wp2_with fail
  go_ret
  rw [← HX.out,HPE.out]
  exact ⟨rfl,HB0.out⟩
 have f1 : (op == 1) = false:=beq_eq_false_iff_ne.2 c1
 by_cases c2 : op = 2
 ·subst c2
  simp only [show ((2 : Int) = 1) = False by decide,show ((2 : Int) = 6) = False by decide,show ((2 : Int) = 7) = False by decide,if_true,if_false] at hx
  rw [hnb] at hx
  have HX:=Lib.hid hx
  clear hx h3 h5 hX hsb c1
  cases nb
  all_goals
   go_wp2_with fail
   go_ret
   rw [← HX.out,HPE.out]
   exact ⟨boolOf (by first | (simp; done) | (simp; omega)),HB0.out⟩
 have f2 : (op == 2) = false:=beq_eq_false_iff_ne.2 c2
 by_cases c6 : op = 6
 ·subst c6
  simp only [show ((6 : Int) = 1) = False by decide,show ((6 : Int) = 2) = False by decide,if_true,if_false] at hx
  rw [hsb] at hx
  have HX:=Lib.hid hx
  clear hx h3 h5 hX hnb c1 c2
  cases sb
  all_goals
   go_wp2_with fail
   go_ret
   rw [← HX.out,HPE.out]
   exact ⟨boolOf (by simp),HB0.out⟩
 have f6 : (op == 6) = false:=beq_eq_false_iff_ne.2 c6
 by_cases c7 : op = 7
 ·subst c7
  simp only [show ((7 : Int) = 1) = False by decide,show ((7 : Int) = 2) = False by decide,show ((7 : Int) = 6) = False by decide,if_true,if_false] at hx
  rw [hsb] at hx
  have HX:=Lib.hid hx
  clear hx h3 h5 hX hnb c1 c2 c6
  cases sb
  all_goals
   go_wp2_with fail
   go_ret
   rw [← HX.out,HPE.out]
   exact ⟨boolOf (by simp),HB0.out⟩
 have f7 : (op == 7) = false:=beq_eq_false_iff_ne.2 c7
 simp only [c1,c2,c6,c7,if_false] at hx
 rw [hnb,hsb] at hx
 have HX:=Lib.hid hx
 clear hx h3 h5 hX c1 c2 c6 c7
 cases nb
 all_goals
  go_wp2_with fail
  go_ret
  rw [← HX.out,HPE.out]
  exact ⟨boolOf (by first | (simp [hsb]; done) | (cases sb <;> simp [hsb])),HB0.out⟩
theorem rfields_any (n : Nd) (h0 : 0 ≤ n.num) (k : UInt8) (w : World) (hs : n.str.length ≤ 1048576) :
  Calls Tryz.prog 77 #[tokV n.kind n.num n.str n.pos,.int .u8 k.toNat] w fun e w' => e = .returned (.bool (fieldsB n k)) ∧ Below w.heap.size w w':=by
 obtain ⟨op,num,str,pos⟩:=n
 by_cases h : op = 3 ∨ op = 5
 ·have:=rfields_path op num h str pos k w hs
  rw [show fieldsB ⟨op,num,str,pos⟩ k = (num == 0 && nameB k str) by
   unfold fieldsB
   simp only [h,if_true]
   rw [if_neg (by omega),if_neg (by omega),if_neg (by omega)]]
  exact this
 ·exact rfields_other op num (by omega) (by omega) h0 str pos k w hs
theorem rfields_is (n : Nd) (h0 : 0 ≤ n.num) (k : UInt8) (b : Bool) (H : Hid (fieldsB n k = b)) (w : World) (hs : n.str.length ≤ 1048576) :
  Calls Tryz.prog 77 #[tokV n.kind n.num n.str n.pos,.int .u8 k.toNat] w fun e w' => e = .returned (.bool b) ∧ Below w.heap.size w w':=by
 have:=rfields_any n h0 k w hs
 rw [H.out] at this
 exact this
end
end Go.Proofs.YtnicnfchkdmieaaGreatDoor
