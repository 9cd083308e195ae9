/- Jf -/
import Derived.Test.YtnicnfchkdmieaaGreatDoorXbn
import Derived.Test.YtnicnfchkdmieaaGreatDoorXbo
import Derived.Test.YtnicnfchkdmieaaGreatDoorXba
set_option linter.unusedVariables false
set_option linter.unusedSimpArgs false
namespace Go.Proofs.YtnicnfchkdmieaaGreatDoor
open Go.RowKit
attribute [local go_sem] ByteArray.mk_append_mk bs_get bs_cut bs_end
def HasC (P off : Nat) (v : Value) (x : World) : Prop:=x.cell? ⟨P,off,none⟩ = some v
theorem FineW.ok {t : TokI} (h : FineW t) : OkT t:=⟨h.1,h.2.1.1,h.2.1.2⟩
theorem fine_int (n : Nat) (h : n ≤ 18446744073709551615) : FineW ⟨3,n,[],0⟩:=⟨by unfold validT; simp,⟨by show (0 : Int) ≤ (n : Int); omega,by show (n : Int) ≤ 18446744073709551615; omega⟩,.inl (by simp),by simp⟩
theorem fine_str (s : List UInt8) (h : s.length ≤ 255) : FineW ⟨4,0,s,0⟩:=⟨by unfold validT; simp; exact h,⟨by show (0 : Int) ≤ 0; omega,by show (0 : Int) ≤ 18446744073709551615; omega⟩,.inl (by show s.length ≤ 65536; omega),by show s.length ≤ _; omega⟩
set_option maxRecDepth 100000 in
set_option maxHeartbeats 32000000 in
theorem welem_step (B b : Nat) (v : Value) (p : List Nd) (m : Int) (d : Nat) (hp : p.length ≤ 1000000) (hps : ∀ t ∈ p,t.str.length ≤ 65536) (hnum : NumsOk p) (ih : OpW B b v p m d) : ElW B b v p m (d + 1):=by
 intro k i j lv s w hv hlv hlen hst
 have IH:=Lib.hid ih
 unfold OpW at IH
 obtain ⟨n,ks,hn,ha,hf,hk,hx⟩:=el_node hv
 obtain ⟨hip,hpe⟩:=List.getElem?_eq_some_iff.1 hn
 have hm : n ∈ p:=List.mem_of_getElem? hn
 have hts:=hps n hm
 have htn:=hnum n hm
 have hkl : ks.length ≤ 1000:=by
  have h1:=kids_len hk
  have hkv:=kidsK_kinds n (accB_inR ha)
  rw [hk] at hkv
  have hkind : kindsV n.kind n.pos = (ks,true):=by
   split at hkv
   ·next h => injection hkv with hkv; exact Prod.ext hkv.symm h
   ·cases hkv
  have:=kindsV_len n.kind n.pos
  rw [hkind] at this
  have h2 : ks.length ≤ 10:=this
  omega
 have cP:=hst.1.prog
 obtain ⟨a,cap,rfl,hcc⟩:=hst.2.1.1
 obtain ⟨g,off,rfl,hkk⟩:=hcc (by rintro rfl; simp at hip)
 obtain ⟨d0,d1,d2,d3⟩:=hkk i hip
 rw [hpe] at d0 d1 d2 d3
 have HXX : Hid (nextK (fun k j => vAny p d (blkB k) k j) ks (i + 1) = some j):=Lib.hid hx
 have HFM : Hid ((fmtA p (d + 1) false k i lv []).1 = (match leafT n with
   | some t => [([],t)]
   | none => if n.kind = 5 ∧ n.pos = 0 then [([],headT n),([32],poT),([],pcT)]
     else ([],headT n) :: (restE (fmtA p d) ks lv (i + 1)).1)):=Lib.hid (by
  rw [fmtA,hn]
  simp only []
  cases leafT n with
  | some t => rfl
  | none =>
    simp only []
    split
    ·rfl
    ·rw [hk]; rfl)
 have HLF : Hid (∀ t,leafT n = some t → j = i + 1):=Lib.hid (fun t ht => by
  obtain ⟨rfl,_⟩:=leaf_kids ht hk
  rw [nextK] at hx
  injection hx with hx
  exact hx.symm)
 have HSH:=Lib.hid (kids_shp hk).1
 have HRR:=Lib.hid (rest_rem (lv:=lv) (kids_shp hk).1 hx)
 have HFB:=Lib.hid hf
 have HK5 : Hid (n.kind = 5 → n.pos = (ks.length : Nat)):=Lib.hid (fun _ => (kids_len hk).symm)
 have HKD:=Lib.hid hk
 obtain ⟨RES,hRES⟩ : ∃ z,s ++ textP (fmtA p (d + 1) false k i lv []).1 = z:=⟨_,rfl⟩
 have HRL : Hid (RES.length ≤ 1000000000):=Lib.hid (by rw [← hRES,List.length_append]; exact hlen)
 rw [hRES]
 rw [HFM.out] at hRES
 have hip' : (i : Int) < (p.length : Int):=by omega
 obtain ⟨L,hL⟩ : ∃ L,p.length = L:=⟨_,rfl⟩
 have HS0:=Lib.hid hst
 rw [hL] at hip' hp IH HS0 cP ⊢
 obtain ⟨nk,nn,ns,np⟩:=n
 simp only at d0 d1 d2 d3 hts htn HK5 HLF
 obtain ⟨NN,hNN⟩:=Int.eq_ofNat_of_zero_le htn.1
 subst hNN
 have HAL : Below w.heap.size w (w.alloc (nObj nk NN ns np)):=(Below.refl _ _).alloc (Nat.le_refl _) _
 have HP1:=Lib.hid (HS0.out.below HAL)
 have HK1:=Lib.hid ((KpW.refl B b w).below HS0.out.1.2 HAL)
 have HX1:=Lib.hid (heap_alloc_new w (nObj nk NN ns np))
 have hnn : NN ≤ 18446744073709551615:=by omega
 have HNN:=Lib.hid hnn
 have HTS:=Lib.hid hts
 have HNE : Hid (w.heap.size ≠ b):=Lib.hid (by have:=HS0.out.1.lt; omega)
 obtain ⟨P,hP⟩ : ∃ P,w.heap.size = P:=⟨_,rfl⟩
 clear hcc hkk hst hlen hx hf hk hv ih hn hpe hm HAL ha hip hps hnum htn hts hnn
 go_enter Tryz.func44,Tryz.ntmps44
 go_upto_region 2 with fail
 generalize w.alloc (nObj nk NN ns np) = W at HP1 HK1 HX1 ⊢
 (try simp only [hP])
 rw [hP] at HX1 HNE
 clear hP d0 d1 d2 d3 cP HS0
 obtain ⟨e0,e1,e2,e3⟩:=cells4 HX1.out
 by_cases h1 : nk = 1
 ·subst h1
  have hji:=HLF.out _ rfl
  subst hji
  obtain ⟨F,hF⟩ : ∃ z,fmtT ⟨3,(NN : Int),[],0⟩ = z:=⟨_,rfl⟩
  have HRES : Hid (s ++ F = RES):=Lib.hid (by rw [← hRES,← hF]; show _ = s ++ textP [([],⟨3,(NN : Int),[],0⟩)]; rw [textP_cons,textP_nil,List.append_nil]; rfl)
  have HFL : Hid (F.length ≤ 100000):=Lib.hid (by rw [← hF]; exact Nat.le_trans (okT_len (fine_int NN HNN.out).ok (by simp)) (by decide))
  go_upto_region 5 with fail
  have hS_p : HasC P 1 (.int .u64 (NN : Int)) W.drew:=e1
  have hgs_p:=Grows.self W
  have k0_p : ∀ x,HasC P 1 (.int .u64 (NN : Int)) x → x.cell? ⟨P,1,none⟩ = some (.int .u64 (NN : Int)):=fun x h => h
  refine wp_region_plan (HasC P 1 (.int .u64 (NN : Int))) 9 [.reads [0,1,2,3,4,5],.act 6,.act 7,.act 8] (by kernel_rfl) (by kernel_rfl) (by kernel_rfl) (by kernel_rfl) (by kernel_rfl) (fun _ _ d _ _ h => by cases d <;> exact h) hS_p ?_
  refine wpPlan_reads ?_
  simp only [pickOps,List.drop_succ_cons,List.drop_zero,List.take_succ_cons,List.take_zero,List.cons_append,List.nil_append]
  repeat (go_big_quiet_step (first | (intro hb; rw [k0_p _ hb]; exact ⟨rfl,rfl⟩) | (intro _; rfl) | (intro _; exact ⟨rfl,rfl⟩)))
  refine wpQuiet_nil ?_
  clear hS_p k0_p e0 e1 e2 e3
  have HP_d:=Lib.hid (HP1.out.below hgs_p)
  have HK_d:=Lib.hid (HK1.out.below HP1.out.1.2 hgs_p)
  have HX_d:=Lib.hid (blk_below HX1.out hgs_p)
  clear HP1 HK1 HX1
  clear hgs_p
  generalize W.drew = wd at HP_d HK_d HX_d ⊢
  refine wpPlan_act rfl ?_
  simp only [pickOps,List.drop_succ_cons,List.drop_zero,List.take_succ_cons,List.take_zero,List.cons_append,List.nil_append]
  go_wp2_with fail
  have hgA_a : Below wd.heap.size wd (wd.alloc (tObj 3 (NN : Int) [] 0)):=(Below.refl _ _).alloc (Nat.le_refl _) _
  have HNA_a : Hid ((wd.alloc (tObj 3 (NN : Int) [] 0)).heap[wd.heap.size]? = some (tObj 3 (NN : Int) [] 0)):=Lib.hid (heap_alloc_new _ _)
  have HP_a:=Lib.hid (HP_d.out.below hgA_a)
  have HK_a:=Lib.hid (HK_d.out.below HP_d.out.1.2 hgA_a)
  have HX_a:=Lib.hid (blk_below HX_d.out hgA_a)
  clear HP_d HK_d HX_d
  have hSS:=(show HasC P 1 (.int .u64 (NN : Int)) _ from (cells4 HX_a.out).2.1)
  refine ⟨(by first | exact hSS | exact fun _ => hSS),?_⟩
  clear hSS
  clear hgA_a
  generalize wd.alloc (tObj 3 (NN : Int) [] 0) = wA_a at HNA_a HP_a HK_a HX_a ⊢
  refine wpPlan_act rfl ?_
  simp only [pickOps,List.drop_succ_cons,List.drop_zero,List.take_succ_cons,List.take_zero,List.cons_append,List.nil_append]
  have HF_b:=Lib.hid (tfmt_one 3 NN 0 [] wd.heap.size wA_a (fine_int NN HNN.out) (by rw [hF]; have h2:=HFL.out; omega) HNA_a.out HP_a.out.2.2.2.2.2.1)
  rw [hF] at HF_b
  go_wp2_with fail
  ((with_reducible refine HF_b.out.mono ?_))
  rintro e wB_b ⟨rfl,hbB_b⟩
  clear HF_b
  have HP_b:=Lib.hid (HP_a.out.below hbB_b)
  have HK_b:=Lib.hid (HK_a.out.below HP_a.out.1.2 hbB_b)
  have HX_b:=Lib.hid (blk_below HX_a.out hbB_b)
  clear HP_a HK_a HX_a
  clear hbB_b
  go_wp2_with fail
  have hSS:=(show HasC P 1 (.int .u64 (NN : Int)) _ from (cells4 HX_b.out).2.1)
  refine ⟨(by first | exact hSS | exact fun _ => hSS),?_⟩
  clear hSS
  refine wpPlan_act rfl ?_
  simp only [pickOps,List.drop_succ_cons,List.drop_zero,List.take_succ_cons,List.take_zero,List.cons_append,List.nil_append]
  have HC_c:=Lib.hid (jstr_any B b (.slice (some ⟨g,off,none⟩) L cap) s F wB_b HP_b.out.1 (by have h0:=HRL.out; have h1:=congrArg List.length HRES.out; simp only [List.length_append,List.length_cons,List.length_nil] at h0 h1 ⊢; omega))
  go_wp2_with fail
  ((with_reducible refine HC_c.out.mono ?_))
  rintro e w_c ⟨rfl,hq_c⟩
  clear HC_c
  have HX_c:=Lib.hid (hq_c.2.2.blk HX_b.out HNE.out (by decide))
  have HP_c:=Lib.hid (HP_b.out.post hq_c)
  have HK_c:=Lib.hid (HK_b.out.post hq_c)
  clear hq_c HP_b HK_b
  obtain ⟨s2,hs2⟩ : ∃ z,s ++ F = z:=⟨_,rfl⟩
  have Hs2:=Lib.hid hs2
  rw [hs2] at HP_c
  clear hs2
  clear HX_b
  go_wp2_with fail
  have hSS:=(show HasC P 1 (.int .u64 (NN : Int)) _ from (cells4 HX_c.out).2.1)
  refine ⟨(by first | exact hSS | exact fun _ => hSS),wpPlan_nil ?_⟩
  clear hSS
  go_wp2_with fail
  go_ret
  have hfin : s2 = RES:=by rw [← Hs2.out]; exact HRES.out
  rw [hfin] at HP_c
  exact ⟨rfl,HK_c.out.fin HP_c.out⟩
 have t1 : (nk == 1) = false:=beq_eq_false_iff_ne.2 h1
 by_cases h2 : nk = 2
 ·subst h2
  have hji:=HLF.out _ rfl
  subst hji
  have hs255 : ns.length ≤ 255:=by have h:=HFB.out; unfold fieldsB at h; simp at h; exact h.2
  obtain ⟨F,hF⟩ : ∃ z,fmtT ⟨4,0,ns,0⟩ = z:=⟨_,rfl⟩
  have HRES : Hid (s ++ F = RES):=Lib.hid (by rw [← hRES,← hF]; show _ = s ++ textP [([],⟨4,0,ns,0⟩)]; rw [textP_cons,textP_nil,List.append_nil]; rfl)
  have HFL : Hid (F.length ≤ 100000):=Lib.hid (by rw [← hF]; exact Nat.le_trans (okT_len (fine_str ns hs255).ok HTS.out) (by decide))
  go_upto_region 8 with fail
  have hS_p : HasC P 2 (.string ⟨ns.toArray⟩) W.drew:=e2
  have hgs_p:=Grows.self W
  have k0_p : ∀ x,HasC P 2 (.string ⟨ns.toArray⟩) x → x.cell? ⟨P,2,none⟩ = some (.string ⟨ns.toArray⟩):=fun x h => h
  refine wp_region_plan (HasC P 2 (.string ⟨ns.toArray⟩)) 9 [.reads [0,1,2,3,4,5],.act 6,.act 7,.act 8] (by kernel_rfl) (by kernel_rfl) (by kernel_rfl) (by kernel_rfl) (by kernel_rfl) (fun _ _ d _ _ h => by cases d <;> exact h) hS_p ?_
  refine wpPlan_reads ?_
  simp only [pickOps,List.drop_succ_cons,List.drop_zero,List.take_succ_cons,List.take_zero,List.cons_append,List.nil_append]
  repeat (go_big_quiet_step (first | (intro hb; rw [k0_p _ hb]; exact ⟨rfl,rfl⟩) | (intro _; rfl) | (intro _; exact ⟨rfl,rfl⟩)))
  refine wpQuiet_nil ?_
  clear hS_p k0_p e0 e1 e2 e3
  have HP_d:=Lib.hid (HP1.out.below hgs_p)
  have HK_d:=Lib.hid (HK1.out.below HP1.out.1.2 hgs_p)
  have HX_d:=Lib.hid (blk_below HX1.out hgs_p)
  clear HP1 HK1 HX1
  clear hgs_p
  generalize W.drew = wd at HP_d HK_d HX_d ⊢
  refine wpPlan_act rfl ?_
  simp only [pickOps,List.drop_succ_cons,List.drop_zero,List.take_succ_cons,List.take_zero,List.cons_append,List.nil_append]
  go_wp2_with fail
  have hgA_a : Below wd.heap.size wd (wd.alloc (tObj 4 0 ns 0)):=(Below.refl _ _).alloc (Nat.le_refl _) _
  have HNA_a : Hid ((wd.alloc (tObj 4 0 ns 0)).heap[wd.heap.size]? = some (tObj 4 0 ns 0)):=Lib.hid (heap_alloc_new _ _)
  have HP_a:=Lib.hid (HP_d.out.below hgA_a)
  have HK_a:=Lib.hid (HK_d.out.below HP_d.out.1.2 hgA_a)
  have HX_a:=Lib.hid (blk_below HX_d.out hgA_a)
  clear HP_d HK_d HX_d
  have hSS:=(show HasC P 2 (.string ⟨ns.toArray⟩) _ from (cells4 HX_a.out).2.2.1)
  refine ⟨(by first | exact hSS | exact fun _ => hSS),?_⟩
  clear hSS
  clear hgA_a
  generalize wd.alloc (tObj 4 0 ns 0) = wA_a at HNA_a HP_a HK_a HX_a ⊢
  refine wpPlan_act rfl ?_
  simp only [pickOps,List.drop_succ_cons,List.drop_zero,List.take_succ_cons,List.take_zero,List.cons_append,List.nil_append]
  have HF_b:=Lib.hid (tfmt_one 4 0 0 ns wd.heap.size wA_a (fine_str ns hs255) (by rw [hF]; have h2:=HFL.out; omega) HNA_a.out HP_a.out.2.2.2.2.2.1)
  rw [hF] at HF_b
  go_wp2_with fail
  ((with_reducible refine HF_b.out.mono ?_))
  rintro e wB_b ⟨rfl,hbB_b⟩
  clear HF_b
  have HP_b:=Lib.hid (HP_a.out.below hbB_b)
  have HK_b:=Lib.hid (HK_a.out.below HP_a.out.1.2 hbB_b)
  have HX_b:=Lib.hid (blk_below HX_a.out hbB_b)
  clear HP_a HK_a HX_a
  clear hbB_b
  go_wp2_with fail
  have hSS:=(show HasC P 2 (.string ⟨ns.toArray⟩) _ from (cells4 HX_b.out).2.2.1)
  refine ⟨(by first | exact hSS | exact fun _ => hSS),?_⟩
  clear hSS
  refine wpPlan_act rfl ?_
  simp only [pickOps,List.drop_succ_cons,List.drop_zero,List.take_succ_cons,List.take_zero,List.cons_append,List.nil_append]
  have HC_c:=Lib.hid (jstr_any B b (.slice (some ⟨g,off,none⟩) L cap) s F wB_b HP_b.out.1 (by have h0:=HRL.out; have h1:=congrArg List.length HRES.out; simp only [List.length_append,List.length_cons,List.length_nil] at h0 h1 ⊢; omega))
  go_wp2_with fail
  ((with_reducible refine HC_c.out.mono ?_))
  rintro e w_c ⟨rfl,hq_c⟩
  clear HC_c
  have HX_c:=Lib.hid (hq_c.2.2.blk HX_b.out HNE.out (by decide))
  have HP_c:=Lib.hid (HP_b.out.post hq_c)
  have HK_c:=Lib.hid (HK_b.out.post hq_c)
  clear hq_c HP_b HK_b
  obtain ⟨s2,hs2⟩ : ∃ z,s ++ F = z:=⟨_,rfl⟩
  have Hs2:=Lib.hid hs2
  rw [hs2] at HP_c
  clear hs2
  clear HX_b
  go_wp2_with fail
  have hSS:=(show HasC P 2 (.string ⟨ns.toArray⟩) _ from (cells4 HX_c.out).2.2.1)
  refine ⟨(by first | exact hSS | exact fun _ => hSS),wpPlan_nil ?_⟩
  clear hSS
  go_wp2_with fail
  go_ret
  have hfin : s2 = RES:=by rw [← Hs2.out]; exact HRES.out
  rw [hfin] at HP_c
  exact ⟨rfl,HK_c.out.fin HP_c.out⟩
 have t2 : (nk == 2) = false:=beq_eq_false_iff_ne.2 h2
 by_cases h3 : nk = 3
 ·subst h3
  have hji:=HLF.out _ rfl
  subst hji
  have HRES : Hid (s ++ ns = RES):=Lib.hid (by rw [← hRES]; show _ = s ++ textP [([],⟨1,0,ns,0⟩)]; rw [textP_cons,textP_nil,List.append_nil]; rfl)
  go_upto_region 11 with fail
  have hS_p : HasC P 2 (.string ⟨ns.toArray⟩) W.drew:=e2
  have hgs_p:=Grows.self W
  have k0_p : ∀ x,HasC P 2 (.string ⟨ns.toArray⟩) x → x.cell? ⟨P,2,none⟩ = some (.string ⟨ns.toArray⟩):=fun x h => h
  refine wp_region_plan (HasC P 2 (.string ⟨ns.toArray⟩)) 6 [.reads [0,1,2,3,4],.act 5] (by kernel_rfl) (by kernel_rfl) (by kernel_rfl) (by kernel_rfl) (by kernel_rfl) (fun _ _ d _ _ h => by cases d <;> exact h) hS_p ?_
  refine wpPlan_reads ?_
  simp only [pickOps,List.drop_succ_cons,List.drop_zero,List.take_succ_cons,List.take_zero,List.cons_append,List.nil_append]
  repeat (go_big_quiet_step (first | (intro hb; rw [k0_p _ hb]; exact ⟨rfl,rfl⟩) | (intro _; rfl) | (intro _; exact ⟨rfl,rfl⟩)))
  refine wpQuiet_nil ?_
  clear hS_p k0_p e0 e1 e2 e3
  have HP_d:=Lib.hid (HP1.out.below hgs_p)
  have HK_d:=Lib.hid (HK1.out.below HP1.out.1.2 hgs_p)
  have HX_d:=Lib.hid (blk_below HX1.out hgs_p)
  clear HP1 HK1 HX1
  clear hgs_p
  generalize W.drew = wd at HP_d HK_d HX_d ⊢
  refine wpPlan_act rfl ?_
  simp only [pickOps,List.drop_succ_cons,List.drop_zero,List.take_succ_cons,List.take_zero,List.cons_append,List.nil_append]
  have HC_c:=Lib.hid (jstr_any B b (.slice (some ⟨g,off,none⟩) L cap) s ns wd HP_d.out.1 (by have h0:=HRL.out; have h1:=congrArg List.length HRES.out; simp only [List.length_append,List.length_cons,List.length_nil] at h0 h1 ⊢; omega))
  go_wp2_with fail
  ((with_reducible refine HC_c.out.mono ?_))
  rintro e w_c ⟨rfl,hq_c⟩
  clear HC_c
  have HX_c:=Lib.hid (hq_c.2.2.blk HX_d.out HNE.out (by decide))
  have HP_c:=Lib.hid (HP_d.out.post hq_c)
  have HK_c:=Lib.hid (HK_d.out.post hq_c)
  clear hq_c HP_d HK_d
  obtain ⟨s2,hs2⟩ : ∃ z,s ++ ns = z:=⟨_,rfl⟩
  have Hs2:=Lib.hid hs2
  rw [hs2] at HP_c
  clear hs2
  clear HX_d
  go_wp2_with fail
  have hSS:=(show HasC P 2 (.string ⟨ns.toArray⟩) _ from (cells4 HX_c.out).2.2.1)
  refine ⟨(by first | exact hSS | exact fun _ => hSS),wpPlan_nil ?_⟩
  clear hSS
  go_wp2_with fail
  go_ret
  have hfin : s2 = RES:=by rw [← Hs2.out]; exact HRES.out
  rw [hfin] at HP_c
  exact ⟨rfl,HK_c.out.fin HP_c.out⟩
 have t3 : (nk == 3) = false:=beq_eq_false_iff_ne.2 h3
 by_cases h6 : nk = 6
 ·subst h6
  have hji:=HLF.out _ rfl
  subst hji
  have hN8 : NN < 8:=by have h:=HFB.out; unfold fieldsB at h; simp at h; omega
  obtain ⟨cu,hcu⟩ : ∃ z,UInt8.ofNat (48 + NN) = z:=⟨_,rfl⟩
  have HFU:=Lib.hid (fun w => fmt8_any NN hN8 cu (Lib.hid hcu) w)
  have HRES : Hid (s ++ [76,111,99,97,108,cu] = RES):=Lib.hid (by rw [← hRES,← hcu]; rfl)
  clear hcu
  go_upto_region 14 with fail
  have hS_p : HasC P 1 (.int .u64 (NN : Int)) W.drew:=e1
  have hgs_p:=Grows.self W
  have k0_p : ∀ x,HasC P 1 (.int .u64 (NN : Int)) x → x.cell? ⟨P,1,none⟩ = some (.int .u64 (NN : Int)):=fun x h => h
  refine wp_region_plan (HasC P 1 (.int .u64 (NN : Int))) 8 [.reads [0,1,2,3,4],.act 5,.reads [6],.act 7] (by kernel_rfl) (by kernel_rfl) (by kernel_rfl) (by kernel_rfl) (by kernel_rfl) (fun _ _ d _ _ h => by cases d <;> exact h) hS_p ?_
  refine wpPlan_reads ?_
  simp only [pickOps,List.drop_succ_cons,List.drop_zero,List.take_succ_cons,List.take_zero,List.cons_append,List.nil_append]
  repeat (go_big_quiet_step (first | (intro hb; rw [k0_p _ hb]; exact ⟨rfl,rfl⟩) | (intro _; rfl) | (intro _; exact ⟨rfl,rfl⟩)))
  refine wpQuiet_nil ?_
  clear hS_p k0_p e0 e1 e2 e3
  have HP_d:=Lib.hid (HP1.out.below hgs_p)
  have HK_d:=Lib.hid (HK1.out.below HP1.out.1.2 hgs_p)
  have HX_d:=Lib.hid (blk_below HX1.out hgs_p)
  clear HP1 HK1 HX1
  clear hgs_p
  generalize W.drew = wd at HP_d HK_d HX_d ⊢
  refine wpPlan_act rfl ?_
  simp only [pickOps,List.drop_succ_cons,List.drop_zero,List.take_succ_cons,List.take_zero,List.cons_append,List.nil_append]
  go_wp2_with fail
  ((with_reducible refine (HFU.out _).mono ?_))
  rintro e wv ⟨rfl,rfl⟩
  go_wp2_with fail
  have hSS:=(show HasC P 1 (.int .u64 (NN : Int)) _ from (cells4 HX_d.out).2.1)
  refine ⟨(by first | exact hSS | exact fun _ => hSS),?_⟩
  clear hSS
  refine wpPlan_reads ?_
  simp only [pickOps,List.drop_succ_cons,List.drop_zero,List.take_succ_cons,List.take_zero,List.cons_append,List.nil_append]
  repeat (go_big_quiet_step (first | (intro _; rfl) | (intro _; exact ⟨rfl,rfl⟩)))
  refine wpQuiet_nil ?_
  refine wpPlan_act rfl ?_
  simp only [pickOps,List.drop_succ_cons,List.drop_zero,List.take_succ_cons,List.take_zero,List.cons_append,List.nil_append]
  have HC_c:=Lib.hid (jstr_any B b (.slice (some ⟨g,off,none⟩) L cap) s [76,111,99,97,108,cu] wd HP_d.out.1 (by have h0:=HRL.out; have h1:=congrArg List.length HRES.out; simp only [List.length_append,List.length_cons,List.length_nil] at h0 h1 ⊢; omega))
  go_wp2_with fail
  ((with_reducible refine HC_c.out.mono ?_))
  rintro e w_c ⟨rfl,hq_c⟩
  clear HC_c
  have HX_c:=Lib.hid (hq_c.2.2.blk HX_d.out HNE.out (by decide))
  have HP_c:=Lib.hid (HP_d.out.post hq_c)
  have HK_c:=Lib.hid (HK_d.out.post hq_c)
  clear hq_c HP_d HK_d
  obtain ⟨s2,hs2⟩ : ∃ z,s ++ [76,111,99,97,108,cu] = z:=⟨_,rfl⟩
  have Hs2:=Lib.hid hs2
  rw [hs2] at HP_c
  clear hs2
  clear HX_d
  go_wp2_with fail
  have hSS:=(show HasC P 1 (.int .u64 (NN : Int)) _ from (cells4 HX_c.out).2.1)
  refine ⟨(by first | exact hSS | exact fun _ => hSS),wpPlan_nil ?_⟩
  clear hSS
  go_wp2_with fail
  go_ret
  have hfin : s2 = RES:=by rw [← Hs2.out]; exact HRES.out
  rw [hfin] at HP_c
  exact ⟨rfl,HK_c.out.fin HP_c.out⟩
 have t6 : (nk == 6) = false:=beq_eq_false_iff_ne.2 h6
 by_cases h7 : nk = 7
 ·subst h7
  have hji:=HLF.out _ rfl
  subst hji
  have hN8 : NN < 8:=by have h:=HFB.out; unfold fieldsB at h; simp at h; omega
  obtain ⟨cu,hcu⟩ : ∃ z,UInt8.ofNat (48 + NN) = z:=⟨_,rfl⟩
  have HFU:=Lib.hid (fun w => fmt8_any NN hN8 cu (Lib.hid hcu) w)
  have HRES : Hid (s ++ [65,114,103,cu] = RES):=Lib.hid (by rw [← hRES,← hcu]; rfl)
  clear hcu
  go_upto_region 17 with fail
  have hS_p : HasC P 1 (.int .u64 (NN : Int)) W.drew:=e1
  have hgs_p:=Grows.self W
  have k0_p : ∀ x,HasC P 1 (.int .u64 (NN : Int)) x → x.cell? ⟨P,1,none⟩ = some (.int .u64 (NN : Int)):=fun x h => h
  refine wp_region_plan (HasC P 1 (.int .u64 (NN : Int))) 8 [.reads [0,1,2,3,4],.act 5,.reads [6],.act 7] (by kernel_rfl) (by kernel_rfl) (by kernel_rfl) (by kernel_rfl) (by kernel_rfl) (fun _ _ d _ _ h => by cases d <;> exact h) hS_p ?_
  refine wpPlan_reads ?_
  simp only [pickOps,List.drop_succ_cons,List.drop_zero,List.take_succ_cons,List.take_zero,List.cons_append,List.nil_append]
  repeat (go_big_quiet_step (first | (intro hb; rw [k0_p _ hb]; exact ⟨rfl,rfl⟩) | (intro _; rfl) | (intro _; exact ⟨rfl,rfl⟩)))
  refine wpQuiet_nil ?_
  clear hS_p k0_p e0 e1 e2 e3
  have HP_d:=Lib.hid (HP1.out.below hgs_p)
  have HK_d:=Lib.hid (HK1.out.below HP1.out.1.2 hgs_p)
  have HX_d:=Lib.hid (blk_below HX1.out hgs_p)
  clear HP1 HK1 HX1
  clear hgs_p
  generalize W.drew = wd at HP_d HK_d HX_d ⊢
  refine wpPlan_act rfl ?_
  simp only [pickOps,List.drop_succ_cons,List.drop_zero,List.take_succ_cons,List.take_zero,List.cons_append,List.nil_append]
  go_wp2_with fail
  ((with_reducible refine (HFU.out _).mono ?_))
  rintro e wv ⟨rfl,rfl⟩
  go_wp2_with fail
  have hSS:=(show HasC P 1 (.int .u64 (NN : Int)) _ from (cells4 HX_d.out).2.1)
  refine ⟨(by first | exact hSS | exact fun _ => hSS),?_⟩
  clear hSS
  refine wpPlan_reads ?_
  simp only [pickOps,List.drop_succ_cons,List.drop_zero,List.take_succ_cons,List.take_zero,List.cons_append,List.nil_append]
  repeat (go_big_quiet_step (first | (intro _; rfl) | (intro _; exact ⟨rfl,rfl⟩)))
  refine wpQuiet_nil ?_
  refine wpPlan_act rfl ?_
  simp only [pickOps,List.drop_succ_cons,List.drop_zero,List.take_succ_cons,List.take_zero,List.cons_append,List.nil_append]
  have HC_c:=Lib.hid (jstr_any B b (.slice (some ⟨g,off,none⟩) L cap) s [65,114,103,cu] wd HP_d.out.1 (by have h0:=HRL.out; have h1:=congrArg List.length HRES.out; simp only [List.length_append,List.length_cons,List.length_nil] at h0 h1 ⊢; omega))
  go_wp2_with fail
  ((with_reducible refine HC_c.out.mono ?_))
  rintro e w_c ⟨rfl,hq_c⟩
  clear HC_c
  have HX_c:=Lib.hid (hq_c.2.2.blk HX_d.out HNE.out (by decide))
  have HP_c:=Lib.hid (HP_d.out.post hq_c)
  have HK_c:=Lib.hid (HK_d.out.post hq_c)
  clear hq_c HP_d HK_d
  obtain ⟨s2,hs2⟩ : ∃ z,s ++ [65,114,103,cu] = z:=⟨_,rfl⟩
  have Hs2:=Lib.hid hs2
  rw [hs2] at HP_c
  clear hs2
  clear HX_d
  go_wp2_with fail
  have hSS:=(show HasC P 1 (.int .u64 (NN : Int)) _ from (cells4 HX_c.out).2.1)
  refine ⟨(by first | exact hSS | exact fun _ => hSS),wpPlan_nil ?_⟩
  clear hSS
  go_wp2_with fail
  go_ret
  have hfin : s2 = RES:=by rw [← Hs2.out]; exact HRES.out
  rw [hfin] at HP_c
  exact ⟨rfl,HK_c.out.fin HP_c.out⟩
 have t7 : (nk == 7) = false:=beq_eq_false_iff_ne.2 h7
 have hlf : leafT ⟨nk,(NN : Int),ns,np⟩ = none:=by unfold leafT; rw [if_neg h1,if_neg h2,if_neg h3,if_neg h6,if_neg h7]
 by_cases h5 : nk = 5
 ·subst h5
  by_cases h0 : np = 0
  ·subst h0
   have hks0 : ks = []:=List.eq_nil_of_length_eq_zero (by have:=HK5.out rfl; omega)
   have HRES : Hid (s ++ (ns ++ [32,40,41]) = RES):=Lib.hid (by rw [← hRES,hlf]; rfl)
   have HREM : Hid (remT p d lv 0 ks (i + 1) = []):=Lib.hid (by rw [hks0,remT])
   clear hRES hlf h1 h2 h3 h6 h7 hks0
   go_upto_region 20 with fail
   have hS_p : HasC P 2 (.string ⟨ns.toArray⟩) W.drew:=e2
   have hgs_p:=Grows.self W
   have k0_p : ∀ x,HasC P 2 (.string ⟨ns.toArray⟩) x → x.cell? ⟨P,2,none⟩ = some (.string ⟨ns.toArray⟩):=fun x h => h
   refine wp_region_plan (HasC P 2 (.string ⟨ns.toArray⟩)) 6 [.reads [0,1,2,3,4],.act 5] (by kernel_rfl) (by kernel_rfl) (by kernel_rfl) (by kernel_rfl) (by kernel_rfl) (fun _ _ d _ _ h => by cases d <;> exact h) hS_p ?_
   refine wpPlan_reads ?_
   simp only [pickOps,List.drop_succ_cons,List.drop_zero,List.take_succ_cons,List.take_zero,List.cons_append,List.nil_append]
   repeat (go_big_quiet_step (first | (intro hb; rw [k0_p _ hb]; exact ⟨rfl,rfl⟩) | (intro _; rfl) | (intro _; exact ⟨rfl,rfl⟩)))
   refine wpQuiet_nil ?_
   clear hS_p k0_p e0 e1 e2 e3
   have HP_d:=Lib.hid (HP1.out.below hgs_p)
   have HK_d:=Lib.hid (HK1.out.below HP1.out.1.2 hgs_p)
   have HX_d:=Lib.hid (blk_below HX1.out hgs_p)
   clear HP1 HK1 HX1
   clear hgs_p
   generalize W.drew = wd at HP_d HK_d HX_d ⊢
   refine wpPlan_act rfl ?_
   simp only [pickOps,List.drop_succ_cons,List.drop_zero,List.take_succ_cons,List.take_zero,List.cons_append,List.nil_append]
   have HC_c:=Lib.hid (jstr_any B b (.slice (some ⟨g,off,none⟩) L cap) s ns wd HP_d.out.1 (by have h0:=HRL.out; have h1:=congrArg List.length HRES.out; simp only [List.length_append,List.length_cons,List.length_nil] at h0 h1 ⊢; omega))
   go_wp2_with fail
   ((with_reducible refine HC_c.out.mono ?_))
   rintro e w_c ⟨rfl,hq_c⟩
   clear HC_c
   have HX_c:=Lib.hid (hq_c.2.2.blk HX_d.out HNE.out (by decide))
   have HP_c:=Lib.hid (HP_d.out.post hq_c)
   have HK_c:=Lib.hid (HK_d.out.post hq_c)
   clear hq_c HP_d HK_d
   obtain ⟨s2,hs2⟩ : ∃ z,s ++ ns = z:=⟨_,rfl⟩
   have Hs2:=Lib.hid hs2
   rw [hs2] at HP_c
   clear hs2
   clear HX_d
   go_wp2_with fail
   have hSS:=(show HasC P 2 (.string ⟨ns.toArray⟩) _ from (cells4 HX_c.out).2.2.1)
   refine ⟨(by first | exact hSS | exact fun _ => hSS),wpPlan_nil ?_⟩
   clear hSS
   obtain ⟨e0,e1,e2,e3⟩:=cells4 HX_c.out
   have HC_d:=Lib.hid (jstr_any B b (.slice (some ⟨g,off,none⟩) L cap) s2 [32,40,41] w_c HP_c.out.1 (by have h0:=HRL.out; have h1:=congrArg List.length HRES.out; rw [← Hs2.out]; simp only [List.length_append,List.length_cons,List.length_nil] at h0 h1 ⊢; omega))
   go_wp2_with fail
   ((with_reducible refine HC_d.out.mono ?_))
   rintro e w_d ⟨rfl,hq_d⟩
   clear HC_d
   have HX_d:=Lib.hid (hq_d.2.2.blk HX_c.out HNE.out (by decide))
   have HP_d:=Lib.hid (HP_c.out.post hq_d)
   have HK_d:=Lib.hid (HK_c.out.post hq_d)
   clear hq_d HP_c HK_c
   obtain ⟨s3,hs3⟩ : ∃ z,s2 ++ [32,40,41] = z:=⟨_,rfl⟩
   have Hs3:=Lib.hid hs3
   rw [hs3] at HP_d
   clear hs3
   clear HX_c
   clear e0 e1 e2 e3
   obtain ⟨e0,e1,e2,e3⟩:=cells4 HX_d.out
   have HKA:=Lib.hid (kids_any 5 NN 0 ns w_d m HP_d.out.2.2.2.1)
   unfold KidsPost tokV at HKA
   go_wp2_with fail
   ((with_reducible refine HKA.out.mono ?_))
   rintro e wk ⟨kk,rfl,hkk,hbk⟩
   have hkk2:=hkk ks HKD.out
   subst hkk2
   clear hkk HKA e0 e1 e2 e3
   have HP_k:=Lib.hid (HP_d.out.below hbk)
   have HK_k:=Lib.hid (HK_d.out.below HP_d.out.1.2 hbk)
   have HX_k:=Lib.hid (blk_below HX_d.out hbk)
   clear HP_d HK_d HX_d
   clear hbk
   have HREQ : Hid (s3 ++ remT p d lv 0 kk (i + 1) = RES):=Lib.hid (by rw [HREM.out,List.append_nil,← Hs3.out,← Hs2.out,← HRES.out]; simp)
   have HOP:=Lib.hid (IH.out kk (i + 1) j lv s3 wk HSH.out hkl HXX.out (by omega) (by have h0:=HRL.out; have h1:=congrArg List.length HREQ.out; rw [List.length_append] at h1; omega) HP_k.out)
   rw [HREQ.out] at HOP
   rw [show ((i + 1 : Nat) : Int) = (i : Int) + 1 by omega] at HOP
   go_wp2_with fail
   ((with_reducible refine HOP.out.mono ?_))
   rintro e wz ⟨rfl,hqz⟩
   have HPz:=Lib.hid (HP_k.out.post hqz)
   have HKz:=Lib.hid (HK_k.out.post hqz)
   clear hqz HOP
   go_wp2_with fail
   go_ret
   exact ⟨rfl,HKz.out.fin HPz.out⟩
  ·have hp0 : (np == 0) = false:=beq_eq_false_iff_ne.2 h0
   have HRES : Hid (s ++ (ns ++ remT p d lv 0 ks (i + 1)) = RES):=Lib.hid (by
    rw [← hRES,hlf]
    simp only []
    rw [if_neg (fun h => h0 h.2),textP_cons,HRR.out]
    rfl)
   clear hRES hlf h1 h2 h3 h6 h7 h0
   go_upto_region 20 with fail
   have hS_p : HasC P 2 (.string ⟨ns.toArray⟩) W.drew:=e2
   have hgs_p:=Grows.self W
   have k0_p : ∀ x,HasC P 2 (.string ⟨ns.toArray⟩) x → x.cell? ⟨P,2,none⟩ = some (.string ⟨ns.toArray⟩):=fun x h => h
   refine wp_region_plan (HasC P 2 (.string ⟨ns.toArray⟩)) 6 [.reads [0,1,2,3,4],.act 5] (by kernel_rfl) (by kernel_rfl) (by kernel_rfl) (by kernel_rfl) (by kernel_rfl) (fun _ _ d _ _ h => by cases d <;> exact h) hS_p ?_
   refine wpPlan_reads ?_
   simp only [pickOps,List.drop_succ_cons,List.drop_zero,List.take_succ_cons,List.take_zero,List.cons_append,List.nil_append]
   repeat (go_big_quiet_step (first | (intro hb; rw [k0_p _ hb]; exact ⟨rfl,rfl⟩) | (intro _; rfl) | (intro _; exact ⟨rfl,rfl⟩)))
   refine wpQuiet_nil ?_
   clear hS_p k0_p e0 e1 e2 e3
   have HP_d:=Lib.hid (HP1.out.below hgs_p)
   have HK_d:=Lib.hid (HK1.out.below HP1.out.1.2 hgs_p)
   have HX_d:=Lib.hid (blk_below HX1.out hgs_p)
   clear HP1 HK1 HX1
   clear hgs_p
   generalize W.drew = wd at HP_d HK_d HX_d ⊢
   refine wpPlan_act rfl ?_
   simp only [pickOps,List.drop_succ_cons,List.drop_zero,List.take_succ_cons,List.take_zero,List.cons_append,List.nil_append]
   have HC_c:=Lib.hid (jstr_any B b (.slice (some ⟨g,off,none⟩) L cap) s ns wd HP_d.out.1 (by have h0:=HRL.out; have h1:=congrArg List.length HRES.out; simp only [List.length_append,List.length_cons,List.length_nil] at h0 h1 ⊢; omega))
   go_wp2_with fail
   ((with_reducible refine HC_c.out.mono ?_))
   rintro e w_c ⟨rfl,hq_c⟩
   clear HC_c
   have HX_c:=Lib.hid (hq_c.2.2.blk HX_d.out HNE.out (by decide))
   have HP_c:=Lib.hid (HP_d.out.post hq_c)
   have HK_c:=Lib.hid (HK_d.out.post hq_c)
   clear hq_c HP_d HK_d
   obtain ⟨s2,hs2⟩ : ∃ z,s ++ ns = z:=⟨_,rfl⟩
   have Hs2:=Lib.hid hs2
   rw [hs2] at HP_c
   clear hs2
   clear HX_d
   go_wp2_with fail
   have hSS:=(show HasC P 2 (.string ⟨ns.toArray⟩) _ from (cells4 HX_c.out).2.2.1)
   refine ⟨(by first | exact hSS | exact fun _ => hSS),wpPlan_nil ?_⟩
   clear hSS
   obtain ⟨e0,e1,e2,e3⟩:=cells4 HX_c.out
   have HKA:=Lib.hid (kids_any 5 NN np ns w_c m HP_c.out.2.2.2.1)
   unfold KidsPost tokV at HKA
   go_wp2_with fail
   ((with_reducible refine HKA.out.mono ?_))
   rintro e wk ⟨kk,rfl,hkk,hbk⟩
   have hkk2:=hkk ks HKD.out
   subst hkk2
   clear hkk HKA e0 e1 e2 e3
   have HP_k:=Lib.hid (HP_c.out.below hbk)
   have HK_k:=Lib.hid (HK_c.out.below HP_c.out.1.2 hbk)
   have HX_k:=Lib.hid (blk_below HX_c.out hbk)
   clear HP_c HK_c HX_c
   clear hbk
   have HREQ : Hid (s2 ++ remT p d lv 0 kk (i + 1) = RES):=Lib.hid (by rw [← Hs2.out,← HRES.out]; simp)
   have HOP:=Lib.hid (IH.out kk (i + 1) j lv s2 wk HSH.out hkl HXX.out (by omega) (by have h0:=HRL.out; have h1:=congrArg List.length HREQ.out; rw [List.length_append] at h1; omega) HP_k.out)
   rw [HREQ.out] at HOP
   rw [show ((i + 1 : Nat) : Int) = (i : Int) + 1 by omega] at HOP
   go_wp2_with fail
   ((with_reducible refine HOP.out.mono ?_))
   rintro e wz ⟨rfl,hqz⟩
   have HPz:=Lib.hid (HP_k.out.post hqz)
   have HKz:=Lib.hid (HK_k.out.post hqz)
   clear hqz HOP
   go_wp2_with fail
   go_ret
   exact ⟨rfl,HKz.out.fin HPz.out⟩
 ·have t5 : (nk == 5) = false:=beq_eq_false_iff_ne.2 h5
  obtain ⟨⟨fw,fk⟩,hfp⟩ : ∃ z,formP nk = z:=⟨_,rfl⟩
  have HFO:=Lib.hid (fun w h => form_is nk fw fk (Lib.hid hfp) w m h)
  have HRES : Hid (s ++ (fw ++ remT p d lv 0 ks (i + 1)) = RES):=Lib.hid (by
   rw [← hRES,hlf]
   simp only []
   rw [if_neg (fun h => h5 h.1),textP_cons,HRR.out]
   unfold headT
   rw [if_neg h5,hfp]
   rfl)
  clear hRES hlf h1 h2 h3 h6 h7 h5 hfp
  go_upto_region 3 with fail
  have hS_p : HasC P 0 (.int .i64 nk) W.drew:=e0
  have hgs_p:=Grows.self W
  have k0_p : ∀ x,HasC P 0 (.int .i64 nk) x → x.cell? ⟨P,0,none⟩ = some (.int .i64 nk):=fun x h => h
  refine wp_region_plan (HasC P 0 (.int .i64 nk)) 8 [.reads [0,1,2,3,4],.act 5,.reads [6],.act 7] (by kernel_rfl) (by kernel_rfl) (by kernel_rfl) (by kernel_rfl) (by kernel_rfl) (fun _ _ d _ _ h => by cases d <;> exact h) hS_p ?_
  refine wpPlan_reads ?_
  simp only [pickOps,List.drop_succ_cons,List.drop_zero,List.take_succ_cons,List.take_zero,List.cons_append,List.nil_append]
  repeat (go_big_quiet_step (first | (intro hb; rw [k0_p _ hb]; exact ⟨rfl,rfl⟩) | (intro _; rfl) | (intro _; exact ⟨rfl,rfl⟩)))
  refine wpQuiet_nil ?_
  clear hS_p k0_p e0 e1 e2 e3
  have HP_d:=Lib.hid (HP1.out.below hgs_p)
  have HK_d:=Lib.hid (HK1.out.below HP1.out.1.2 hgs_p)
  have HX_d:=Lib.hid (blk_below HX1.out hgs_p)
  clear HP1 HK1 HX1
  clear hgs_p
  generalize W.drew = wd at HP_d HK_d HX_d ⊢
  refine wpPlan_act rfl ?_
  simp only [pickOps,List.drop_succ_cons,List.drop_zero,List.take_succ_cons,List.take_zero,List.cons_append,List.nil_append]
  have HSYN:=Lib.hid HP_d.out.2.2.2.1
  go_wp2_with fail
  ((with_reducible refine (HFO.out _ HSYN.out).mono ?_))
  rintro e wf ⟨rfl,hbd⟩
  have HP_v:=Lib.hid (HP_d.out.below hbd)
  have HK_v:=Lib.hid (HK_d.out.below HP_d.out.1.2 hbd)
  have HX_v:=Lib.hid (blk_below HX_d.out hbd)
  clear HP_d HK_d HX_d
  clear hbd HSYN
  go_wp2_with fail
  have hSS:=(show HasC P 0 (.int .i64 nk) _ from (cells4 HX_v.out).1)
  refine ⟨(by first | exact hSS | exact fun _ => hSS),?_⟩
  clear hSS
  refine wpPlan_reads ?_
  simp only [pickOps,List.drop_succ_cons,List.drop_zero,List.take_succ_cons,List.take_zero,List.cons_append,List.nil_append]
  repeat (go_big_quiet_step (first | (intro _; rfl) | (intro _; exact ⟨rfl,rfl⟩)))
  refine wpQuiet_nil ?_
  refine wpPlan_act rfl ?_
  simp only [pickOps,List.drop_succ_cons,List.drop_zero,List.take_succ_cons,List.take_zero,List.cons_append,List.nil_append]
  have HC_c:=Lib.hid (jstr_any B b (.slice (some ⟨g,off,none⟩) L cap) s fw wf HP_v.out.1 (by have h0:=HRL.out; have h1:=congrArg List.length HRES.out; simp only [List.length_append,List.length_cons,List.length_nil] at h0 h1 ⊢; omega))
  go_wp2_with fail
  ((with_reducible refine HC_c.out.mono ?_))
  rintro e w_c ⟨rfl,hq_c⟩
  clear HC_c
  have HX_c:=Lib.hid (hq_c.2.2.blk HX_v.out HNE.out (by decide))
  have HP_c:=Lib.hid (HP_v.out.post hq_c)
  have HK_c:=Lib.hid (HK_v.out.post hq_c)
  clear hq_c HP_v HK_v
  obtain ⟨s2,hs2⟩ : ∃ z,s ++ fw = z:=⟨_,rfl⟩
  have Hs2:=Lib.hid hs2
  rw [hs2] at HP_c
  clear hs2
  clear HX_v
  go_wp2_with fail
  have hSS:=(show HasC P 0 (.int .i64 nk) _ from (cells4 HX_c.out).1)
  refine ⟨(by first | exact hSS | exact fun _ => hSS),wpPlan_nil ?_⟩
  clear hSS
  obtain ⟨e0,e1,e2,e3⟩:=cells4 HX_c.out
  have HKA:=Lib.hid (kids_any nk NN np ns w_c m HP_c.out.2.2.2.1)
  unfold KidsPost tokV at HKA
  go_wp2_with fail
  ((with_reducible refine HKA.out.mono ?_))
  rintro e wk ⟨kk,rfl,hkk,hbk⟩
  have hkk2:=hkk ks HKD.out
  subst hkk2
  clear hkk HKA e0 e1 e2 e3
  have HP_k:=Lib.hid (HP_c.out.below hbk)
  have HK_k:=Lib.hid (HK_c.out.below HP_c.out.1.2 hbk)
  have HX_k:=Lib.hid (blk_below HX_c.out hbk)
  clear HP_c HK_c HX_c
  clear hbk
  have HREQ : Hid (s2 ++ remT p d lv 0 kk (i + 1) = RES):=Lib.hid (by rw [← Hs2.out,← HRES.out]; simp)
  have HOP:=Lib.hid (IH.out kk (i + 1) j lv s2 wk HSH.out hkl HXX.out (by omega) (by have h0:=HRL.out; have h1:=congrArg List.length HREQ.out; rw [List.length_append] at h1; omega) HP_k.out)
  rw [HREQ.out] at HOP
  rw [show ((i + 1 : Nat) : Int) = (i : Int) + 1 by omega] at HOP
  go_wp2_with fail
  ((with_reducible refine HOP.out.mono ?_))
  rintro e wz ⟨rfl,hqz⟩
  have HPz:=Lib.hid (HP_k.out.post hqz)
  have HKz:=Lib.hid (HK_k.out.post hqz)
  clear hqz HOP
  go_wp2_with fail
  go_ret
  exact ⟨rfl,HKz.out.fin HPz.out⟩
end Go.Proofs.YtnicnfchkdmieaaGreatDoor
