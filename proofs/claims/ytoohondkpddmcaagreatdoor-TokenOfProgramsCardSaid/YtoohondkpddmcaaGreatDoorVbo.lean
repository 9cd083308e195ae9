/- Gc -/
import Derived.Test.YtoohondkpddmcaaGreatDoorVbn
set_option linter.unusedVariables false
set_option linter.unusedSimpArgs false
namespace Go.Proofs.YtoohondkpddmcaaGreatDoor
open Go.RowKit
attribute [local go_sem] ByteArray.mk_append_mk bs_get bs_cut bs_end
theorem args_text {p : List Nd} {d lv : Nat} {k : UInt8} {ks : List UInt8} {first : Bool} {i q : Nat} (hb : blkB k = false) (hx : vAny p d false k i = some q) :
  textP (argsE (fmtA p d) lv (k :: ks) first i).1 = (if first = true then [] else [44,32]) ++ (textP (fmtA p d false k i lv []).1 ++ textP (argsE (fmtA p d) lv ks false q).1) ∧ (argsE (fmtA p d) lv (k :: ks) first i).2 = (argsE (fmtA p d) lv ks false q).2:=by
 rw [argsE,if_neg (by rw [hb]; decide)]
 simp only [fmt_next p d false k i q _ _ hx]
 refine ⟨?_,trivial⟩
 rw [textP_app,textP_app,fmt_text p _ _ hx]
 cases first with
 | true => rfl
 | false => simp [textP_cons,textP_nil,cmT,fmtT,punC]
theorem args_fin {p : List Nd} {d lv : Nat} {ks : List UInt8} {first : Bool} {i : Nat} (h : ks = [] ∨ ∃ k r,ks = k :: r ∧ blkB k = true) :
  argsE (fmtA p d) lv ks first i = ([([],pcT)],i) ∧ (ks.dropWhile fun k => !blkB k) = ks:=by
 rcases h with rfl | ⟨k,r,rfl,hb⟩
 ·exact ⟨by rw [argsE],rfl⟩
 ·exact ⟨by rw [argsE,if_pos hb],by rw [List.dropWhile_cons,if_neg (by rw [hb]; decide)]⟩
theorem blks_text {p : List Nd} {d lv : Nat} {k : UInt8} {ks : List UInt8} {first : Bool} {i q : Nat} (hx : vAny p d true k i = some q) :
  textP (blksE (fmtA p d) lv (k :: ks) first i).1 = (if first = true then [] else [32,69,108,115,101]) ++ (textP (fmtA p d true k i lv [32]).1 ++ textP (blksE (fmtA p d) lv ks false q).1):=by
 rw [blksE]
 simp only [fmt_next p d true k i q _ _ hx]
 rw [textP_app,textP_app]
 cases first with
 | true => rfl
 | false => simp [textP_cons,textP_nil,elT,fmtT]
theorem own_x {w : World} {C P : Nat} {o : Obj} (h : w.heap[P]? = some o) (hne : C < P) (u : Value) : ((w.setCell ⟨C,1,none⟩ u).drew).heap[P]? = some o:=blk_other h ⟨C,1,none⟩ u (by show P ≠ C; omega)
theorem hexU_sm8 : ∀ n : Fin 8,hexU n.val = [UInt8.ofNat (48 + n.val)]:=by decide +kernel
theorem no_ops {n : Nd} {k : UInt8} (ha : accB k n.kind = true) (hl : leafT n = none) (h5 : n.kind ≠ 5) (hk : kidsK n = some []) : n.kind = 34 ∨ n.kind = 35 ∨ (n.kind = 33 ∧ n.pos = 0):=by
 have hc : ∀ op ∈ allOps,op = 1 ∨ op = 2 ∨ op = 3 ∨ op = 5 ∨ op = 6 ∨ op = 7 ∨ op = 33 ∨ op = 34 ∨ op = 35 ∨ (formP op).2 ≠ []:=by decide +kernel
 have h:=hc _ (acc_ops ha)
 have hne : ¬ (n.kind = 1 ∨ n.kind = 2 ∨ n.kind = 3 ∨ n.kind = 6 ∨ n.kind = 7):=by
  rintro h
  unfold leafT at hl
  rcases h with h | h | h | h | h <;> (rw [h] at hl; cases hl)
 obtain ⟨k1,k2⟩ : 0 ≤ n.pos ∧ n.pos.toNat = 0:=by
  unfold kidsK at hk
  split at hk
  ·split at hk
   ·injection hk with hk; have:=congrArg List.length hk; rw [List.length_replicate,List.length_nil] at this; omega
   ·cases hk
  split at hk
  ·split at hk
   ·injection hk with hk; have:=congrArg List.length hk; rw [List.length_replicate,List.length_nil] at this; omega
   ·cases hk
  split at hk
  ·injection hk with hk; cases hk
  split at hk
  ·next h2 => injection hk with hk; rw [hk] at h2; simp at h2; omega
  ·cases hk
 by_cases h33 : n.kind = 33
 ·exact .inr (.inr ⟨h33,by omega⟩)
 ·unfold kidsK at hk
  rw [if_neg h5,if_neg h33] at hk
  split at hk
  ·injection hk with hk; cases hk
  split at hk
  ·injection hk with hk
   rcases h with h | h | h | h | h | h | h | h | h | h
   ·exact absurd (.inl h) hne
   ·exact absurd (.inr (.inl h)) hne
   ·exact absurd (.inr (.inr (.inl h))) hne
   ·exact absurd h h5
   ·exact absurd (.inr (.inr (.inr (.inl h)))) hne
   ·exact absurd (.inr (.inr (.inr (.inr h)))) hne
   ·exact absurd h h33
   ·exact .inl h
   ·exact .inr (.inl h)
   ·exact absurd hk h
  ·cases hk
theorem some_ops {n : Nd} {k : UInt8} {ks : List UInt8} (ha : accB k n.kind = true) (hk : kidsK n = some ks) (hks : ks ≠ []) : n.kind ≠ 34 ∧ n.kind ≠ 35 ∧ ¬ (n.kind = 33 ∧ n.pos = 0):=by
 refine ⟨fun h => ?_,fun h => ?_,fun h => ?_⟩
 ·unfold kidsK at hk
  rw [h] at hk
  simp only [show ((34 : Int) = 5) = False by decide,show ((34 : Int) = 33) = False by decide,show ((34 : Int) = 31) = False by decide,if_false,false_and] at hk
  split at hk
  ·injection hk with hk; exact hks hk.symm
  ·cases hk
 ·unfold kidsK at hk
  rw [h] at hk
  simp only [show ((35 : Int) = 5) = False by decide,show ((35 : Int) = 33) = False by decide,show ((35 : Int) = 31) = False by decide,if_false,false_and] at hk
  split at hk
  ·injection hk with hk; exact hks hk.symm
  ·cases hk
 ·unfold kidsK at hk
  rw [h.1,h.2] at hk
  simp only [show ((33 : Int) = 5) = False by decide,if_false,if_true] at hk
  rw [if_pos (by omega)] at hk
  injection hk with hk
  exact hks hk.symm
set_option maxRecDepth 100000 in
set_option maxHeartbeats 32000000 in
theorem rnode_step (C : Nat) (v : Value) (p : List Nd) (d : Nat) (hp : p.length ≤ 1000000) (hps : ∀ t ∈ p,t.str.length ≤ 65536) (hnum : NumsOk p) (ihE : ElR C v p d) (ihB : BlR C v p d) : ElR C v p (d + 1):=by
 intro k i j lv s w hv hlv hlen hst
 have IHE:=Lib.hid ihE
 have IHB:=Lib.hid ihB
 unfold ElR at IHE
 unfold BlR at IHB
 obtain ⟨n,ks,hn,ha,hf,hk,hx⟩:=el_node hv
 obtain ⟨hip,hpe⟩:=List.getElem?_eq_some_iff.1 hn
 have hm : n ∈ p:=List.mem_of_getElem? hn
 have hts:=hps n hm
 have htn:=hnum n hm
 have hkv:=kidsK_kinds n (accB_inR ha)
 rw [hk] at hkv
 have hkind : kindsV n.kind n.pos = (ks,true):=by
  split at hkv
  ·next h => injection hkv with hkv; exact Prod.ext hkv.symm h
  ·cases hkv
 have HGOOD : Hid (∀ k ∈ ks,blkR k = blkB k ∧ k ≠ 120):=Lib.hid (by have:=kindsV_good (kids:=n.pos) (accB_inR ha); rw [hkind] at this; exact this)
 have hkl : ks.length ≤ 10:=by have:=kindsV_len n.kind n.pos; rw [hkind] at this; exact this
 obtain ⟨a,cap,rfl,hcc⟩:=hst.2.1.1
 obtain ⟨g,off,rfl,hkk⟩:=hcc (by rintro rfl; simp at hip)
 obtain ⟨d0,d1,d2,d3⟩:=hkk i hip
 rw [hpe] at d0 d1 d2 d3
 have HXX : Hid (nextK (fun k j => vAny p d (blkB k) k j) ks (i + 1) = some j):=Lib.hid hx
 have HFM : Hid ((fmtA p (d + 1) false k i lv []).1 = (match leafT n with
   | some t => [([],t)]
   | none => if n.kind = 5 ∧ n.pos = 0 then [([],headT n),([32],poT),([],pcT)]
     else ([],headT n) :: (restE (fmtA p d) ks lv (i + 1)).1)):=Lib.hid (by
  rw [fmtA,hn]
  simp only []
  cases leafT n with
  | some t => rfl
  | none =>
    simp only []
    split
    ·rfl
    ·rw [hk]; rfl)
 have HLF : Hid (∀ t,leafT n = some t → j = i + 1):=Lib.hid (fun t ht => by
  obtain ⟨rfl,_⟩:=leaf_kids ht hk
  rw [nextK] at hx
  injection hx with hx
  exact hx.symm)
 have HNO : Hid (leafT n = none → n.kind ≠ 5 → ks = [] → n.kind = 34 ∨ n.kind = 35 ∨ (n.kind = 33 ∧ n.pos = 0)):=Lib.hid (fun hl h5 hks => no_ops ha hl h5 (by rw [hk,hks]))
 have HSO : Hid (ks ≠ [] → n.kind ≠ 34 ∧ n.kind ≠ 35 ∧ ¬ (n.kind = 33 ∧ n.pos = 0)):=Lib.hid (fun hks => some_ops ha hk hks)
 have HSH:=Lib.hid (kids_shp hk).1
 have HOPS:=Lib.hid (acc_ops ha)
 have HFB:=Lib.hid hf
 have HKK : Hid (n.kind = 5 → n.pos = (ks.length : Nat) ∧ ks = List.replicate ks.length 101):=Lib.hid (fun h5 => by
  have h:=hk
  unfold kidsK at h
  rw [if_pos h5] at h
  split at h
  ·injection h with h; subst h; rw [List.length_replicate]; exact ⟨by omega,rfl⟩
  ·cases h)
 obtain ⟨RES,hRES⟩ : ∃ z,s ++ textP (fmtA p (d + 1) false k i lv []).1 = z:=⟨_,rfl⟩
 have HRL : Hid (RES.length ≤ 1000000000):=Lib.hid (by rw [← hRES,List.length_append]; exact hlen)
 rw [hRES]
 rw [HFM.out] at hRES
 have hip' : (i : Int) < (p.length : Int):=by omega
 obtain ⟨L,hL⟩ : ∃ L,p.length = L:=⟨_,rfl⟩
 have HS0:=Lib.hid hst
 rw [hL] at hip' hp IHE IHB HS0 ⊢
 obtain ⟨nk,nn,ns,np⟩:=n
 simp only at d0 d1 d2 d3 hts htn hkind HKK HNO HSO HOPS HLF
 obtain ⟨NN,hNN⟩:=Int.eq_ofNat_of_zero_le htn.1
 subst hNN
 have HAL : Below w.heap.size w (w.alloc (nObj nk NN ns np)):=(Below.refl _ _).alloc (Nat.le_refl _) _
 have HP1:=Lib.hid (HS0.out.below HAL)
 have HK1 : Hid (Keep C w (w.alloc (nObj nk NN ns np))):=Lib.hid (Keep.of HAL)
 have HXB:=Lib.hid (heap_alloc_new w (nObj nk NN ns np))
 obtain ⟨c0,c1⟩:=cells2 HS0.out.1
 have hnn : NN ≤ 18446744073709551615:=by omega
 have HNN:=Lib.hid hnn
 have HTS:=Lib.hid hts
 obtain ⟨P,hP⟩ : ∃ P,w.heap.size = P:=⟨_,rfl⟩
 have hCP : C < w.heap.size:=HS0.out.lt
 clear hcc hkk hst hlen hx hf hk hv ihE ihB hn hpe hm HAL hkv ha hip hps hnum htn hts hnn
 go_enter Tryz.func28,Tryz.ntmps28
 go_upto_region 2 with fail
 generalize w.alloc (nObj nk NN ns np) = W at HP1 HK1 HXB ⊢
 (try simp only [hP])
 rw [hP] at HXB hCP
 clear hP d0 d1 d2 d3 c0 c1 HS0
 obtain ⟨e0,e1,e2,e3⟩:=cells4 HXB.out
 have HKN:=Lib.hid (kinds_is nk np ks true (Lib.hid hkind) W)
 clear hkind
 go_wp2_with fail
 ((with_reducible refine HKN.out.mono ?_))
 rintro e W2 ⟨rfl,hb2⟩
 have HX2:=Lib.hid (blk_below HXB.out hb2)
 have HP2:=Lib.hid (HP1.out.below hb2)
 have HK2:=Lib.hid (HK1.out.trans (Keep.of hb2))
 clear hb2 HKN HP1 HK1 HXB e0 e1 e2 e3
 obtain ⟨e0,e1,e2,e3⟩:=cells4 HX2.out
 by_cases h1 : nk = 1
 ·subst h1
  obtain rfl:=HLF.out _ rfl
  have HCI:=Lib.hid (fun w => fmtI_any NN w HNN)
  have HRES : Hid (s ++ fmtI NN = RES):=Lib.hid (by rw [← hRES]; simp [leafT,textP_cons,textP_nil,fmtT])
  obtain ⟨c0_b,c1_b⟩:=cells2 HP2.out.1
  have f1_b:=free3 HP2.out.1 1
  have hl_b : s.length + (fmtI NN : List UInt8).length ≤ 1000000000:=by have h1:=HRL.out; have h2:=congrArg List.length HRES.out; simp only [List.length_append,List.length_cons,List.length_nil] at h1 h2 ⊢; omega
  (try simp only [List.length_cons,List.length_nil,List.length_append] at hl_b)
  go_upto_region 8 with fail
  have k0_b : ∀ x,Grows W2 x → x.cell? ⟨C,1,none⟩ = some (.string ⟨s.toArray⟩):=fun x hx => (hx.cell (p:=⟨C,1,none⟩) (World.block_lt_of_cell? W2 _ c1_b)).trans c1_b
  have k1_b : ∀ x,Grows W2 x → x.cell? ⟨P,1,none⟩ = some (.int .u64 (NN : Int)):=fun x hx => (hx.cell (p:=⟨P,1,none⟩) (World.block_lt_of_cell? W2 _ e1)).trans e1
  refine wp_region_plan (Grows W2) 10 [.reads [0,1,2,3,4,5],.act 6,.reads [7,8,9],.act 10] (by kernel_rfl) (by kernel_rfl) (by kernel_rfl) (by kernel_rfl) (by kernel_rfl) (fun _ _ d _ _ h => by cases d <;> exact h) (Grows.self _) ?_
  refine wpPlan_reads ?_
  simp only [pickOps,List.drop_succ_cons,List.drop_zero,List.take_succ_cons,List.take_zero,List.cons_append,List.nil_append]
  repeat (go_big_quiet_step (first | (intro hb; rw [k0_b _ hb]; exact ⟨rfl,rfl⟩) | (intro hb; rw [k1_b _ hb]; exact ⟨rfl,rfl⟩)))
  refine wpQuiet_nil ?_
  refine wpPlan_act rfl ?_
  simp only [pickOps,List.drop_succ_cons,List.drop_zero,List.take_succ_cons,List.take_zero,List.cons_append,List.nil_append]
  go_wp2_with fail
  ((with_reducible refine (HCI.out _).mono ?_))
  rintro e wq ⟨rfl,rfl⟩
  go_wp2_with fail
  refine ⟨fun h => (Grows.self _),?_⟩
  refine wpPlan_reads ?_
  simp only [pickOps,List.drop_succ_cons,List.drop_zero,List.take_succ_cons,List.take_zero,List.cons_append,List.nil_append]
  repeat (go_big_quiet_step (fail))
  refine wpQuiet_nil ?_
  refine wpPlan_act rfl ?_
  simp only [pickOps,List.drop_succ_cons,List.drop_zero,List.take_succ_cons,List.take_zero,List.cons_append,List.nil_append]
  go_wp2_with fail
  refine ⟨fun h => absurd h (by decide),wpPlan_nil ?_⟩
  clear k0_b k1_b
  have HP_b:=Lib.hid ((HP2.out.put (s ++ fmtI NN)).below (Grows.self _))
  have HK_b:=Lib.hid ((HK2.out.setC 1 (.string ⟨(s ++ fmtI NN).toArray⟩)).trans (Keep.of (Grows.self _)))
  generalize (W2.setCell ⟨C,1,none⟩ _).drew = w_b at HP_b HK_b ⊢
  clear c0_b c1_b f1_b hl_b
  obtain ⟨s2,hs2⟩ : ∃ z,s ++ fmtI NN = z:=⟨_,rfl⟩
  have Hs2:=Lib.hid hs2
  rw [hs2] at HP_b
  clear hs2
  go_wp2_with fail
  go_ret
  exact ⟨rfl,by rw [← HRES.out,Hs2.out]; exact HP_b.out,HK_b.out⟩
 by_cases h2 : nk = 2
 ·subst h2
  obtain rfl:=HLF.out _ rfl
  have HCI:=Lib.hid (fun w => quo_any ns w (by have:=HTS.out; omega))
  have HRES : Hid (s ++ quoL ns = RES):=Lib.hid (by rw [← hRES]; simp [leafT,textP_cons,textP_nil,fmtT])
  obtain ⟨c0_b,c1_b⟩:=cells2 HP2.out.1
  have f1_b:=free3 HP2.out.1 1
  have hl_b : s.length + (quoL ns : List UInt8).length ≤ 1000000000:=by have h1:=HRL.out; have h2:=congrArg List.length HRES.out; simp only [List.length_append,List.length_cons,List.length_nil] at h1 h2 ⊢; omega
  (try simp only [List.length_cons,List.length_nil,List.length_append] at hl_b)
  go_upto_region 11 with fail
  have k0_b : ∀ x,Grows W2 x → x.cell? ⟨C,1,none⟩ = some (.string ⟨s.toArray⟩):=fun x hx => (hx.cell (p:=⟨C,1,none⟩) (World.block_lt_of_cell? W2 _ c1_b)).trans c1_b
  have k1_b : ∀ x,Grows W2 x → x.cell? ⟨P,2,none⟩ = some (.string ⟨ns.toArray⟩):=fun x hx => (hx.cell (p:=⟨P,2,none⟩) (World.block_lt_of_cell? W2 _ e2)).trans e2
  refine wp_region_plan (Grows W2) 10 [.reads [0,1,2,3,4,5],.act 6,.reads [7,8,9],.act 10] (by kernel_rfl) (by kernel_rfl) (by kernel_rfl) (by kernel_rfl) (by kernel_rfl) (fun _ _ d _ _ h => by cases d <;> exact h) (Grows.self _) ?_
  refine wpPlan_reads ?_
  simp only [pickOps,List.drop_succ_cons,List.drop_zero,List.take_succ_cons,List.take_zero,List.cons_append,List.nil_append]
  repeat (go_big_quiet_step (first | (intro hb; rw [k0_b _ hb]; exact ⟨rfl,rfl⟩) | (intro hb; rw [k1_b _ hb]; exact ⟨rfl,rfl⟩)))
  refine wpQuiet_nil ?_
  refine wpPlan_act rfl ?_
  simp only [pickOps,List.drop_succ_cons,List.drop_zero,List.take_succ_cons,List.take_zero,List.cons_append,List.nil_append]
  go_wp2_with fail
  ((with_reducible refine (HCI.out _).mono ?_))
  rintro e wq ⟨rfl,rfl⟩
  go_wp2_with fail
  refine ⟨fun h => (Grows.self _),?_⟩
  refine wpPlan_reads ?_
  simp only [pickOps,List.drop_succ_cons,List.drop_zero,List.take_succ_cons,List.take_zero,List.cons_append,List.nil_append]
  repeat (go_big_quiet_step (fail))
  refine wpQuiet_nil ?_
  refine wpPlan_act rfl ?_
  simp only [pickOps,List.drop_succ_cons,List.drop_zero,List.take_succ_cons,List.take_zero,List.cons_append,List.nil_append]
  go_wp2_with fail
  refine ⟨fun h => absurd h (by decide),wpPlan_nil ?_⟩
  clear k0_b k1_b
  have HP_b:=Lib.hid ((HP2.out.put (s ++ quoL ns)).below (Grows.self _))
  have HK_b:=Lib.hid ((HK2.out.setC 1 (.string ⟨(s ++ quoL ns).toArray⟩)).trans (Keep.of (Grows.self _)))
  generalize (W2.setCell ⟨C,1,none⟩ _).drew = w_b at HP_b HK_b ⊢
  clear c0_b c1_b f1_b hl_b
  obtain ⟨s2,hs2⟩ : ∃ z,s ++ quoL ns = z:=⟨_,rfl⟩
  have Hs2:=Lib.hid hs2
  rw [hs2] at HP_b
  clear hs2
  go_wp2_with fail
  go_ret
  exact ⟨rfl,by rw [← HRES.out,Hs2.out]; exact HP_b.out,HK_b.out⟩
 by_cases h3 : nk = 3
 ·subst h3
  obtain rfl:=HLF.out _ rfl
  have HRES : Hid (s ++ ns = RES):=Lib.hid (by rw [← hRES]; simp [leafT,textP_cons,textP_nil,fmtT])
  obtain ⟨c0_b,c1_b⟩:=cells2 HP2.out.1
  have f1_b:=free3 HP2.out.1 1
  have hl_b : s.length + (ns : List UInt8).length ≤ 1000000000:=by have h1:=HRL.out; have h2:=congrArg List.length HRES.out; simp only [List.length_append,List.length_cons,List.length_nil] at h1 h2 ⊢; omega
  (try simp only [List.length_cons,List.length_nil,List.length_append] at hl_b)
  go_upto_region 14 with fail
  have k0_b : ∀ x,Grows W2 x → x.cell? ⟨C,1,none⟩ = some (.string ⟨s.toArray⟩):=fun x hx => (hx.cell (p:=⟨C,1,none⟩) (World.block_lt_of_cell? W2 _ c1_b)).trans c1_b
  have k1_b : ∀ x,Grows W2 x → x.cell? ⟨P,2,none⟩ = some (.string ⟨ns.toArray⟩):=fun x hx => (hx.cell (p:=⟨P,2,none⟩) (World.block_lt_of_cell? W2 _ e2)).trans e2
  refine wp_region_plan (Grows W2) 9 [.reads [0,1,2,3,4,5,6,7,8],.act 9] (by kernel_rfl) (by kernel_rfl) (by kernel_rfl) (by kernel_rfl) (by kernel_rfl) (fun _ _ d _ _ h => by cases d <;> exact h) (Grows.self _) ?_
  refine wpPlan_reads ?_
  simp only [pickOps,List.drop_succ_cons,List.drop_zero,List.take_succ_cons,List.take_zero,List.cons_append,List.nil_append]
  repeat (go_big_quiet_step (first | (intro hb; rw [k0_b _ hb]; exact ⟨rfl,rfl⟩) | (intro hb; rw [k1_b _ hb]; exact ⟨rfl,rfl⟩)))
  refine wpQuiet_nil ?_
  refine wpPlan_act rfl ?_
  simp only [pickOps,List.drop_succ_cons,List.drop_zero,List.take_succ_cons,List.take_zero,List.cons_append,List.nil_append]
  go_wp2_with fail
  refine ⟨fun h => absurd h (by decide),wpPlan_nil ?_⟩
  clear k0_b k1_b
  have HP_b:=Lib.hid ((HP2.out.put (s ++ ns)).below (Grows.self _))
  have HK_b:=Lib.hid ((HK2.out.setC 1 (.string ⟨(s ++ ns).toArray⟩)).trans (Keep.of (Grows.self _)))
  generalize (W2.setCell ⟨C,1,none⟩ _).drew = w_b at HP_b HK_b ⊢
  clear c0_b c1_b f1_b hl_b
  obtain ⟨s2,hs2⟩ : ∃ z,s ++ ns = z:=⟨_,rfl⟩
  have Hs2:=Lib.hid hs2
  rw [hs2] at HP_b
  clear hs2
  go_wp2_with fail
  go_ret
  exact ⟨rfl,by rw [← HRES.out,Hs2.out]; exact HP_b.out,HK_b.out⟩
 by_cases h6 : nk = 6
 ·subst h6
  obtain rfl:=HLF.out _ rfl
  have hN8 : NN < 8:=by have:=HFB.out; unfold fieldsB at this; simp at this; omega
  have HCI:=Lib.hid (fun w => hexU_any NN w HNN)
  have HHX : Hid (hexU NN = [UInt8.ofNat (48 + NN)]):=Lib.hid (hexU_sm8 ⟨NN,hN8⟩)
  have HRES : Hid (s ++ (76 :: 111 :: 99 :: 97 :: 108 :: hexU NN) = RES):=Lib.hid (by rw [← hRES]; simp [leafT,textP_cons,textP_nil,fmtT,HHX.out])
  obtain ⟨c0_b,c1_b⟩:=cells2 HP2.out.1
  have f1_b:=free3 HP2.out.1 1
  have hl_b : s.length + ((76 :: 111 :: 99 :: 97 :: 108 :: hexU NN) : List UInt8).length ≤ 1000000000:=by have h1:=HRL.out; have h2:=congrArg List.length HRES.out; simp only [List.length_append,List.length_cons,List.length_nil] at h1 h2 ⊢; omega
  (try simp only [List.length_cons,List.length_nil,List.length_append] at hl_b)
  go_upto_region 17 with fail
  have k0_b : ∀ x,Grows W2 x → x.cell? ⟨C,1,none⟩ = some (.string ⟨s.toArray⟩):=fun x hx => (hx.cell (p:=⟨C,1,none⟩) (World.block_lt_of_cell? W2 _ c1_b)).trans c1_b
  have k1_b : ∀ x,Grows W2 x → x.cell? ⟨P,1,none⟩ = some (.int .u64 (NN : Int)):=fun x hx => (hx.cell (p:=⟨P,1,none⟩) (World.block_lt_of_cell? W2 _ e1)).trans e1
  refine wp_region_plan (Grows W2) 11 [.reads [0,1,2,3,4,5],.act 6,.reads [7,8,9,10],.act 11] (by kernel_rfl) (by kernel_rfl) (by kernel_rfl) (by kernel_rfl) (by kernel_rfl) (fun _ _ d _ _ h => by cases d <;> exact h) (Grows.self _) ?_
  refine wpPlan_reads ?_
  simp only [pickOps,List.drop_succ_cons,List.drop_zero,List.take_succ_cons,List.take_zero,List.cons_append,List.nil_append]
  repeat (go_big_quiet_step (first | (intro hb; rw [k0_b _ hb]; exact ⟨rfl,rfl⟩) | (intro hb; rw [k1_b _ hb]; exact ⟨rfl,rfl⟩)))
  refine wpQuiet_nil ?_
  refine wpPlan_act rfl ?_
  simp only [pickOps,List.drop_succ_cons,List.drop_zero,List.take_succ_cons,List.take_zero,List.cons_append,List.nil_append]
  go_wp2_with fail
  ((with_reducible refine (HCI.out _).mono ?_))
  rintro e wq ⟨rfl,rfl⟩
  go_wp2_with fail
  refine ⟨fun h => (Grows.self _),?_⟩
  refine wpPlan_reads ?_
  simp only [pickOps,List.drop_succ_cons,List.drop_zero,List.take_succ_cons,List.take_zero,List.cons_append,List.nil_append]
  repeat (go_big_quiet_step (fail))
  refine wpQuiet_nil ?_
  refine wpPlan_act rfl ?_
  simp only [pickOps,List.drop_succ_cons,List.drop_zero,List.take_succ_cons,List.take_zero,List.cons_append,List.nil_append]
  go_wp2_with fail
  refine ⟨fun h => absurd h (by decide),wpPlan_nil ?_⟩
  clear k0_b k1_b
  have HP_b:=Lib.hid ((HP2.out.put (s ++ (76 :: 111 :: 99 :: 97 :: 108 :: hexU NN))).below (Grows.self _))
  have HK_b:=Lib.hid ((HK2.out.setC 1 (.string ⟨(s ++ (76 :: 111 :: 99 :: 97 :: 108 :: hexU NN)).toArray⟩)).trans (Keep.of (Grows.self _)))
  generalize (W2.setCell ⟨C,1,none⟩ _).drew = w_b at HP_b HK_b ⊢
  clear c0_b c1_b f1_b hl_b
  obtain ⟨s2,hs2⟩ : ∃ z,s ++ (76 :: 111 :: 99 :: 97 :: 108 :: hexU NN) = z:=⟨_,rfl⟩
  have Hs2:=Lib.hid hs2
  rw [hs2] at HP_b
  clear hs2
  go_wp2_with fail
  go_ret
  exact ⟨rfl,by rw [← HRES.out,Hs2.out]; exact HP_b.out,HK_b.out⟩
 by_cases h7 : nk = 7
 ·subst h7
  obtain rfl:=HLF.out _ rfl
  have hN8 : NN < 8:=by have:=HFB.out; unfold fieldsB at this; simp at this; omega
  have HCI:=Lib.hid (fun w => hexU_any NN w HNN)
  have HHX : Hid (hexU NN = [UInt8.ofNat (48 + NN)]):=Lib.hid (hexU_sm8 ⟨NN,hN8⟩)
  have HRES : Hid (s ++ (65 :: 114 :: 103 :: hexU NN) = RES):=Lib.hid (by rw [← hRES]; simp [leafT,textP_cons,textP_nil,fmtT,HHX.out])
  obtain ⟨c0_b,c1_b⟩:=cells2 HP2.out.1
  have f1_b:=free3 HP2.out.1 1
  have hl_b : s.length + ((65 :: 114 :: 103 :: hexU NN) : List UInt8).length ≤ 1000000000:=by have h1:=HRL.out; have h2:=congrArg List.length HRES.out; simp only [List.length_append,List.length_cons,List.length_nil] at h1 h2 ⊢; omega
  (try simp only [List.length_cons,List.length_nil,List.length_append] at hl_b)
  go_upto_region 20 with fail
  have k0_b : ∀ x,Grows W2 x → x.cell? ⟨C,1,none⟩ = some (.string ⟨s.toArray⟩):=fun x hx => (hx.cell (p:=⟨C,1,none⟩) (World.block_lt_of_cell? W2 _ c1_b)).trans c1_b
  have k1_b : ∀ x,Grows W2 x → x.cell? ⟨P,1,none⟩ = some (.int .u64 (NN : Int)):=fun x hx => (hx.cell (p:=⟨P,1,none⟩) (World.block_lt_of_cell? W2 _ e1)).trans e1
  refine wp_region_plan (Grows W2) 11 [.reads [0,1,2,3,4,5],.act 6,.reads [7,8,9,10],.act 11] (by kernel_rfl) (by kernel_rfl) (by kernel_rfl) (by kernel_rfl) (by kernel_rfl) (fun _ _ d _ _ h => by cases d <;> exact h) (Grows.self _) ?_
  refine wpPlan_reads ?_
  simp only [pickOps,List.drop_succ_cons,List.drop_zero,List.take_succ_cons,List.take_zero,List.cons_append,List.nil_append]
  repeat (go_big_quiet_step (first | (intro hb; rw [k0_b _ hb]; exact ⟨rfl,rfl⟩) | (intro hb; rw [k1_b _ hb]; exact ⟨rfl,rfl⟩)))
  refine wpQuiet_nil ?_
  refine wpPlan_act rfl ?_
  simp only [pickOps,List.drop_succ_cons,List.drop_zero,List.take_succ_cons,List.take_zero,List.cons_append,List.nil_append]
  go_wp2_with fail
  ((with_reducible refine (HCI.out _).mono ?_))
  rintro e wq ⟨rfl,rfl⟩
  go_wp2_with fail
  refine ⟨fun h => (Grows.self _),?_⟩
  refine wpPlan_reads ?_
  simp only [pickOps,List.drop_succ_cons,List.drop_zero,List.take_succ_cons,List.take_zero,List.cons_append,List.nil_append]
  repeat (go_big_quiet_step (fail))
  refine wpQuiet_nil ?_
  refine wpPlan_act rfl ?_
  simp only [pickOps,List.drop_succ_cons,List.drop_zero,List.take_succ_cons,List.take_zero,List.cons_append,List.nil_append]
  go_wp2_with fail
  refine ⟨fun h => absurd h (by decide),wpPlan_nil ?_⟩
  clear k0_b k1_b
  have HP_b:=Lib.hid ((HP2.out.put (s ++ (65 :: 114 :: 103 :: hexU NN))).below (Grows.self _))
  have HK_b:=Lib.hid ((HK2.out.setC 1 (.string ⟨(s ++ (65 :: 114 :: 103 :: hexU NN)).toArray⟩)).trans (Keep.of (Grows.self _)))
  generalize (W2.setCell ⟨C,1,none⟩ _).drew = w_b at HP_b HK_b ⊢
  clear c0_b c1_b f1_b hl_b
  obtain ⟨s2,hs2⟩ : ∃ z,s ++ (65 :: 114 :: 103 :: hexU NN) = z:=⟨_,rfl⟩
  have Hs2:=Lib.hid hs2
  rw [hs2] at HP_b
  clear hs2
  go_wp2_with fail
  go_ret
  exact ⟨rfl,by rw [← HRES.out,Hs2.out]; exact HP_b.out,HK_b.out⟩
 have hlf : leafT ⟨nk,(NN : Int),ns,np⟩ = none:=by unfold leafT; simp [h1,h2,h3,h6,h7]
 rw [hlf] at hRES
 simp only [] at hRES
 obtain ⟨DB,hDB⟩ : ∃ z,(ks.dropWhile fun k => !blkB k) = z:=⟨_,rfl⟩
 obtain ⟨ARGS,hARGS⟩ : ∃ z,textP (argsE (fmtA p d) lv ks true (i + 1)).1 = z:=⟨_,rfl⟩
 obtain ⟨I,hI⟩ : ∃ z,(argsE (fmtA p d) lv ks true (i + 1)).2 = z:=⟨_,rfl⟩
 obtain ⟨BLK,hBLK⟩ : ∃ z,textP (blksE (fmtA p d) lv DB true I).1 = z:=⟨_,rfl⟩
 have HDB:=Lib.hid hDB
 have HARGS:=Lib.hid hARGS
 have HI:=Lib.hid hI
 have HBLK:=Lib.hid hBLK
 have HALL : Hid (DB.all blkB = true):=Lib.hid (by have h:=HSH.out; unfold shpB at h; rw [Bool.and_eq_true,hDB] at h; exact h.1)
 have HX:=HXX
 by_cases h5 : nk = 5
 ·subst h5
  have HRES : Hid (s ++ (ns ++ ([32] ++ ([40] ++ (ARGS ++ BLK)))) = RES):=Lib.hid (by
   rw [← hRES]
   have hkk:=HKK.out rfl
   by_cases hp0 : np = 0
   ·rw [if_pos ⟨rfl,hp0⟩]
    have hk0 : ks = []:=by
     apply List.eq_nil_of_length_eq_zero
     omega
    subst hk0
    have e1 : DB = []:=by rw [← hDB]; rfl
    subst e1
    rw [← hARGS,← hBLK,argsE,blksE]
    rfl
   ·rw [if_neg (fun h => hp0 h.2),textP_cons]
    unfold restE
    have hkn : ks ≠ []:=by rintro rfl; exact hp0 (by have:=hkk.1; simpa using this)
    rw [if_neg hkn]
    show s ++ _ = s ++ ([] ++ (fmtT (headT ⟨5,(NN : Int),ns,np⟩) ++ textP (([32],poT) :: ((argsE (fmtA p d) lv ks true (i + 1)).1 ++ (blksE (fmtA p d) lv (ks.dropWhile fun k => !blkB k) true (argsE (fmtA p d) lv ks true (i + 1)).2).1))))
    rw [textP_cons,textP_app,hDB,hI,hARGS,hBLK]
    rfl)
  clear hRES hDB hARGS hI hBLK h1 h2 h3 h6 h7 hlf
  obtain ⟨c0_b,c1_b⟩:=cells2 HP2.out.1
  have f1_b:=free3 HP2.out.1 1
  have hl_b : s.length + (ns : List UInt8).length ≤ 1000000000:=by have h1:=HRL.out; have h2:=congrArg List.length HRES.out; simp only [List.length_append,List.length_cons,List.length_nil] at h1 h2 ⊢; omega
  (try simp only [List.length_cons,List.length_nil,List.length_append] at hl_b)
  go_upto_region 23 with fail
  have k0_b : ∀ x,Grows W2 x → x.cell? ⟨C,1,none⟩ = some (.string ⟨s.toArray⟩):=fun x hx => (hx.cell (p:=⟨C,1,none⟩) (World.block_lt_of_cell? W2 _ c1_b)).trans c1_b
  have k1_b : ∀ x,Grows W2 x → x.cell? ⟨P,2,none⟩ = some (.string ⟨ns.toArray⟩):=fun x hx => (hx.cell (p:=⟨P,2,none⟩) (World.block_lt_of_cell? W2 _ e2)).trans e2
  refine wp_region_plan (Grows W2) 9 [.reads [0,1,2,3,4,5,6,7,8],.act 9] (by kernel_rfl) (by kernel_rfl) (by kernel_rfl) (by kernel_rfl) (by kernel_rfl) (fun _ _ d _ _ h => by cases d <;> exact h) (Grows.self _) ?_
  refine wpPlan_reads ?_
  simp only [pickOps,List.drop_succ_cons,List.drop_zero,List.take_succ_cons,List.take_zero,List.cons_append,List.nil_append]
  repeat (go_big_quiet_step (first | (intro hb; rw [k0_b _ hb]; exact ⟨rfl,rfl⟩) | (intro hb; rw [k1_b _ hb]; exact ⟨rfl,rfl⟩)))
  refine wpQuiet_nil ?_
  refine wpPlan_act rfl ?_
  simp only [pickOps,List.drop_succ_cons,List.drop_zero,List.take_succ_cons,List.take_zero,List.cons_append,List.nil_append]
  go_wp2_with fail
  refine ⟨fun h => absurd h (by decide),wpPlan_nil ?_⟩
  clear k0_b k1_b
  have HP_b:=Lib.hid ((HP2.out.put (s ++ ns)).below (Grows.self _))
  have HK_b:=Lib.hid ((HK2.out.setC 1 (.string ⟨(s ++ ns).toArray⟩)).trans (Keep.of (Grows.self _)))
  have HX5:=Lib.hid (own_x (C:=C) HX2.out (by omega) (.string ⟨(s ++ ns).toArray⟩))
  generalize (W2.setCell ⟨C,1,none⟩ _).drew = w_b at HP_b HK_b HX5 ⊢
  clear c0_b c1_b f1_b hl_b
  obtain ⟨sh0,hsh0⟩ : ∃ z,s ++ ns = z:=⟨_,rfl⟩
  have Hsh0:=Lib.hid hsh0
  rw [hsh0] at HP_b
  clear hsh0
  clear e0 e1 e2 e3
  obtain ⟨e0,e1,e2,e3⟩:=cells4 HX5.out
  have HRES : Hid (sh0 ++ ([32] ++ ([40] ++ (ARGS ++ BLK))) = RES):=Lib.hid (by rw [← HRES.out,← Hsh0.out]; simp)
  go_upto_region 26 with fail
  obtain ⟨c0_f,c1_f⟩:=cells2 HP_b.out.1
  have f1_f:=free3 HP_b.out.1 1
  have hl_f : sh0.length + ([32,40] : List UInt8).length ≤ 1000000000:=by have h1:=HRL.out; have h2:=congrArg List.length HRES.out; simp only [List.length_append,List.length_cons,List.length_nil] at h1 h2 ⊢; omega
  simp only [List.length_cons,List.length_nil] at hl_f
  go_upto_region 27 with fail
  have HP_f:=Lib.hid (HP_b.out.put (sh0 ++ [32,40]))
  have HK_f:=Lib.hid (HK_b.out.setC 1 (.string ⟨(sh0 ++ [32,40]).toArray⟩))
  generalize w_b.setCell ⟨C,1,none⟩ _ = w_f at HP_f HK_f ⊢
  clear c0_f c1_f f1_f hl_f
  obtain ⟨s4,hs4⟩ : ∃ z,sh0 ++ [32,40] = z:=⟨_,rfl⟩
  have Hs4:=Lib.hid hs4
  rw [hs4] at HP_f
  clear hs4
  obtain ⟨T1,hT1⟩ : ∃ z,s4 ++ ARGS = z:=⟨_,rfl⟩
  have HT1:=Lib.hid hT1
  have HT2 : Hid (T1 ++ BLK = RES):=Lib.hid (by rw [← hT1,← Hs4.out,← HRES.out]; simp)
  have HTL : Hid (T1.length ≤ 1000000000):=Lib.hid (by have h1:=HRL.out; have h2:=congrArg List.length HT2.out; rw [List.length_append] at h2; omega)
  clear hT1
  go_wp2_with fail
  go_loopw [1,12] (fun x y wr => ∃ (q ii : Nat) (st : List UInt8),x = .int .i64 ii ∧ y = .int .i64 q ∧ q ≤ ks.length ∧ Hid (nextK (fun k j => vAny p d (blkB k) k j) (ks.drop q) ii = some j) ∧ Hid (PrSt wr C (.slice (some ⟨g,off,none⟩) L cap) p st) ∧ Hid (st ++ textP (argsE (fmtA p d) lv (ks.drop q) (decide (q = 0)) ii).1 = T1 ∧ (argsE (fmtA p d) lv (ks.drop q) (decide (q = 0)) ii).2 = I ∧ ((ks.drop q).dropWhile fun k => !blkB k) = DB) ∧ Hid (Keep C w wr)) (fun _ y _ => ks.length - (intOf y).toNat)
  case atStart => exact ⟨0,i + 1,s4,by go_num,rfl,by omega,HX,HP_f,Lib.hid ⟨by rw [← HT1.out,← HARGS.out]; rfl,HI.out,HDB.out⟩,HK_f⟩
  case round =>
   clear HP_f HK_f HX
   obtain ⟨q,ii,st,rfl,rfl,hq,HX,HP,HEQ,HK⟩:=hrel
   obtain ⟨w3,rfl⟩ : ∃ y : World,y = wr:=⟨_,rfl⟩
   by_cases hgo : ∃ (kq : UInt8) (r : List UInt8),ks.drop q = kq :: r ∧ blkB kq = false
   ·obtain ⟨kq,r,hdr,hbq⟩:=hgo
    have hqK : q < ks.length:=by
     have:=congrArg List.length hdr
     rw [List.length_drop,List.length_cons] at this
     omega
    have hqK' : (q : Int) < (ks.length : Int):=by omega
    have hqk : ks[q]? = some kq:=by
     have:=congrArg (fun l => l[0]?) hdr
     simpa using this
    have hqk2 : ks[q]'hqK = kq:=by rw [List.getElem?_eq_getElem hqK] at hqk; injection hqk
    have HDR : Hid (ks.drop (q + 1) = r):=Lib.hid (by rw [← List.drop_drop,hdr]; rfl)
    have hx2:=HX.out
    rw [hdr,nextK] at hx2
    simp only [hbq] at hx2
    cases hvx : vAny p d false kq ii with
    | none => rw [hvx] at hx2; cases hx2
    | some j1 =>
      rw [hvx] at hx2
      have HNX : Hid (nextK (fun k j => vAny p d (blkB k) k j) r j1 = some j):=Lib.hid hx2
      have HV1:=Lib.hid hvx
      obtain ⟨RR,hRR⟩ : ∃ z,textP (argsE (fmtA p d) lv r false j1).1 = z:=⟨_,rfl⟩
      obtain ⟨E,hE⟩ : ∃ z,textP (fmtA p d false kq ii lv []).1 = z:=⟨_,rfl⟩
      obtain ⟨ha1,ha2⟩:=args_text (lv:=lv) (ks:=r) (first:=decide (q = 0)) hbq hvx
      have HI1 : Hid ((argsE (fmtA p d) lv r false j1).2 = I):=Lib.hid (by rw [← ha2,← hdr]; exact HEQ.out.2.1)
      have HD1 : Hid ((r.dropWhile fun k => !blkB k) = DB):=Lib.hid (by have h:=HEQ.out.2.2; rw [hdr,List.dropWhile_cons,if_pos (by rw [hbq]; decide)] at h; exact h)
      have HBK:=Lib.hid (fun w => rblk_is kq false (Lib.hid (by rw [(HGOOD.out kq (List.mem_of_getElem? hqk)).1,hbq])) w)
      have HEQ0:=HEQ.out.1
      rw [hdr,ha1,hE,hRR] at HEQ0
      clear hx2 hvx HX hqk ha1 ha2 HEQ
      by_cases hq0 : q = 0
      ·have hq00 : ¬ (0 : Int) < (q : Int):=by omega
       have HEQ1 : Hid (st ++ (E ++ RR) = T1):=Lib.hid (by rw [← HEQ0]; simp [hq0])
       clear HEQ0 hdr hq0
       go_wp2_with fail
       ((with_reducible refine (HBK.out _).mono ?_))
       rintro e w8 ⟨rfl,rfl⟩
       have HC:=Lib.hid (IHE.out kq ii j1 lv st w3 HV1.out (by omega) (by rw [hE]; have h1:=HTL.out; have h2:=congrArg List.length HEQ1.out; simp only [List.length_append,List.length_cons,List.length_nil] at h1 h2 ⊢; omega) HP.out)
       rw [hE] at HC
       go_wp2_with fail
       ((with_reducible refine HC.out.mono ?_))
       rintro e w6 ⟨rfl,hp6,hk6⟩
       have HP6:=Lib.hid hp6
       have HK6:=Lib.hid (HK.out.trans hk6)
       clear hp6 hk6 HC
       have HEQ2 : Hid ((st ++ E) ++ textP (argsE (fmtA p d) lv (ks.drop (q + 1)) (decide (q + 1 = 0)) j1).1 = T1 ∧ (argsE (fmtA p d) lv (ks.drop (q + 1)) (decide (q + 1 = 0)) j1).2 = I ∧ ((ks.drop (q + 1)).dropWhile fun k => !blkB k) = DB):=Lib.hid (by rw [show decide (q + 1 = 0) = false from decide_eq_false (by omega),HDR.out]; exact ⟨by rw [← HEQ1.out,hRR]; simp only [List.append_assoc,List.cons_append,List.nil_append],HI1.out,HD1.out⟩)
       have HX2 : Hid (nextK (fun k j => vAny p d (blkB k) k j) (ks.drop (q + 1)) j1 = some j):=Lib.hid (by rw [HDR.out]; exact HNX.out)
       go_wp2_with fail
       go_roundw
       case rel => first | exact ⟨q + 1,j1,st ++ E,rfl,by go_num,by omega,HX2,HP6,HEQ2,HK6⟩ | exact ⟨_,q + 1,j1,st ++ E,rfl,by go_num,by omega,HX2,HP6,HEQ2,HK6⟩
       case measure => simp [intOf]; omega
      ·have hq00 : (0 : Int) < (q : Int):=by omega
       have HEQ1 : Hid (st ++ ([44,32] ++ (E ++ RR)) = T1):=Lib.hid (by rw [← HEQ0]; simp [hq0])
       clear HEQ0 hdr hq0
       go_wp2_with fail
       ((with_reducible refine (HBK.out _).mono ?_))
       rintro e w8 ⟨rfl,rfl⟩
       obtain ⟨c0_g,c1_g⟩:=cells2 HP.out.1
       have f1_g:=free3 HP.out.1 1
       have hl_g : st.length + ([44,32] : List UInt8).length ≤ 1000000000:=by have h1:=HTL.out; have h2:=congrArg List.length HEQ1.out; simp only [List.length_append,List.length_cons,List.length_nil] at h1 h2 ⊢; omega
       simp only [List.length_cons,List.length_nil] at hl_g
       go_upto_region 32 with fail
       have HP_g:=Lib.hid (HP.out.put (st ++ [44,32]))
       have HK_g:=Lib.hid (HK.out.setC 1 (.string ⟨(st ++ [44,32]).toArray⟩))
       generalize w3.setCell ⟨C,1,none⟩ _ = w_g at HP_g HK_g ⊢
       clear c0_g c1_g f1_g hl_g
       obtain ⟨s5,hs5⟩ : ∃ z,st ++ [44,32] = z:=⟨_,rfl⟩
       have Hs5:=Lib.hid hs5
       rw [hs5] at HP_g
       clear hs5
       have HC:=Lib.hid (IHE.out kq ii j1 lv s5 w_g HV1.out (by omega) (by rw [hE]; have h1:=HTL.out; have h2:=congrArg List.length HEQ1.out; rw [← Hs5.out]; simp only [List.length_append,List.length_cons,List.length_nil] at h1 h2 ⊢; omega) HP_g.out)
       rw [hE] at HC
       go_wp2_with fail
       ((with_reducible refine HC.out.mono ?_))
       rintro e w6 ⟨rfl,hp6,hk6⟩
       have HP6:=Lib.hid hp6
       have HK6:=Lib.hid (HK_g.out.trans hk6)
       clear hp6 hk6 HC
       have HEQ2 : Hid ((s5 ++ E) ++ textP (argsE (fmtA p d) lv (ks.drop (q + 1)) (decide (q + 1 = 0)) j1).1 = T1 ∧ (argsE (fmtA p d) lv (ks.drop (q + 1)) (decide (q + 1 = 0)) j1).2 = I ∧ ((ks.drop (q + 1)).dropWhile fun k => !blkB k) = DB):=Lib.hid (by rw [show decide (q + 1 = 0) = false from decide_eq_false (by omega),HDR.out]; exact ⟨by rw [← HEQ1.out,hRR]; rw [← Hs5.out]; simp only [List.append_assoc,List.cons_append,List.nil_append],HI1.out,HD1.out⟩)
       have HX2 : Hid (nextK (fun k j => vAny p d (blkB k) k j) (ks.drop (q + 1)) j1 = some j):=Lib.hid (by rw [HDR.out]; exact HNX.out)
       go_wp2_with fail
       go_roundw
       case rel => first | exact ⟨q + 1,j1,s5 ++ E,rfl,by go_num,by omega,HX2,HP6,HEQ2,HK6⟩ | exact ⟨_,q + 1,j1,s5 ++ E,rfl,by go_num,by omega,HX2,HP6,HEQ2,HK6⟩
       case measure => simp [intOf]; omega
   ·have hst : ks.drop q = [] ∨ ∃ k r,ks.drop q = k :: r ∧ blkB k = true:=by
     cases hd : ks.drop q with
     | nil => exact .inl rfl
     | cons a b =>
       cases hb : blkB a with
       | true => exact .inr ⟨a,b,rfl,hb⟩
       | false => exact absurd ⟨a,b,hd,hb⟩ hgo
    obtain ⟨ha1,ha2⟩:=args_fin (p:=p) (d:=d) (lv:=lv) (first:=decide (q = 0)) (i:=ii) hst
    have HE1 : Hid (st ++ [41] = T1):=Lib.hid (by rw [← HEQ.out.1,ha1]; rfl)
    have hiI : ii = I:=by have:=HEQ.out.2.1; rw [ha1] at this; exact this
    have HDR : Hid (ks.drop q = DB):=Lib.hid (by rw [← HEQ.out.2.2,ha2])
    subst hiI
    clear ha1 ha2 HEQ hgo
    have hways : (q = ks.length) ∨ ∃ (kq : UInt8),q < ks.length ∧ ks[q]? = some kq ∧ blkB kq = true:=by
     rcases hst with h | ⟨a,b,h,hb⟩
     ·left; have:=congrArg List.length h; rw [List.length_drop,List.length_nil] at this; omega
     ·right; refine ⟨a,?_,?_,hb⟩
      ·have:=congrArg List.length h; rw [List.length_drop,List.length_cons] at this; omega
      ·have:=congrArg (fun l => l[0]?) h; simpa using this
    clear hst
    rcases hways with hqK | ⟨kq,hqK,hqk,hbq⟩
    ·have hqK' : ¬ (q : Int) < (ks.length : Int):=by omega
     have HQK:=Lib.hid hqK
     clear hqK
     go_upto_region 33 with fail
     obtain ⟨c0_h,c1_h⟩:=cells2 HP.out.1
     have f1_h:=free3 HP.out.1 1
     have hl_h : st.length + ([41] : List UInt8).length ≤ 1000000000:=by have h1:=HTL.out; have h2:=congrArg List.length HE1.out; simp only [List.length_append,List.length_cons,List.length_nil] at h1 h2 ⊢; omega
     simp only [List.length_cons,List.length_nil] at hl_h
     go_upto_region 34 with fail
     have HP_h:=Lib.hid (HP.out.put (st ++ [41]))
     have HK_h:=Lib.hid (HK.out.setC 1 (.string ⟨(st ++ [41]).toArray⟩))
     generalize w3.setCell ⟨C,1,none⟩ _ = w_h at HP_h HK_h ⊢
     clear c0_h c1_h f1_h hl_h
     obtain ⟨s6,hs6⟩ : ∃ z,st ++ [41] = z:=⟨_,rfl⟩
     have Hs6:=Lib.hid hs6
     rw [hs6] at HP_h
     clear hs6
     have HX3 : Hid (nextK (fun k j => vAny p d (blkB k) k j) (ks.drop q) ii = some j):=HX
     go_wp2_with fail
     go_loopw [1,12] (fun x y wr => ∃ (u jj : Nat) (st : List UInt8),x = .int .i64 jj ∧ y = .int .i64 u ∧ q ≤ u ∧ u ≤ ks.length ∧ Hid (nextK (fun k j => vAny p d (blkB k) k j) (ks.drop u) jj = some j) ∧ Hid (PrSt wr C (.slice (some ⟨g,off,none⟩) L cap) p st) ∧ Hid (st ++ textP (blksE (fmtA p d) lv (ks.drop u) (decide (u = q)) jj).1 = RES) ∧ Hid (Keep C w wr)) (fun _ y _ => ks.length - (intOf y).toNat)
     case atStart => exact ⟨q,ii,s6,rfl,rfl,by omega,by omega,HX3,HP_h,Lib.hid (by rw [← HT2.out,← HE1.out,HDR.out,← HBLK.out,Hs6.out,show decide (q = q) = true from decide_eq_true rfl]),HK_h⟩
     case round =>
      clear HP_h HK_h HX3 HX
      obtain ⟨u,jj,st7,rfl,rfl,hqu,huK,HX,HP,HEQ,HK⟩:=hrel
      obtain ⟨w9,rfl⟩ : ∃ y : World,y = wr:=⟨_,rfl⟩
      by_cases hlt : u < ks.length
      ·exfalso
       have:=HQK.out
       omega
      ·have hlt' : ¬ (u : Int) < (ks.length : Int):=by omega
       have huK2 : u = ks.length:=by omega
       have hdn : ks.drop u = []:=by apply List.drop_eq_nil_iff.2; omega
       have hjj : jj = j:=by have:=HX.out; rw [hdn,nextK] at this; injection this
       have hfin : st7 = RES:=by have:=HEQ.out; rw [hdn,blksE,textP_nil,List.append_nil] at this; exact this
       subst hjj
       clear hdn
       go_wp2_with fail
       go_ret
       exact ⟨rfl,by rw [← hfin]; exact HP.out,HK.out⟩
    ·have hqK' : (q : Int) < (ks.length : Int):=by omega
     have hqk2 : ks[q]'hqK = kq:=by rw [List.getElem?_eq_getElem hqK] at hqk; injection hqk
     have HBK:=Lib.hid (fun w => rblk_is kq true (Lib.hid (by rw [(HGOOD.out kq (List.mem_of_getElem? hqk)).1,hbq])) w)
     clear hqk
     go_wp2_with fail
     ((with_reducible refine (HBK.out _).mono ?_))
     rintro e w8 ⟨rfl,rfl⟩
     clear hqk2 hbq HBK hqK hqK'
     go_upto_region 33 with fail
     obtain ⟨c0_h,c1_h⟩:=cells2 HP.out.1
     have f1_h:=free3 HP.out.1 1
     have hl_h : st.length + ([41] : List UInt8).length ≤ 1000000000:=by have h1:=HTL.out; have h2:=congrArg List.length HE1.out; simp only [List.length_append,List.length_cons,List.length_nil] at h1 h2 ⊢; omega
     simp only [List.length_cons,List.length_nil] at hl_h
     go_upto_region 34 with fail
     have HP_h:=Lib.hid (HP.out.put (st ++ [41]))
     have HK_h:=Lib.hid (HK.out.setC 1 (.string ⟨(st ++ [41]).toArray⟩))
     generalize w3.setCell ⟨C,1,none⟩ _ = w_h at HP_h HK_h ⊢
     clear c0_h c1_h f1_h hl_h
     obtain ⟨s6,hs6⟩ : ∃ z,st ++ [41] = z:=⟨_,rfl⟩
     have Hs6:=Lib.hid hs6
     rw [hs6] at HP_h
     clear hs6
     have HX3 : Hid (nextK (fun k j => vAny p d (blkB k) k j) (ks.drop q) ii = some j):=HX
     go_wp2_with fail
     go_loopw [1,12] (fun x y wr => ∃ (u jj : Nat) (st : List UInt8),x = .int .i64 jj ∧ y = .int .i64 u ∧ q ≤ u ∧ u ≤ ks.length ∧ Hid (nextK (fun k j => vAny p d (blkB k) k j) (ks.drop u) jj = some j) ∧ Hid (PrSt wr C (.slice (some ⟨g,off,none⟩) L cap) p st) ∧ Hid (st ++ textP (blksE (fmtA p d) lv (ks.drop u) (decide (u = q)) jj).1 = RES) ∧ Hid (Keep C w wr)) (fun _ y _ => ks.length - (intOf y).toNat)
     case atStart => exact ⟨q,ii,s6,rfl,rfl,by omega,by omega,HX3,HP_h,Lib.hid (by rw [← HT2.out,← HE1.out,HDR.out,← HBLK.out,Hs6.out,show decide (q = q) = true from decide_eq_true rfl]),HK_h⟩
     case round =>
      clear HP_h HK_h HX3 HX
      obtain ⟨u,jj,st7,rfl,rfl,hqu,huK,HX,HP,HEQ,HK⟩:=hrel
      obtain ⟨w9,rfl⟩ : ∃ y : World,y = wr:=⟨_,rfl⟩
      by_cases hlt : u < ks.length
      ·have hlt' : (u : Int) < (ks.length : Int):=by omega
       obtain ⟨ku,hku⟩ : ∃ z,ks[u]'hlt = z:=⟨_,rfl⟩
       have hdu : ks.drop u = ku :: ks.drop (u + 1):=by rw [List.drop_eq_getElem_cons hlt,hku]
       have hbu : blkB ku = true:=by
        have h:=HALL.out
        rw [← HDR.out] at h
        refine List.all_eq_true.1 h ku ?_
        rw [List.mem_iff_getElem?]
        exact ⟨u - q,by rw [List.getElem?_drop,show q + (u - q) = u by omega,List.getElem?_eq_getElem hlt,hku]⟩
       have hx2:=HX.out
       rw [hdu,nextK] at hx2
       simp only [hbu] at hx2
       cases hvx : vAny p d true ku jj with
       | none => rw [hvx] at hx2; cases hx2
       | some j1 =>
         rw [hvx] at hx2
         have HNX : Hid (nextK (fun k j => vAny p d (blkB k) k j) (ks.drop (u + 1)) j1 = some j):=Lib.hid hx2
         have HV1:=Lib.hid hvx
         have HBU:=Lib.hid hbu
         obtain ⟨RR,hRR⟩ : ∃ z,textP (blksE (fmtA p d) lv (ks.drop (u + 1)) false j1).1 = z:=⟨_,rfl⟩
         obtain ⟨E,hE⟩ : ∃ z,textP (fmtA p d true ku jj lv [32]).1 = z:=⟨_,rfl⟩
         have HEQ0:=HEQ.out
         rw [hdu,blks_text hvx,hE,hRR] at HEQ0
         clear hx2 hvx HX HEQ hdu hbu
         by_cases hq0 : u = q
         ·have hq00 : ¬ (q : Int) < (u : Int):=by omega
          have HEQ1 : Hid (st7 ++ (E ++ RR) = RES):=Lib.hid (by rw [← HEQ0]; simp [hq0])
          clear HEQ0 hq0
          have HC:=Lib.hid (IHB.out ku jj j1 lv st7 w9 HBU.out HV1.out (by omega) (by rw [hE]; have h1:=HRL.out; have h2:=congrArg List.length HEQ1.out; simp only [List.length_append,List.length_cons,List.length_nil] at h1 h2 ⊢; omega) HP.out)
          rw [hE] at HC
          go_wp2_with fail
          ((with_reducible refine HC.out.mono ?_))
          rintro e wa ⟨rfl,hpa,hka⟩
          have HPa:=Lib.hid hpa
          have HKa:=Lib.hid (HK.out.trans hka)
          clear hpa hka HC
          have HEQ2 : Hid ((st7 ++ E) ++ textP (blksE (fmtA p d) lv (ks.drop (u + 1)) (decide (u + 1 = q)) j1).1 = RES):=Lib.hid (by rw [show decide (u + 1 = q) = false from decide_eq_false (by omega),hRR,← HEQ1.out]; simp only [List.append_assoc,List.cons_append,List.nil_append])
          go_wp2_with fail
          go_roundw
          case rel => first | exact ⟨u + 1,j1,st7 ++ E,rfl,by go_num,by omega,by omega,HNX,HPa,HEQ2,HKa⟩ | exact ⟨_,u + 1,j1,st7 ++ E,rfl,by go_num,by omega,by omega,HNX,HPa,HEQ2,HKa⟩
          case measure => simp [intOf]; omega
         ·have hq00 : (q : Int) < (u : Int):=by omega
          have HEQ1 : Hid (st7 ++ ([32,69,108,115,101] ++ (E ++ RR)) = RES):=Lib.hid (by rw [← HEQ0]; simp [hq0])
          clear HEQ0 hq0
          obtain ⟨c0_k,c1_k⟩:=cells2 HP.out.1
          have f1_k:=free3 HP.out.1 1
          have hl_k : st7.length + ([32,69,108,115,101] : List UInt8).length ≤ 1000000000:=by have h1:=HRL.out; have h2:=congrArg List.length HEQ1.out; simp only [List.length_append,List.length_cons,List.length_nil] at h1 h2 ⊢; omega
          simp only [List.length_cons,List.length_nil] at hl_k
          go_upto_region 39 with fail
          have HP_k:=Lib.hid (HP.out.put (st7 ++ [32,69,108,115,101]))
          have HK_k:=Lib.hid (HK.out.setC 1 (.string ⟨(st7 ++ [32,69,108,115,101]).toArray⟩))
          generalize w9.setCell ⟨C,1,none⟩ _ = w_k at HP_k HK_k ⊢
          clear c0_k c1_k f1_k hl_k
          obtain ⟨s8,hs8⟩ : ∃ z,st7 ++ [32,69,108,115,101] = z:=⟨_,rfl⟩
          have Hs8:=Lib.hid hs8
          rw [hs8] at HP_k
          clear hs8
          have HC:=Lib.hid (IHB.out ku jj j1 lv s8 w_k HBU.out HV1.out (by omega) (by rw [hE]; have h1:=HRL.out; have h2:=congrArg List.length HEQ1.out; rw [← Hs8.out]; simp only [List.length_append,List.length_cons,List.length_nil] at h1 h2 ⊢; omega) HP_k.out)
          rw [hE] at HC
          go_wp2_with fail
          ((with_reducible refine HC.out.mono ?_))
          rintro e wa ⟨rfl,hpa,hka⟩
          have HPa:=Lib.hid hpa
          have HKa:=Lib.hid (HK_k.out.trans hka)
          clear hpa hka HC
          have HEQ2 : Hid ((s8 ++ E) ++ textP (blksE (fmtA p d) lv (ks.drop (u + 1)) (decide (u + 1 = q)) j1).1 = RES):=Lib.hid (by rw [show decide (u + 1 = q) = false from decide_eq_false (by omega),hRR,← HEQ1.out]; rw [← Hs8.out]; simp only [List.append_assoc,List.cons_append,List.nil_append])
          go_wp2_with fail
          go_roundw
          case rel => first | exact ⟨u + 1,j1,s8 ++ E,rfl,by go_num,by omega,by omega,HNX,HPa,HEQ2,HKa⟩ | exact ⟨_,u + 1,j1,s8 ++ E,rfl,by go_num,by omega,by omega,HNX,HPa,HEQ2,HKa⟩
          case measure => simp [intOf]; omega
      ·have hlt' : ¬ (u : Int) < (ks.length : Int):=by omega
       have huK2 : u = ks.length:=by omega
       have hdn : ks.drop u = []:=by apply List.drop_eq_nil_iff.2; omega
       have hjj : jj = j:=by have:=HX.out; rw [hdn,nextK] at this; injection this
       have hfin : st7 = RES:=by have:=HEQ.out; rw [hdn,blksE,textP_nil,List.append_nil] at this; exact this
       subst hjj
       clear hdn
       go_wp2_with fail
       go_ret
       exact ⟨rfl,by rw [← hfin]; exact HP.out,HK.out⟩
 ·have ht : inTab nk = true:=by
   have h:=HOPS.out
   have hc : ∀ op ∈ allOps,op = 1 ∨ op = 2 ∨ op = 3 ∨ op = 5 ∨ op = 6 ∨ op = 7 ∨ inTab op = true:=by decide +kernel
   rcases hc _ h with h | h | h | h | h | h | h
   ·exact absurd h h1
   ·exact absurd h h2
   ·exact absurd h h3
   ·exact absurd h h5
   ·exact absurd h h6
   ·exact absurd h h7
   ·exact h
  have HRO:=Lib.hid (rowOf_any nk W2)
  rw [rowF_tab ht] at HRO
  obtain ⟨⟨fw,fk⟩,hfp⟩ : ∃ z,formP nk = z:=⟨_,rfl⟩
  rw [hfp] at HRO
  simp only [rowR,Option.isSome_some] at HRO
  have g1 : (nk == 1) = false:=beq_eq_false_iff_ne.2 h1
  have g2 : (nk == 2) = false:=beq_eq_false_iff_ne.2 h2
  have g3 : (nk == 3) = false:=beq_eq_false_iff_ne.2 h3
  have g6 : (nk == 6) = false:=beq_eq_false_iff_ne.2 h6
  have g7 : (nk == 7) = false:=beq_eq_false_iff_ne.2 h7
  have g5 : (nk == 5) = false:=beq_eq_false_iff_ne.2 h5
  have HHD : Hid (fmtT (headT ⟨nk,(NN : Int),ns,np⟩) = fw):=Lib.hid (by unfold headT; simp only []; rw [if_neg h5,hfp]; rfl)
  have HRES0 : Hid (s ++ (fw ++ textP (restE (fmtA p d) ks lv (i + 1)).1) = RES):=Lib.hid (by rw [← hRES,if_neg (fun h => h5 h.1),textP_cons,HHD.out]; rfl)
  have HNL : Hid (ks = [] → nk = 34 ∨ nk = 35 ∨ (nk = 33 ∧ np = 0)):=Lib.hid (fun h => HNO.out hlf h5 h)
  clear hRES h1 h2 h3 h6 h7 hlf hfp
  go_wp2_with fail
  ((with_reducible refine HRO.out.mono ?_))
  rintro e W3 ⟨rfl,hb3⟩
  have hal : Below W2.heap.size W2 (W3.alloc (rwObj nk fw fk)):=bel_then hb3 (Nat.le_refl _) ((Below.refl _ _).alloc (Nat.le_refl _) _)
  have HRC:=Lib.hid (heap_alloc_new W3 (rwObj nk fw fk))
  have HP3:=Lib.hid (HP2.out.below hal)
  have HK3:=Lib.hid (HK2.out.trans (Keep.of hal))
  have HX3:=Lib.hid (blk_below HX2.out hal)
  obtain ⟨PR,hPR⟩ : ∃ z,W3.heap.size = z:=⟨_,rfl⟩
  rw [hPR] at HRC
  clear hb3 hal HRO HP2 HK2 e0 e1 e2 e3 HX2
  go_upto_region 6 with fail
  (try simp only [hPR])
  generalize W3.alloc (rwObj nk fw fk) = W4 at HRC HP3 HK3 HX3 ⊢
  clear hPR
  obtain ⟨r0,r1,r2⟩:=cells3 HRC.out
  obtain ⟨e0,e1,e2,e3⟩:=cells4 HX3.out
  obtain ⟨c0_b,c1_b⟩:=cells2 HP3.out.1
  have f1_b:=free3 HP3.out.1 1
  have hl_b : s.length + (fw : List UInt8).length ≤ 1000000000:=by have h1:=HRL.out; have h2:=congrArg List.length HRES0.out; simp only [List.length_append] at h1 h2 ⊢; omega
  (try simp only [List.length_cons,List.length_nil,List.length_append] at hl_b)
  skip
  have k0_b : ∀ x,Grows W4 x → x.cell? ⟨C,1,none⟩ = some (.string ⟨s.toArray⟩):=fun x hx => (hx.cell (p:=⟨C,1,none⟩) (World.block_lt_of_cell? W4 _ c1_b)).trans c1_b
  have k1_b : ∀ x,Grows W4 x → x.cell? ⟨PR,1,none⟩ = some (.string ⟨fw.toArray⟩):=fun x hx => (hx.cell (p:=⟨PR,1,none⟩) (World.block_lt_of_cell? W4 _ r1)).trans r1
  refine wp_region_plan (Grows W4) 9 [.reads [0,1,2,3,4,5,6,7,8],.act 9] (by kernel_rfl) (by kernel_rfl) (by kernel_rfl) (by kernel_rfl) (by kernel_rfl) (fun _ _ d _ _ h => by cases d <;> exact h) (Grows.self _) ?_
  refine wpPlan_reads ?_
  simp only [pickOps,List.drop_succ_cons,List.drop_zero,List.take_succ_cons,List.take_zero,List.cons_append,List.nil_append]
  repeat (go_big_quiet_step (first | (intro hb; rw [k0_b _ hb]; exact ⟨rfl,rfl⟩) | (intro hb; rw [k1_b _ hb]; exact ⟨rfl,rfl⟩)))
  refine wpQuiet_nil ?_
  refine wpPlan_act rfl ?_
  simp only [pickOps,List.drop_succ_cons,List.drop_zero,List.take_succ_cons,List.take_zero,List.cons_append,List.nil_append]
  go_wp2_with fail
  refine ⟨fun h => absurd h (by decide),wpPlan_nil ?_⟩
  clear k0_b k1_b
  have HP_b:=Lib.hid ((HP3.out.put (s ++ fw)).below (Grows.self _))
  have HK_b:=Lib.hid ((HK3.out.setC 1 (.string ⟨(s ++ fw).toArray⟩)).trans (Keep.of (Grows.self _)))
  have HX5:=Lib.hid (own_x (C:=C) HX3.out (by omega) (.string ⟨(s ++ fw).toArray⟩))
  generalize (W4.setCell ⟨C,1,none⟩ _).drew = w_b at HP_b HK_b HX5 ⊢
  clear c0_b c1_b f1_b hl_b
  obtain ⟨sh0,hsh0⟩ : ∃ z,s ++ fw = z:=⟨_,rfl⟩
  have Hsh0:=Lib.hid hsh0
  rw [hsh0] at HP_b
  clear hsh0
  clear e0 e1 e2 e3 r0 r1 r2
  obtain ⟨e0,e1,e2,e3⟩:=cells4 HX5.out
  by_cases hks : ks = []
  ·have hno:=HNL.out hks
   have hfin : Hid (sh0 = RES):=Lib.hid (by rw [← HRES0.out,← Hsh0.out,hks]; unfold restE; rw [if_pos rfl,textP_nil,List.append_nil])
   have hji : j = i + 1:=by have:=HXX.out; rw [hks,nextK] at this; injection this with this; exact this.symm
   subst hji
   rcases hno with rfl | rfl | ⟨rfl,rfl⟩
   all_goals
    go_wp2_with fail
    go_ret
    exact ⟨rfl,by rw [← hfin.out]; exact HP_b.out,HK_b.out⟩
  ·obtain ⟨n34,n35,n33⟩:=HSO.out hks
   have g34 : (nk == 34) = false:=beq_eq_false_iff_ne.2 n34
   have g35 : (nk == 35) = false:=beq_eq_false_iff_ne.2 n35
   have HRES : Hid (sh0 ++ ([32] ++ ([40] ++ (ARGS ++ BLK))) = RES):=Lib.hid (by
    rw [← HRES0.out,← Hsh0.out]
    unfold restE
    rw [if_neg hks]
    show _ = s ++ (fw ++ textP (([32],poT) :: ((argsE (fmtA p d) lv ks true (i + 1)).1 ++ (blksE (fmtA p d) lv (ks.dropWhile fun k => !blkB k) true (argsE (fmtA p d) lv ks true (i + 1)).2).1)))
    rw [textP_cons,textP_app,HDB.out,HI.out,HARGS.out,HBLK.out]
    simp [poT,fmtT,punC])
   have hw33 : (((nk == 33) = true) ∧ ((np == 0) = false)) ∨ ((nk == 33) = false):=by
    by_cases h : nk = 33
    ·exact .inl ⟨beq_iff_eq.2 h,beq_eq_false_iff_ne.2 (fun h2 => n33 ⟨h,h2⟩)⟩
    ·exact .inr (beq_eq_false_iff_ne.2 h)
   clear n34 n35 n33 hks HRES0
   rcases hw33 with ⟨g33,g0⟩ | g33
   all_goals
    go_upto_region 26 with fail
    obtain ⟨c0_f,c1_f⟩:=cells2 HP_b.out.1
    have f1_f:=free3 HP_b.out.1 1
    have hl_f : sh0.length + ([32,40] : List UInt8).length ≤ 1000000000:=by have h1:=HRL.out; have h2:=congrArg List.length HRES.out; simp only [List.length_append,List.length_cons,List.length_nil] at h1 h2 ⊢; omega
    simp only [List.length_cons,List.length_nil] at hl_f
    go_upto_region 27 with fail
    have HP_f:=Lib.hid (HP_b.out.put (sh0 ++ [32,40]))
    have HK_f:=Lib.hid (HK_b.out.setC 1 (.string ⟨(sh0 ++ [32,40]).toArray⟩))
    generalize w_b.setCell ⟨C,1,none⟩ _ = w_f at HP_f HK_f ⊢
    clear c0_f c1_f f1_f hl_f
    obtain ⟨s4,hs4⟩ : ∃ z,sh0 ++ [32,40] = z:=⟨_,rfl⟩
    have Hs4:=Lib.hid hs4
    rw [hs4] at HP_f
    clear hs4
    obtain ⟨T1,hT1⟩ : ∃ z,s4 ++ ARGS = z:=⟨_,rfl⟩
    have HT1:=Lib.hid hT1
    have HT2 : Hid (T1 ++ BLK = RES):=Lib.hid (by rw [← hT1,← Hs4.out,← HRES.out]; simp)
    have HTL : Hid (T1.length ≤ 1000000000):=Lib.hid (by have h1:=HRL.out; have h2:=congrArg List.length HT2.out; rw [List.length_append] at h2; omega)
    clear hT1
    go_wp2_with fail
    go_loopw [1,12] (fun x y wr => ∃ (q ii : Nat) (st : List UInt8),x = .int .i64 ii ∧ y = .int .i64 q ∧ q ≤ ks.length ∧ Hid (nextK (fun k j => vAny p d (blkB k) k j) (ks.drop q) ii = some j) ∧ Hid (PrSt wr C (.slice (some ⟨g,off,none⟩) L cap) p st) ∧ Hid (st ++ textP (argsE (fmtA p d) lv (ks.drop q) (decide (q = 0)) ii).1 = T1 ∧ (argsE (fmtA p d) lv (ks.drop q) (decide (q = 0)) ii).2 = I ∧ ((ks.drop q).dropWhile fun k => !blkB k) = DB) ∧ Hid (Keep C w wr)) (fun _ y _ => ks.length - (intOf y).toNat)
    case atStart => exact ⟨0,i + 1,s4,by go_num,rfl,by omega,HX,HP_f,Lib.hid ⟨by rw [← HT1.out,← HARGS.out]; rfl,HI.out,HDB.out⟩,HK_f⟩
    case round =>
     clear HP_f HK_f HX
     obtain ⟨q,ii,st,rfl,rfl,hq,HX,HP,HEQ,HK⟩:=hrel
     obtain ⟨w3,rfl⟩ : ∃ y : World,y = wr:=⟨_,rfl⟩
     by_cases hgo : ∃ (kq : UInt8) (r : List UInt8),ks.drop q = kq :: r ∧ blkB kq = false
     ·obtain ⟨kq,r,hdr,hbq⟩:=hgo
      have hqK : q < ks.length:=by
       have:=congrArg List.length hdr
       rw [List.length_drop,List.length_cons] at this
       omega
      have hqK' : (q : Int) < (ks.length : Int):=by omega
      have hqk : ks[q]? = some kq:=by
       have:=congrArg (fun l => l[0]?) hdr
       simpa using this
      have hqk2 : ks[q]'hqK = kq:=by rw [List.getElem?_eq_getElem hqK] at hqk; injection hqk
      have HDR : Hid (ks.drop (q + 1) = r):=Lib.hid (by rw [← List.drop_drop,hdr]; rfl)
      have hx2:=HX.out
      rw [hdr,nextK] at hx2
      simp only [hbq] at hx2
      cases hvx : vAny p d false kq ii with
      | none => rw [hvx] at hx2; cases hx2
      | some j1 =>
        rw [hvx] at hx2
        have HNX : Hid (nextK (fun k j => vAny p d (blkB k) k j) r j1 = some j):=Lib.hid hx2
        have HV1:=Lib.hid hvx
        obtain ⟨RR,hRR⟩ : ∃ z,textP (argsE (fmtA p d) lv r false j1).1 = z:=⟨_,rfl⟩
        obtain ⟨E,hE⟩ : ∃ z,textP (fmtA p d false kq ii lv []).1 = z:=⟨_,rfl⟩
        obtain ⟨ha1,ha2⟩:=args_text (lv:=lv) (ks:=r) (first:=decide (q = 0)) hbq hvx
        have HI1 : Hid ((argsE (fmtA p d) lv r false j1).2 = I):=Lib.hid (by rw [← ha2,← hdr]; exact HEQ.out.2.1)
        have HD1 : Hid ((r.dropWhile fun k => !blkB k) = DB):=Lib.hid (by have h:=HEQ.out.2.2; rw [hdr,List.dropWhile_cons,if_pos (by rw [hbq]; decide)] at h; exact h)
        have HBK:=Lib.hid (fun w => rblk_is kq false (Lib.hid (by rw [(HGOOD.out kq (List.mem_of_getElem? hqk)).1,hbq])) w)
        have HEQ0:=HEQ.out.1
        rw [hdr,ha1,hE,hRR] at HEQ0
        clear hx2 hvx HX hqk ha1 ha2 HEQ
        by_cases hq0 : q = 0
        ·have hq00 : ¬ (0 : Int) < (q : Int):=by omega
         have HEQ1 : Hid (st ++ (E ++ RR) = T1):=Lib.hid (by rw [← HEQ0]; simp [hq0])
         clear HEQ0 hdr hq0
         go_wp2_with fail
         ((with_reducible refine (HBK.out _).mono ?_))
         rintro e w8 ⟨rfl,rfl⟩
         have HC:=Lib.hid (IHE.out kq ii j1 lv st w3 HV1.out (by omega) (by rw [hE]; have h1:=HTL.out; have h2:=congrArg List.length HEQ1.out; simp only [List.length_append,List.length_cons,List.length_nil] at h1 h2 ⊢; omega) HP.out)
         rw [hE] at HC
         go_wp2_with fail
         ((with_reducible refine HC.out.mono ?_))
         rintro e w6 ⟨rfl,hp6,hk6⟩
         have HP6:=Lib.hid hp6
         have HK6:=Lib.hid (HK.out.trans hk6)
         clear hp6 hk6 HC
         have HEQ2 : Hid ((st ++ E) ++ textP (argsE (fmtA p d) lv (ks.drop (q + 1)) (decide (q + 1 = 0)) j1).1 = T1 ∧ (argsE (fmtA p d) lv (ks.drop (q + 1)) (decide (q + 1 = 0)) j1).2 = I ∧ ((ks.drop (q + 1)).dropWhile fun k => !blkB k) = DB):=Lib.hid (by rw [show decide (q + 1 = 0) = false from decide_eq_false (by omega),HDR.out]; exact ⟨by rw [← HEQ1.out,hRR]; simp only [List.append_assoc,List.cons_append,List.nil_append],HI1.out,HD1.out⟩)
         have HX2 : Hid (nextK (fun k j => vAny p d (blkB k) k j) (ks.drop (q + 1)) j1 = some j):=Lib.hid (by rw [HDR.out]; exact HNX.out)
         go_wp2_with fail
         go_roundw
         case rel => first | exact ⟨q + 1,j1,st ++ E,rfl,by go_num,by omega,HX2,HP6,HEQ2,HK6⟩ | exact ⟨_,q + 1,j1,st ++ E,rfl,by go_num,by omega,HX2,HP6,HEQ2,HK6⟩
         case measure => simp [intOf]; omega
        ·have hq00 : (0 : Int) < (q : Int):=by omega
         have HEQ1 : Hid (st ++ ([44,32] ++ (E ++ RR)) = T1):=Lib.hid (by rw [← HEQ0]; simp [hq0])
         clear HEQ0 hdr hq0
         go_wp2_with fail
         ((with_reducible refine (HBK.out _).mono ?_))
         rintro e w8 ⟨rfl,rfl⟩
         obtain ⟨c0_g,c1_g⟩:=cells2 HP.out.1
         have f1_g:=free3 HP.out.1 1
         have hl_g : st.length + ([44,32] : List UInt8).length ≤ 1000000000:=by have h1:=HTL.out; have h2:=congrArg List.length HEQ1.out; simp only [List.length_append,List.length_cons,List.length_nil] at h1 h2 ⊢; omega
         simp only [List.length_cons,List.length_nil] at hl_g
         go_upto_region 32 with fail
         have HP_g:=Lib.hid (HP.out.put (st ++ [44,32]))
         have HK_g:=Lib.hid (HK.out.setC 1 (.string ⟨(st ++ [44,32]).toArray⟩))
         generalize w3.setCell ⟨C,1,none⟩ _ = w_g at HP_g HK_g ⊢
         clear c0_g c1_g f1_g hl_g
         obtain ⟨s5,hs5⟩ : ∃ z,st ++ [44,32] = z:=⟨_,rfl⟩
         have Hs5:=Lib.hid hs5
         rw [hs5] at HP_g
         clear hs5
         have HC:=Lib.hid (IHE.out kq ii j1 lv s5 w_g HV1.out (by omega) (by rw [hE]; have h1:=HTL.out; have h2:=congrArg List.length HEQ1.out; rw [← Hs5.out]; simp only [List.length_append,List.length_cons,List.length_nil] at h1 h2 ⊢; omega) HP_g.out)
         rw [hE] at HC
         go_wp2_with fail
         ((with_reducible refine HC.out.mono ?_))
         rintro e w6 ⟨rfl,hp6,hk6⟩
         have HP6:=Lib.hid hp6
         have HK6:=Lib.hid (HK_g.out.trans hk6)
         clear hp6 hk6 HC
         have HEQ2 : Hid ((s5 ++ E) ++ textP (argsE (fmtA p d) lv (ks.drop (q + 1)) (decide (q + 1 = 0)) j1).1 = T1 ∧ (argsE (fmtA p d) lv (ks.drop (q + 1)) (decide (q + 1 = 0)) j1).2 = I ∧ ((ks.drop (q + 1)).dropWhile fun k => !blkB k) = DB):=Lib.hid (by rw [show decide (q + 1 = 0) = false from decide_eq_false (by omega),HDR.out]; exact ⟨by rw [← HEQ1.out,hRR]; rw [← Hs5.out]; simp only [List.append_assoc,List.cons_append,List.nil_append],HI1.out,HD1.out⟩)
         have HX2 : Hid (nextK (fun k j => vAny p d (blkB k) k j) (ks.drop (q + 1)) j1 = some j):=Lib.hid (by rw [HDR.out]; exact HNX.out)
         go_wp2_with fail
         go_roundw
         case rel => first | exact ⟨q + 1,j1,s5 ++ E,rfl,by go_num,by omega,HX2,HP6,HEQ2,HK6⟩ | exact ⟨_,q + 1,j1,s5 ++ E,rfl,by go_num,by omega,HX2,HP6,HEQ2,HK6⟩
         case measure => simp [intOf]; omega
     ·have hst : ks.drop q = [] ∨ ∃ k r,ks.drop q = k :: r ∧ blkB k = true:=by
       cases hd : ks.drop q with
       | nil => exact .inl rfl
       | cons a b =>
         cases hb : blkB a with
         | true => exact .inr ⟨a,b,rfl,hb⟩
         | false => exact absurd ⟨a,b,hd,hb⟩ hgo
      obtain ⟨ha1,ha2⟩:=args_fin (p:=p) (d:=d) (lv:=lv) (first:=decide (q = 0)) (i:=ii) hst
      have HE1 : Hid (st ++ [41] = T1):=Lib.hid (by rw [← HEQ.out.1,ha1]; rfl)
      have hiI : ii = I:=by have:=HEQ.out.2.1; rw [ha1] at this; exact this
      have HDR : Hid (ks.drop q = DB):=Lib.hid (by rw [← HEQ.out.2.2,ha2])
      subst hiI
      clear ha1 ha2 HEQ hgo
      have hways : (q = ks.length) ∨ ∃ (kq : UInt8),q < ks.length ∧ ks[q]? = some kq ∧ blkB kq = true:=by
       rcases hst with h | ⟨a,b,h,hb⟩
       ·left; have:=congrArg List.length h; rw [List.length_drop,List.length_nil] at this; omega
       ·right; refine ⟨a,?_,?_,hb⟩
        ·have:=congrArg List.length h; rw [List.length_drop,List.length_cons] at this; omega
        ·have:=congrArg (fun l => l[0]?) h; simpa using this
      clear hst
      rcases hways with hqK | ⟨kq,hqK,hqk,hbq⟩
      ·have hqK' : ¬ (q : Int) < (ks.length : Int):=by omega
       have HQK:=Lib.hid hqK
       clear hqK
       go_upto_region 33 with fail
       obtain ⟨c0_h,c1_h⟩:=cells2 HP.out.1
       have f1_h:=free3 HP.out.1 1
       have hl_h : st.length + ([41] : List UInt8).length ≤ 1000000000:=by have h1:=HTL.out; have h2:=congrArg List.length HE1.out; simp only [List.length_append,List.length_cons,List.length_nil] at h1 h2 ⊢; omega
       simp only [List.length_cons,List.length_nil] at hl_h
       go_upto_region 34 with fail
       have HP_h:=Lib.hid (HP.out.put (st ++ [41]))
       have HK_h:=Lib.hid (HK.out.setC 1 (.string ⟨(st ++ [41]).toArray⟩))
       generalize w3.setCell ⟨C,1,none⟩ _ = w_h at HP_h HK_h ⊢
       clear c0_h c1_h f1_h hl_h
       obtain ⟨s6,hs6⟩ : ∃ z,st ++ [41] = z:=⟨_,rfl⟩
       have Hs6:=Lib.hid hs6
       rw [hs6] at HP_h
       clear hs6
       have HX3 : Hid (nextK (fun k j => vAny p d (blkB k) k j) (ks.drop q) ii = some j):=HX
       go_wp2_with fail
       go_loopw [1,12] (fun x y wr => ∃ (u jj : Nat) (st : List UInt8),x = .int .i64 jj ∧ y = .int .i64 u ∧ q ≤ u ∧ u ≤ ks.length ∧ Hid (nextK (fun k j => vAny p d (blkB k) k j) (ks.drop u) jj = some j) ∧ Hid (PrSt wr C (.slice (some ⟨g,off,none⟩) L cap) p st) ∧ Hid (st ++ textP (blksE (fmtA p d) lv (ks.drop u) (decide (u = q)) jj).1 = RES) ∧ Hid (Keep C w wr)) (fun _ y _ => ks.length - (intOf y).toNat)
       case atStart => exact ⟨q,ii,s6,rfl,rfl,by omega,by omega,HX3,HP_h,Lib.hid (by rw [← HT2.out,← HE1.out,HDR.out,← HBLK.out,Hs6.out,show decide (q = q) = true from decide_eq_true rfl]),HK_h⟩
       case round =>
        clear HP_h HK_h HX3 HX
        obtain ⟨u,jj,st7,rfl,rfl,hqu,huK,HX,HP,HEQ,HK⟩:=hrel
        obtain ⟨w9,rfl⟩ : ∃ y : World,y = wr:=⟨_,rfl⟩
        by_cases hlt : u < ks.length
        ·exfalso
         have:=HQK.out
         omega
        ·have hlt' : ¬ (u : Int) < (ks.length : Int):=by omega
         have huK2 : u = ks.length:=by omega
         have hdn : ks.drop u = []:=by apply List.drop_eq_nil_iff.2; omega
         have hjj : jj = j:=by have:=HX.out; rw [hdn,nextK] at this; injection this
         have hfin : st7 = RES:=by have:=HEQ.out; rw [hdn,blksE,textP_nil,List.append_nil] at this; exact this
         subst hjj
         clear hdn
         go_wp2_with fail
         go_ret
         exact ⟨rfl,by rw [← hfin]; exact HP.out,HK.out⟩
      ·have hqK' : (q : Int) < (ks.length : Int):=by omega
       have hqk2 : ks[q]'hqK = kq:=by rw [List.getElem?_eq_getElem hqK] at hqk; injection hqk
       have HBK:=Lib.hid (fun w => rblk_is kq true (Lib.hid (by rw [(HGOOD.out kq (List.mem_of_getElem? hqk)).1,hbq])) w)
       clear hqk
       go_wp2_with fail
       ((with_reducible refine (HBK.out _).mono ?_))
       rintro e w8 ⟨rfl,rfl⟩
       clear hqk2 hbq HBK hqK hqK'
       go_upto_region 33 with fail
       obtain ⟨c0_h,c1_h⟩:=cells2 HP.out.1
       have f1_h:=free3 HP.out.1 1
       have hl_h : st.length + ([41] : List UInt8).length ≤ 1000000000:=by have h1:=HTL.out; have h2:=congrArg List.length HE1.out; simp only [List.length_append,List.length_cons,List.length_nil] at h1 h2 ⊢; omega
       simp only [List.length_cons,List.length_nil] at hl_h
       go_upto_region 34 with fail
       have HP_h:=Lib.hid (HP.out.put (st ++ [41]))
       have HK_h:=Lib.hid (HK.out.setC 1 (.string ⟨(st ++ [41]).toArray⟩))
       generalize w3.setCell ⟨C,1,none⟩ _ = w_h at HP_h HK_h ⊢
       clear c0_h c1_h f1_h hl_h
       obtain ⟨s6,hs6⟩ : ∃ z,st ++ [41] = z:=⟨_,rfl⟩
       have Hs6:=Lib.hid hs6
       rw [hs6] at HP_h
       clear hs6
       have HX3 : Hid (nextK (fun k j => vAny p d (blkB k) k j) (ks.drop q) ii = some j):=HX
       go_wp2_with fail
       go_loopw [1,12] (fun x y wr => ∃ (u jj : Nat) (st : List UInt8),x = .int .i64 jj ∧ y = .int .i64 u ∧ q ≤ u ∧ u ≤ ks.length ∧ Hid (nextK (fun k j => vAny p d (blkB k) k j) (ks.drop u) jj = some j) ∧ Hid (PrSt wr C (.slice (some ⟨g,off,none⟩) L cap) p st) ∧ Hid (st ++ textP (blksE (fmtA p d) lv (ks.drop u) (decide (u = q)) jj).1 = RES) ∧ Hid (Keep C w wr)) (fun _ y _ => ks.length - (intOf y).toNat)
       case atStart => exact ⟨q,ii,s6,rfl,rfl,by omega,by omega,HX3,HP_h,Lib.hid (by rw [← HT2.out,← HE1.out,HDR.out,← HBLK.out,Hs6.out,show decide (q = q) = true from decide_eq_true rfl]),HK_h⟩
       case round =>
        clear HP_h HK_h HX3 HX
        obtain ⟨u,jj,st7,rfl,rfl,hqu,huK,HX,HP,HEQ,HK⟩:=hrel
        obtain ⟨w9,rfl⟩ : ∃ y : World,y = wr:=⟨_,rfl⟩
        by_cases hlt : u < ks.length
        ·have hlt' : (u : Int) < (ks.length : Int):=by omega
         obtain ⟨ku,hku⟩ : ∃ z,ks[u]'hlt = z:=⟨_,rfl⟩
         have hdu : ks.drop u = ku :: ks.drop (u + 1):=by rw [List.drop_eq_getElem_cons hlt,hku]
         have hbu : blkB ku = true:=by
          have h:=HALL.out
          rw [← HDR.out] at h
          refine List.all_eq_true.1 h ku ?_
          rw [List.mem_iff_getElem?]
          exact ⟨u - q,by rw [List.getElem?_drop,show q + (u - q) = u by omega,List.getElem?_eq_getElem hlt,hku]⟩
         have hx2:=HX.out
         rw [hdu,nextK] at hx2
         simp only [hbu] at hx2
         cases hvx : vAny p d true ku jj with
         | none => rw [hvx] at hx2; cases hx2
         | some j1 =>
           rw [hvx] at hx2
           have HNX : Hid (nextK (fun k j => vAny p d (blkB k) k j) (ks.drop (u + 1)) j1 = some j):=Lib.hid hx2
           have HV1:=Lib.hid hvx
           have HBU:=Lib.hid hbu
           obtain ⟨RR,hRR⟩ : ∃ z,textP (blksE (fmtA p d) lv (ks.drop (u + 1)) false j1).1 = z:=⟨_,rfl⟩
           obtain ⟨E,hE⟩ : ∃ z,textP (fmtA p d true ku jj lv [32]).1 = z:=⟨_,rfl⟩
           have HEQ0:=HEQ.out
           rw [hdu,blks_text hvx,hE,hRR] at HEQ0
           clear hx2 hvx HX HEQ hdu hbu
           by_cases hq0 : u = q
           ·have hq00 : ¬ (q : Int) < (u : Int):=by omega
            have HEQ1 : Hid (st7 ++ (E ++ RR) = RES):=Lib.hid (by rw [← HEQ0]; simp [hq0])
            clear HEQ0 hq0
            have HC:=Lib.hid (IHB.out ku jj j1 lv st7 w9 HBU.out HV1.out (by omega) (by rw [hE]; have h1:=HRL.out; have h2:=congrArg List.length HEQ1.out; simp only [List.length_append,List.length_cons,List.length_nil] at h1 h2 ⊢; omega) HP.out)
            rw [hE] at HC
            go_wp2_with fail
            ((with_reducible refine HC.out.mono ?_))
            rintro e wa ⟨rfl,hpa,hka⟩
            have HPa:=Lib.hid hpa
            have HKa:=Lib.hid (HK.out.trans hka)
            clear hpa hka HC
            have HEQ2 : Hid ((st7 ++ E) ++ textP (blksE (fmtA p d) lv (ks.drop (u + 1)) (decide (u + 1 = q)) j1).1 = RES):=Lib.hid (by rw [show decide (u + 1 = q) = false from decide_eq_false (by omega),hRR,← HEQ1.out]; simp only [List.append_assoc,List.cons_append,List.nil_append])
            go_wp2_with fail
            go_roundw
            case rel => first | exact ⟨u + 1,j1,st7 ++ E,rfl,by go_num,by omega,by omega,HNX,HPa,HEQ2,HKa⟩ | exact ⟨_,u + 1,j1,st7 ++ E,rfl,by go_num,by omega,by omega,HNX,HPa,HEQ2,HKa⟩
            case measure => simp [intOf]; omega
           ·have hq00 : (q : Int) < (u : Int):=by omega
            have HEQ1 : Hid (st7 ++ ([32,69,108,115,101] ++ (E ++ RR)) = RES):=Lib.hid (by rw [← HEQ0]; simp [hq0])
            clear HEQ0 hq0
            obtain ⟨c0_k,c1_k⟩:=cells2 HP.out.1
            have f1_k:=free3 HP.out.1 1
            have hl_k : st7.length + ([32,69,108,115,101] : List UInt8).length ≤ 1000000000:=by have h1:=HRL.out; have h2:=congrArg List.length HEQ1.out; simp only [List.length_append,List.length_cons,List.length_nil] at h1 h2 ⊢; omega
            simp only [List.length_cons,List.length_nil] at hl_k
            go_upto_region 39 with fail
            have HP_k:=Lib.hid (HP.out.put (st7 ++ [32,69,108,115,101]))
            have HK_k:=Lib.hid (HK.out.setC 1 (.string ⟨(st7 ++ [32,69,108,115,101]).toArray⟩))
            generalize w9.setCell ⟨C,1,none⟩ _ = w_k at HP_k HK_k ⊢
            clear c0_k c1_k f1_k hl_k
            obtain ⟨s8,hs8⟩ : ∃ z,st7 ++ [32,69,108,115,101] = z:=⟨_,rfl⟩
            have Hs8:=Lib.hid hs8
            rw [hs8] at HP_k
            clear hs8
            have HC:=Lib.hid (IHB.out ku jj j1 lv s8 w_k HBU.out HV1.out (by omega) (by rw [hE]; have h1:=HRL.out; have h2:=congrArg List.length HEQ1.out; rw [← Hs8.out]; simp only [List.length_append,List.length_cons,List.length_nil] at h1 h2 ⊢; omega) HP_k.out)
            rw [hE] at HC
            go_wp2_with fail
            ((with_reducible refine HC.out.mono ?_))
            rintro e wa ⟨rfl,hpa,hka⟩
            have HPa:=Lib.hid hpa
            have HKa:=Lib.hid (HK_k.out.trans hka)
            clear hpa hka HC
            have HEQ2 : Hid ((s8 ++ E) ++ textP (blksE (fmtA p d) lv (ks.drop (u + 1)) (decide (u + 1 = q)) j1).1 = RES):=Lib.hid (by rw [show decide (u + 1 = q) = false from decide_eq_false (by omega),hRR,← HEQ1.out]; rw [← Hs8.out]; simp only [List.append_assoc,List.cons_append,List.nil_append])
            go_wp2_with fail
            go_roundw
            case rel => first | exact ⟨u + 1,j1,s8 ++ E,rfl,by go_num,by omega,by omega,HNX,HPa,HEQ2,HKa⟩ | exact ⟨_,u + 1,j1,s8 ++ E,rfl,by go_num,by omega,by omega,HNX,HPa,HEQ2,HKa⟩
            case measure => simp [intOf]; omega
        ·have hlt' : ¬ (u : Int) < (ks.length : Int):=by omega
         have huK2 : u = ks.length:=by omega
         have hdn : ks.drop u = []:=by apply List.drop_eq_nil_iff.2; omega
         have hjj : jj = j:=by have:=HX.out; rw [hdn,nextK] at this; injection this
         have hfin : st7 = RES:=by have:=HEQ.out; rw [hdn,blksE,textP_nil,List.append_nil] at this; exact this
         subst hjj
         clear hdn
         go_wp2_with fail
         go_ret
         exact ⟨rfl,by rw [← hfin]; exact HP.out,HK.out⟩
end Go.Proofs.YtoohondkpddmcaaGreatDoor
