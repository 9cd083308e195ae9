/- Gb -/
import Derived.Test.YtoohondkpddmcaaGreatDoorVbm
set_option linter.unusedVariables false
set_option linter.unusedSimpArgs false
namespace Go.Proofs.YtoohondkpddmcaaGreatDoor
open Go.RowKit
attribute [local go_sem] ByteArray.mk_append_mk bs_get bs_cut bs_end
def ElR (C : Nat) (v : Value) (p : List Nd) (d : Nat) : Prop := ∀ (k : UInt8) (i j lv : Nat) (s : List UInt8) (w : World), vAny p d false k i = some j → lv + d ≤ 300 → s.length + (textP (fmtA p d false k i lv []).1).length ≤ 1000000000 → PrSt w C v p s →
    Calls Tryz.prog 28 #[.pointer (some ⟨C,0,none⟩),.int .i64 i,.int .i64 lv] w fun e w' => e = .returned (.int .i64 j) ∧ PrSt w' C v p (s ++ textP (fmtA p d false k i lv []).1) ∧ Keep C w w'
def BlR (C : Nat) (v : Value) (p : List Nd) (d : Nat) : Prop := ∀ (k : UInt8) (i j lv : Nat) (s : List UInt8) (w : World), blkB k = true → vAny p d true k i = some j → lv + d ≤ 300 → s.length + (textP (fmtA p d true k i lv [32]).1).length ≤ 1000000000 → PrSt w C v p s →
    Calls Tryz.prog 65 #[.pointer (some ⟨C,0,none⟩),.int .i64 i,.int .u8 k.toNat,.int .i64 lv] w fun e w' => e = .returned (.int .i64 j) ∧ PrSt w' C v p (s ++ textP (fmtA p d true k i lv [32]).1) ∧ Keep C w w'
theorem list_u8 (k : UInt8) : listB k = ((k.toNat : Int) == 73 || (k.toNat : Int) == 80):=by
 have : ∀ x : Fin 256,listB (UInt8.ofNat x.val) = (((UInt8.ofNat x.val).toNat : Int) == 73 || ((UInt8.ofNat x.val).toNat : Int) == 80):=by decide +kernel
 have h:=this ⟨k.toNat,k.toNat_lt⟩
 rw [UInt8.ofNat_toNat] at h
 exact h
theorem list_yes {k : UInt8} (h : listB k = true) : ((k.toNat : Int) == 73) = true ∨ (((k.toNat : Int) == 73) = false ∧ ((k.toNat : Int) == 80) = true):=by
 rw [list_u8] at h
 cases h73 : (k.toNat : Int) == 73 with
 | true => exact .inl rfl
 | false => rw [h73] at h; exact .inr ⟨rfl,by simpa using h⟩
theorem list_no {k : UInt8} (h : ¬ listB k = true) : ((k.toNat : Int) == 73) = false ∧ ((k.toNat : Int) == 80) = false:=by
 rw [list_u8] at h
 cases h73 : (k.toNat : Int) == 73 <;> cases h80 : (k.toNat : Int) == 80 <;> simp_all
theorem elems_text {p : List Nd} {d : Nat} {k : UInt8} {lv m : Nat} {first : Bool} {i q : Nat} (hx : vAny p d false k i = some q) :
  textP (elemsL (fmtA p d) k lv (m + 1) first i).1 = textP (elC k first) ++ (elS k lv first ++ (textP (fmtA p d false k i (elV k lv) []).1 ++ textP (elemsL (fmtA p d) k lv m false q).1)):=by
 rw [elemsL]
 simp only [fmt_next p d false k i q _ _ hx]
 rw [textP_app,textP_app,fmt_text p _ _ hx,List.append_assoc]
set_option maxRecDepth 100000 in
set_option maxHeartbeats 16000000 in
theorem rblock_step (C : Nat) (v : Value) (p : List Nd) (d : Nat) (hp : p.length ≤ 1000000) (ih : ElR C v p d) : BlR C v p (d + 1):=by
 intro k i j lv s w hkb hv hlv hlen hst
 have IH:=Lib.hid ih
 unfold ElR at IH
 have HS:=Lib.hid hst
 have HK:=Lib.hid (Keep.refl C w)
 obtain ⟨n,hn,⟨_,_,_,hn0⟩,hx⟩:=bl_node hv
 have hjp:=(vAny_good p (d + 1) true k i j hv).2
 obtain ⟨hip,hpe⟩:=List.getElem?_eq_some_iff.1 hn
 obtain ⟨M,hM⟩ : ∃ M : Nat,n.pos = M:=⟨n.pos.toNat,by omega⟩
 have hMt : n.pos.toNat = M:=by omega
 rw [hMt] at hx
 have HE : Hid (textP (fmtA p (d + 1) true k i lv [32]).1 = [32,123] ++ (textP (elemsL (fmtA p d) k lv M true (i + 1)).1 ++ (endS k lv M ++ [125]))):=Lib.hid (by
  rw [fmtA,hn]
  simp only [hMt]
  rw [textP_cons,textP_app,textP_cons,textP_nil,List.append_nil]
  rfl)
 rw [HE.out] at hlen ⊢
 have HX:=Lib.hid hx
 have hMb : M ≤ 1000000:=by
  have key : ∀ (m i j : Nat),nextN (vAny p d false k) m i = some j → i + m ≤ j:=by
   intro m
   induction m with
   | zero => intro i j h; rw [nextN] at h; injection h with h; omega
   | succ m ih2 =>
     intro i j h
     rw [nextN] at h
     cases hq : vAny p d false k i with
     | none => rw [hq] at h; cases h
     | some q => rw [hq] at h; have:=ih2 q j h; have:=(vAny_good p d false k i q hq).1; omega
  have:=key M (i + 1) j hx
  omega
 obtain ⟨a,cap,rfl,hcc⟩:=hst.2.1.1
 obtain ⟨g,off,rfl,hk⟩:=hcc (by rintro rfl; simp at hip)
 obtain ⟨z0,z1,z2,e3⟩:=hk i hip
 rw [hpe,hM] at e3
 have hip' : (i : Int) < (p.length : Int):=by omega
 obtain ⟨L,hL⟩ : ∃ L,p.length = L:=⟨_,rfl⟩
 rw [hL] at hip' hp hjp HS IH ⊢
 obtain ⟨c0,c1⟩:=cells2 HS.out.1
 have HLN:=Lib.hid hlen
 obtain ⟨EL,hEL⟩ : ∃ z,textP (elemsL (fmtA p d) k lv M true (i + 1)).1 = z:=⟨_,rfl⟩
 have HEL:=Lib.hid hEL
 rw [hEL] at HLN
 have HIN0:=Lib.hid (fun w => indent_any lv w (by omega))
 have HIN1 : Hid (∀ w,Calls Tryz.prog 113 #[.int .i64 ((lv : Int) + 1)] w fun e w' => e = .returned (.string ⟨(indL (lv + 1)).toArray⟩) ∧ w = w'):=Lib.hid (fun w => by
  have h:=indent_any (lv + 1) w (by omega)
  rw [show ((lv + 1 : Nat) : Int) = (lv : Int) + 1 by omega] at h
  exact h)
 rw [hEL]
 obtain ⟨RES,hRES⟩ : ∃ z,s ++ ([32,123] ++ (EL ++ (endS k lv M ++ [125]))) = z:=⟨_,rfl⟩
 have HRES:=Lib.hid hRES
 rw [hRES]
 clear hRES
 clear z0 z1 z2 hcc hk hst hlen hx HE hM hMt hpe hn0 hn hip hv ih hEL
 go_enter Tryz.func65,Tryz.ntmps65
 go_upto_region 3 with fail
 clear e3 c0 c1
 obtain ⟨c0_a,c1_a⟩:=cells2 HS.out.1
 have f1_a:=free3 HS.out.1 1
 have hl_a : s.length + ([32,123] : List UInt8).length ≤ 1000000000:=by have:=HLN.out; simp only [List.length_append,List.length_cons,List.length_nil] at this ⊢; omega
 simp only [List.length_cons,List.length_nil] at hl_a
 go_upto_region 4 with fail
 have HP_a:=Lib.hid (HS.out.put (s ++ [32,123]))
 have HK_a:=Lib.hid (HK.out.setC 1 (.string ⟨(s ++ [32,123]).toArray⟩))
 generalize w.setCell ⟨C,1,none⟩ _ = w_a at HP_a HK_a ⊢
 clear c0_a c1_a f1_a hl_a
 obtain ⟨s1,hs1⟩ : ∃ z,s ++ [32,123] = z:=⟨_,rfl⟩
 have Hs1:=Lib.hid hs1
 rw [hs1] at HP_a
 clear hs1
 obtain ⟨T,hT⟩ : ∃ T,s1 ++ EL = T:=⟨_,rfl⟩
 have HT:=Lib.hid hT
 have HTL : Hid (T.length ≤ 1000000000):=Lib.hid (by
  rw [← hT,← Hs1.out]
  have:=HLN.out
  simp only [List.length_append,List.length_cons,List.length_nil] at this ⊢
  omega)
 clear hT
 go_wp2_with fail
 go_loopw [1,10] (fun x y wr => ∃ (q ii : Nat) (st : List UInt8),x = .int .i64 ii ∧ y = .int .i64 q ∧ q ≤ M ∧ Hid (nextN (vAny p d false k) (M - q) ii = some j) ∧ Hid (PrSt wr C (.slice (some ⟨g,off,none⟩) L cap) p st) ∧ Hid (st ++ textP (elemsL (fmtA p d) k lv (M - q) (decide (q = 0)) ii).1 = T) ∧ Hid (Keep C w wr)) (fun _ y _ => M - (intOf y).toNat)
 case atStart => exact ⟨0,i + 1,s1,by go_num,rfl,by omega,HX,HP_a,Lib.hid (by rw [← HT.out,← HEL.out]; rfl),HK_a⟩
 case round =>
  clear HP_a HK_a HX HS HK
  obtain ⟨q,ii,st,rfl,rfl,hq,HX,HP,HEQ,HK⟩:=hrel
  obtain ⟨w3,rfl⟩ : ∃ y : World,y = wr:=⟨_,rfl⟩
  by_cases hlt : q < M
  ·have hlt' : (q : Int) < (M : Int):=by omega
   obtain ⟨m',hMq⟩ : ∃ m',M - q = m' + 1:=⟨M - q - 1,by omega⟩
   have hx2:=HX.out
   rw [hMq,nextN] at hx2
   cases hvx : vAny p d false k ii with
   | none => rw [hvx] at hx2; cases hx2
   | some j1 =>
     rw [hvx] at hx2
     have hv1:=Lib.hid hvx
     have HNX : Hid (nextN (vAny p d false k) (M - (q + 1)) j1 = some j):=Lib.hid (by rw [show M - (q + 1) = m' by omega]; exact hx2)
     obtain ⟨RR,hRR⟩ : ∃ z,textP (elemsL (fmtA p d) k lv m' false j1).1 = z:=⟨_,rfl⟩
     clear hvx hx2 HX
     by_cases hlist : listB k = true
     ·have hkt:=list_yes hlist
      obtain ⟨E,hE⟩ : ∃ z,textP (fmtA p d false k ii lv []).1 = z:=⟨_,rfl⟩
      have hE':=hE
      by_cases hq0 : q = 0
      ·have hq00 : ¬ (0 : Int) < (q : Int):=by omega
       rcases hkt with k73 | ⟨k73,k80⟩
       all_goals
        have HEQ1 : Hid (st ++ (E ++ RR) = T):=Lib.hid (by rw [← HEQ.out,hMq,elems_text hv1.out,hRR]; unfold elC elS elV; simp [hlist,hq0,hE',textP_nil])
        have HC_c:=Lib.hid (IH.out k ii j1 lv st w3 hv1.out (by omega) (by rw [hE]; have h1:=HTL.out; have h2:=congrArg List.length HEQ1.out; simp only [List.length_append,List.length_cons,List.length_nil] at h2 ⊢; omega) HP.out)
        rw [hE] at HC_c
        go_wp2_with fail
        ((with_reducible refine HC_c.out.mono ?_))
        rintro e w_c ⟨rfl,hp_c,hk_c⟩
        have HP_c:=Lib.hid hp_c
        have HK_c:=Lib.hid (HK.out.trans hk_c)
        clear hp_c hk_c HC_c
        have HEQ2 : Hid ((st ++ E) ++ textP (elemsL (fmtA p d) k lv (M - (q + 1)) (decide (q + 1 = 0)) j1).1 = T):=Lib.hid (by rw [← HEQ1.out,← hRR,show M - (q + 1) = m' by omega,show decide (q + 1 = 0) = false from decide_eq_false (by omega)]; simp only [List.append_assoc,List.cons_append])
        go_wp2_with fail
        go_roundw
        case rel => first | exact ⟨q + 1,j1,st ++ E,rfl,by go_num,by omega,HNX,HP_c,HEQ2,HK_c⟩ | exact ⟨_,q + 1,j1,st ++ E,rfl,by go_num,by omega,HNX,HP_c,HEQ2,HK_c⟩
        case measure => simp [intOf]; omega
      ·have hq00 : (0 : Int) < (q : Int):=by omega
       rcases hkt with k73 | ⟨k73,k80⟩
       all_goals
        have HEQ1 : Hid (st ++ ([44,32] ++ (E ++ RR)) = T):=Lib.hid (by rw [← HEQ.out,hMq,elems_text hv1.out,hRR]; unfold elC elS elV; simp [hlist,hq0,hE',textP_cons,textP_nil,cmT,fmtT,punC])
        obtain ⟨c0_b,c1_b⟩:=cells2 HP.out.1
        have f1_b:=free3 HP.out.1 1
        have hl_b : st.length + ([44,32] : List UInt8).length ≤ 1000000000:=by have:=HTL.out; have:=congrArg List.length HEQ1.out; simp only [List.length_append,List.length_cons,List.length_nil] at this ⊢; omega
        simp only [List.length_cons,List.length_nil] at hl_b
        go_upto_region 10 with fail
        have HP_b:=Lib.hid (HP.out.put (st ++ [44,32]))
        have HK_b:=Lib.hid (HK.out.setC 1 (.string ⟨(st ++ [44,32]).toArray⟩))
        generalize w3.setCell ⟨C,1,none⟩ _ = w_b at HP_b HK_b ⊢
        clear c0_b c1_b f1_b hl_b
        obtain ⟨s2,hs2⟩ : ∃ z,st ++ [44,32] = z:=⟨_,rfl⟩
        have Hs2:=Lib.hid hs2
        rw [hs2] at HP_b
        clear hs2
        have HC_c:=Lib.hid (IH.out k ii j1 lv s2 w_b hv1.out (by omega) (by rw [hE]; have h1:=HTL.out; have h2:=congrArg List.length HEQ1.out; rw [← Hs2.out]; simp only [List.length_append,List.length_cons,List.length_nil] at h2 ⊢; omega) HP_b.out)
        rw [hE] at HC_c
        go_wp2_with fail
        ((with_reducible refine HC_c.out.mono ?_))
        rintro e w_c ⟨rfl,hp_c,hk_c⟩
        have HP_c:=Lib.hid hp_c
        have HK_c:=Lib.hid (HK_b.out.trans hk_c)
        clear hp_c hk_c HC_c
        have HEQ2 : Hid ((s2 ++ E) ++ textP (elemsL (fmtA p d) k lv (M - (q + 1)) (decide (q + 1 = 0)) j1).1 = T):=Lib.hid (by rw [← HEQ1.out,← hRR,show M - (q + 1) = m' by omega,show decide (q + 1 = 0) = false from decide_eq_false (by omega)]; rw [← Hs2.out]; simp only [List.append_assoc,List.cons_append])
        go_wp2_with fail
        go_roundw
        case rel => first | exact ⟨q + 1,j1,s2 ++ E,rfl,by go_num,by omega,HNX,HP_c,HEQ2,HK_c⟩ | exact ⟨_,q + 1,j1,s2 ++ E,rfl,by go_num,by omega,HNX,HP_c,HEQ2,HK_c⟩
        case measure => simp [intOf]; omega
     ·have hkt:=list_no hlist
      obtain ⟨k73,k80⟩:=hkt
      obtain ⟨E,hE⟩ : ∃ z,textP (fmtA p d false k ii (lv + 1) []).1 = z:=⟨_,rfl⟩
      have hE':=hE
      have HEQ1 : Hid (st ++ ((10 :: indL (lv + 1)) ++ (E ++ RR)) = T):=Lib.hid (by rw [← HEQ.out,hMq,elems_text hv1.out,hRR]; unfold elC elS elV; simp [hlist,hE',textP_nil])
      obtain ⟨c0_b,c1_b⟩:=cells2 HP.out.1
      have f1_b:=free3 HP.out.1 1
      have hl_b : st.length + ((10 :: indL (lv + 1)) : List UInt8).length ≤ 1000000000:=by have:=HTL.out; have:=congrArg List.length HEQ1.out; simp only [List.length_append,List.length_cons] at this ⊢; omega
      (try simp only [List.length_cons,List.length_nil,List.length_append] at hl_b)
      go_upto_region 11 with fail
      have k0_b : ∀ x,Grows w3 x → x.cell? ⟨C,1,none⟩ = some (.string ⟨st.toArray⟩):=fun x hx => (hx.cell (p:=⟨C,1,none⟩) (World.block_lt_of_cell? w3 _ c1_b)).trans c1_b
      refine wp_region_plan (Grows w3) 11 [.reads [0,1,2,3,4,5],.act 6,.reads [7,8,9,10],.act 11] (by kernel_rfl) (by kernel_rfl) (by kernel_rfl) (by kernel_rfl) (by kernel_rfl) (fun _ _ d _ _ h => by cases d <;> exact h) (Grows.self _) ?_
      refine wpPlan_reads ?_
      simp only [pickOps,List.drop_succ_cons,List.drop_zero,List.take_succ_cons,List.take_zero,List.cons_append,List.nil_append]
      repeat (go_big_quiet_step (first | (intro hb; rw [k0_b _ hb]; exact ⟨rfl,rfl⟩)))
      refine wpQuiet_nil ?_
      refine wpPlan_act rfl ?_
      simp only [pickOps,List.drop_succ_cons,List.drop_zero,List.take_succ_cons,List.take_zero,List.cons_append,List.nil_append]
      go_wp2_with fail
      ((with_reducible refine (HIN1.out _).mono ?_))
      rintro e wq ⟨rfl,rfl⟩
      go_wp2_with fail
      refine ⟨fun h => (Grows.self _),?_⟩
      refine wpPlan_reads ?_
      simp only [pickOps,List.drop_succ_cons,List.drop_zero,List.take_succ_cons,List.take_zero,List.cons_append,List.nil_append]
      repeat (go_big_quiet_step (fail))
      refine wpQuiet_nil ?_
      refine wpPlan_act rfl ?_
      simp only [pickOps,List.drop_succ_cons,List.drop_zero,List.take_succ_cons,List.take_zero,List.cons_append,List.nil_append]
      go_wp2_with fail
      refine ⟨fun h => absurd h (by decide),wpPlan_nil ?_⟩
      clear k0_b 
      have HP_b:=Lib.hid ((HP.out.put (st ++ (10 :: indL (lv + 1)))).below (Grows.self _))
      have HK_b:=Lib.hid ((HK.out.setC 1 (.string ⟨(st ++ (10 :: indL (lv + 1))).toArray⟩)).trans (Keep.of (Grows.self _)))
      generalize (w3.setCell ⟨C,1,none⟩ _).drew = w_b at HP_b HK_b ⊢
      clear c0_b c1_b f1_b hl_b
      obtain ⟨s2,hs2⟩ : ∃ z,st ++ (10 :: indL (lv + 1)) = z:=⟨_,rfl⟩
      have Hs2:=Lib.hid hs2
      rw [hs2] at HP_b
      clear hs2
      have HC_c:=Lib.hid (IH.out k ii j1 (lv + 1) s2 w_b hv1.out (by omega) (by rw [hE]; have h1:=HTL.out; have h2:=congrArg List.length HEQ1.out; rw [← Hs2.out]; simp only [List.length_append,List.length_cons,List.length_nil] at h2 ⊢; omega) HP_b.out)
      rw [hE] at HC_c
      rw [show ((lv + 1 : Nat) : Int) = (lv : Int) + 1 by omega] at HC_c
      go_wp2_with fail
      ((with_reducible refine HC_c.out.mono ?_))
      rintro e w_c ⟨rfl,hp_c,hk_c⟩
      have HP_c:=Lib.hid hp_c
      have HK_c:=Lib.hid (HK_b.out.trans hk_c)
      clear hp_c hk_c HC_c
      have HEQ2 : Hid ((s2 ++ E) ++ textP (elemsL (fmtA p d) k lv (M - (q + 1)) (decide (q + 1 = 0)) j1).1 = T):=Lib.hid (by rw [← HEQ1.out,← hRR,show M - (q + 1) = m' by omega,show decide (q + 1 = 0) = false from decide_eq_false (by omega)]; rw [← Hs2.out]; simp only [List.append_assoc,List.cons_append])
      go_wp2_with fail
      go_roundw
      case rel => first | exact ⟨q + 1,j1,s2 ++ E,rfl,by go_num,by omega,HNX,HP_c,HEQ2,HK_c⟩ | exact ⟨_,q + 1,j1,s2 ++ E,rfl,by go_num,by omega,HNX,HP_c,HEQ2,HK_c⟩
      case measure => simp [intOf]; omega
  ·have hlt' : ¬ (q : Int) < (M : Int):=by omega
   have hqM : q = M:=by omega
   subst hqM
   have HEQ0 : Hid (st = T):=Lib.hid (by have:=HEQ.out; rw [Nat.sub_self,elemsL,textP_nil,List.append_nil] at this; exact this)
   have hij : ii = j:=by have:=HX.out; rw [Nat.sub_self,nextN] at this; injection this
   subst hij
   have HTL2 : Hid ((s ++ ([32,123] ++ (EL ++ (endS k lv q ++ [125])))).length ≤ 1000000000):=Lib.hid (by have:=HLN.out; simp only [List.length_append,List.length_cons,List.length_nil] at this ⊢; omega)
   by_cases hno : listB k = true ∨ q = 0
   ·have HEQ1 : Hid (st ++ [125] = s ++ ([32,123] ++ (EL ++ (endS k lv q ++ [125])))):=Lib.hid (by rw [HEQ0.out,← HT.out,← Hs1.out]; unfold endS; rw [if_pos hno]; simp)
    by_cases hz : q = 0
    ·subst hz
     have hz' : ¬ (0 : Int) < ((0 : Nat) : Int):=by omega
     obtain ⟨c0_e,c1_e⟩:=cells2 HP.out.1
     have f1_e:=free3 HP.out.1 1
     have hl_e : st.length + ([125] : List UInt8).length ≤ 1000000000:=by have h1:=HTL2.out; have h2:=congrArg List.length HEQ1.out; simp only [List.length_append,List.length_cons,List.length_nil] at h1 h2 ⊢; omega
     simp only [List.length_cons,List.length_nil] at hl_e
     go_upto_region 16 with fail
     have HP_e:=Lib.hid (HP.out.put (st ++ [125]))
     have HK_e:=Lib.hid (HK.out.setC 1 (.string ⟨(st ++ [125]).toArray⟩))
     generalize w3.setCell ⟨C,1,none⟩ _ = w_e at HP_e HK_e ⊢
     clear c0_e c1_e f1_e hl_e
     obtain ⟨s3,hs3⟩ : ∃ z,st ++ [125] = z:=⟨_,rfl⟩
     have Hs3:=Lib.hid hs3
     rw [hs3] at HP_e
     clear hs3
     go_wp2_with fail
     go_ret
     have hfin : st ++ [125] = s3:=by rw [← Hs3.out]
     exact ⟨rfl,by rw [← HRES.out,← HEQ1.out,hfin]; exact HP_e.out,HK_e.out⟩
    ·have hz' : (0 : Int) < (q : Int):=by omega
     have hkt:=list_yes (k:=k) (by rcases hno with h | h; exact h; exact absurd h hz)
     rcases hkt with k73 | ⟨k73,k80⟩
     all_goals
      have k73n : ((k.toNat : Int) != 73) = !((k.toNat : Int) == 73):=rfl
      have k80n : ((k.toNat : Int) != 80) = !((k.toNat : Int) == 80):=rfl
      obtain ⟨c0_e,c1_e⟩:=cells2 HP.out.1
      have f1_e:=free3 HP.out.1 1
      have hl_e : st.length + ([125] : List UInt8).length ≤ 1000000000:=by have h1:=HTL2.out; have h2:=congrArg List.length HEQ1.out; simp only [List.length_append,List.length_cons,List.length_nil] at h1 h2 ⊢; omega
      simp only [List.length_cons,List.length_nil] at hl_e
      go_upto_region 16 with fail
      have HP_e:=Lib.hid (HP.out.put (st ++ [125]))
      have HK_e:=Lib.hid (HK.out.setC 1 (.string ⟨(st ++ [125]).toArray⟩))
      generalize w3.setCell ⟨C,1,none⟩ _ = w_e at HP_e HK_e ⊢
      clear c0_e c1_e f1_e hl_e
      obtain ⟨s3,hs3⟩ : ∃ z,st ++ [125] = z:=⟨_,rfl⟩
      have Hs3:=Lib.hid hs3
      rw [hs3] at HP_e
      clear hs3
      go_wp2_with fail
      go_ret
      have hfin : st ++ [125] = s3:=by rw [← Hs3.out]
      exact ⟨rfl,by rw [← HRES.out,← HEQ1.out,hfin]; exact HP_e.out,HK_e.out⟩
   ·have hz' : (0 : Int) < (q : Int):=by omega
    have HEQ1 : Hid (st ++ (10 :: indL lv ++ [125]) = s ++ ([32,123] ++ (EL ++ (endS k lv q ++ [125])))):=Lib.hid (by rw [HEQ0.out,← HT.out,← Hs1.out]; unfold endS; rw [if_neg hno]; simp)
    have hkt:=list_no (k:=k) (fun h => hno (.inl h))
    obtain ⟨k73,k80⟩:=hkt
    have k73n : ((k.toNat : Int) != 73) = true:=by rw [bne,k73]; rfl
    have k80n : ((k.toNat : Int) != 80) = true:=by rw [bne,k80]; rfl
    obtain ⟨c0_b,c1_b⟩:=cells2 HP.out.1
    have f1_b:=free3 HP.out.1 1
    have hl_b : st.length + ((10 :: indL lv) : List UInt8).length ≤ 1000000000:=by have h1:=HTL2.out; have h2:=congrArg List.length HEQ1.out; simp only [List.length_append,List.length_cons,List.length_nil] at h1 h2 ⊢; omega
    (try simp only [List.length_cons,List.length_nil,List.length_append] at hl_b)
    go_upto_region 14 with fail
    have k0_b : ∀ x,Grows w3 x → x.cell? ⟨C,1,none⟩ = some (.string ⟨st.toArray⟩):=fun x hx => (hx.cell (p:=⟨C,1,none⟩) (World.block_lt_of_cell? w3 _ c1_b)).trans c1_b
    refine wp_region_plan (Grows w3) 10 [.reads [0,1,2,3,4],.act 5,.reads [6,7,8,9],.act 10] (by kernel_rfl) (by kernel_rfl) (by kernel_rfl) (by kernel_rfl) (by kernel_rfl) (fun _ _ d _ _ h => by cases d <;> exact h) (Grows.self _) ?_
    refine wpPlan_reads ?_
    simp only [pickOps,List.drop_succ_cons,List.drop_zero,List.take_succ_cons,List.take_zero,List.cons_append,List.nil_append]
    repeat (go_big_quiet_step (first | (intro hb; rw [k0_b _ hb]; exact ⟨rfl,rfl⟩)))
    refine wpQuiet_nil ?_
    refine wpPlan_act rfl ?_
    simp only [pickOps,List.drop_succ_cons,List.drop_zero,List.take_succ_cons,List.take_zero,List.cons_append,List.nil_append]
    go_wp2_with fail
    ((with_reducible refine (HIN0.out _).mono ?_))
    rintro e wq ⟨rfl,rfl⟩
    go_wp2_with fail
    refine ⟨fun h => (Grows.self _),?_⟩
    refine wpPlan_reads ?_
    simp only [pickOps,List.drop_succ_cons,List.drop_zero,List.take_succ_cons,List.take_zero,List.cons_append,List.nil_append]
    repeat (go_big_quiet_step (fail))
    refine wpQuiet_nil ?_
    refine wpPlan_act rfl ?_
    simp only [pickOps,List.drop_succ_cons,List.drop_zero,List.take_succ_cons,List.take_zero,List.cons_append,List.nil_append]
    go_wp2_with fail
    refine ⟨fun h => absurd h (by decide),wpPlan_nil ?_⟩
    clear k0_b 
    have HP_b:=Lib.hid ((HP.out.put (st ++ (10 :: indL lv))).below (Grows.self _))
    have HK_b:=Lib.hid ((HK.out.setC 1 (.string ⟨(st ++ (10 :: indL lv)).toArray⟩)).trans (Keep.of (Grows.self _)))
    generalize (w3.setCell ⟨C,1,none⟩ _).drew = w_b at HP_b HK_b ⊢
    clear c0_b c1_b f1_b hl_b
    obtain ⟨s2,hs2⟩ : ∃ z,st ++ (10 :: indL lv) = z:=⟨_,rfl⟩
    have Hs2:=Lib.hid hs2
    rw [hs2] at HP_b
    clear hs2
    obtain ⟨c0_e,c1_e⟩:=cells2 HP_b.out.1
    have f1_e:=free3 HP_b.out.1 1
    have hl_e : s2.length + ([125] : List UInt8).length ≤ 1000000000:=by have h1:=HTL2.out; have h2:=congrArg List.length HEQ1.out; rw [← Hs2.out]; simp only [List.length_append,List.length_cons,List.length_nil] at h1 h2 ⊢; omega
    simp only [List.length_cons,List.length_nil] at hl_e
    go_upto_region 16 with fail
    have HP_e:=Lib.hid (HP_b.out.put (s2 ++ [125]))
    have HK_e:=Lib.hid (HK_b.out.setC 1 (.string ⟨(s2 ++ [125]).toArray⟩))
    generalize w_b.setCell ⟨C,1,none⟩ _ = w_e at HP_e HK_e ⊢
    clear c0_e c1_e f1_e hl_e
    obtain ⟨s3,hs3⟩ : ∃ z,s2 ++ [125] = z:=⟨_,rfl⟩
    have Hs3:=Lib.hid hs3
    rw [hs3] at HP_e
    clear hs3
    go_wp2_with fail
    go_ret
    have hfin : st ++ (10 :: indL lv ++ [125]) = s3:=by rw [← Hs3.out]; rw [← Hs2.out]; simp
    exact ⟨rfl,by rw [← HRES.out,← HEQ1.out,hfin]; exact HP_e.out,HK_e.out⟩
end Go.Proofs.YtoohondkpddmcaaGreatDoor
