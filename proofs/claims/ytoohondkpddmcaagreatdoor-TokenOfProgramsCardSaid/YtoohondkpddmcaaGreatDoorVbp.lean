/- Gd Pc -/
import Derived.Test.YtoohondkpddmcaaGreatDoorVbo
import Derived.Test.YtoohondkpddmcaaGreatDoorVbb
set_option linter.unusedVariables false
set_option linter.unusedSimpArgs false
namespace Go.Proofs.YtoohondkpddmcaaGreatDoor
section
open Go.RowKit
attribute [local go_sem] ByteArray.mk_append_mk bs_get bs_cut bs_end
theorem fmtR_ok (C : Nat) (v : Value) (p : List Nd) (hp : p.length ≤ 1000000) (hps : ∀ t ∈ p,t.str.length ≤ 65536) (hnum : NumsOk p) : ∀ d,ElR C v p d ∧ BlR C v p d
 | 0 => ⟨fun k i j lv s w h => (by rw [vAny] at h; cases h),fun k i j lv s w hk h => (by rw [vAny] at h; cases h)⟩
 | d + 1 => by
   obtain ⟨h1,h2⟩:=fmtR_ok C v p hp hps hnum d
   exact ⟨rnode_step C v p d hp hps hnum h1 h2,rblock_step C v p d hp h1⟩
def topT (p : List Nd) : Nat → Nat → List UInt8
 | 0,_ => []
 | f + 1,i => if p.length ≤ i then [] else textP (fmtA p 32 false 68 i 0 []).1 ++ (10 :: topT p f (fmtA p 32 false 68 i 0 []).2)
theorem topT_more (p : List Nd) : ∀ (f i : Nat),vTop p f i = true → textP (topE p f false i) ++ [10] = 10 :: topT p f i
 | 0,i,h => by rw [topE,topT]; rfl
 | f + 1,i,h => by
   rw [topE,topT]
   split
   ·rfl
   ·next hlt =>
    rw [vTop,if_neg hlt] at h
    cases hx : vAny p 32 false 68 i with
    | none => rw [hx] at h; cases h
    | some q =>
      rw [hx] at h
      simp only [] at h
      rw [fmt_next p 32 false 68 i q _ _ hx,fmt_next p 32 false 68 i q _ _ hx,textP_app,List.append_assoc,topT_more p f q h,fmt_text p _ _ hx]
      rfl
theorem fmtP_top (p : List Nd) (hv : validL p = true) : topT p p.length 0 = fmtP p:=by
 unfold validL at hv
 rw [Bool.and_eq_true] at hv
 have hv:=hv.2
 unfold fmtP tailL
 cases p with
 | nil => rfl
 | cons a r =>
   rw [if_neg (by simp)]
   rw [List.length_cons] at hv ⊢
   rw [topE,topT,if_neg (by simp),if_neg (by simp),if_pos rfl]
   rw [vTop,if_neg (by simp)] at hv
   cases hx : vAny (a :: r) 32 false 68 0 with
   | none => rw [hx] at hv; cases hv
   | some q =>
     rw [hx] at hv
     simp only [] at hv
     rw [fmt_next (a :: r) 32 false 68 0 q _ _ hx,textP_app,List.append_assoc,topT_more (a :: r) _ q hv]
set_option maxRecDepth 100000 in
set_option maxHeartbeats 8000000 in
theorem rformat_any (p : List Nd) (v : Value) (w : World) (hv : NSl w v p) (hps : ∀ t ∈ p,t.str.length ≤ 65536) (hnum : NumsOk p) (hval : validL p = true) :
  Calls Tryz.prog 10 #[v] w fun e w' => e = .returned (.string ⟨(fmtP p).toArray⟩) ∧ Below w.heap.size w w':=by
 have HV:=Lib.hid hv
 have hpl : p.length ≤ 1000000:=by
  have h:=hval
  unfold validL at h
  simp only [Bool.and_eq_true,decide_eq_true_eq] at h
  omega
 have HVA:=Lib.hid (rvalid_is p (fun t ht => Nat.le_trans (hps t ht) (by decide)) true (Lib.hid hval) v w hv (by omega))
 have HVT0 : Hid (vTop p p.length 0 = true):=Lib.hid (by unfold validL at hval; rw [Bool.and_eq_true] at hval; exact hval.2)
 obtain ⟨T,hT⟩ : ∃ T,fmtP p = T:=⟨_,rfl⟩
 have HTL : Hid (T.length ≤ 1000000000):=Lib.hid (by rw [← hT]; have:=fmtP_ln p hnum hps hval; omega)
 have HT0 : Hid (topT p p.length 0 = T):=Lib.hid (by rw [fmtP_top p hval,hT])
 have HFR:=Lib.hid (fun C => (fmtR_ok C v p hpl hps hnum 32).1)
 unfold ElR at HFR
 rw [hT]
 obtain ⟨a,cap,rfl,hc⟩:=hv.1
 obtain ⟨L,hL⟩ : ∃ L,p.length = L:=⟨_,rfl⟩
 have HL:=Lib.hid hL
 rw [hL] at HV HVA HVT0 HT0 HFR hpl ⊢
 have HLT : Hid (∀ g off n c,Value.slice a L cap = .slice (some ⟨g,off,none⟩) n c → p ≠ [] → g < w.heap.size):=Lib.hid (by
  intro g off n c e hne
  injection e with e1 _ _
  obtain ⟨b,o,hb,hk⟩:=hc hne
  rw [e1] at hb
  injection hb with hb
  injection hb with h1 h2 _
  subst h1 h2
  exact World.block_lt_of_cell? w _ (hk 0 (List.length_pos_iff.2 hne)).1)
 clear hc hv hval hT hL hps hnum
 go_enter Tryz.func10,Tryz.ntmps10
 go_wp2_with fail
 ((with_reducible refine HVA.out.mono ?_))
 rintro e w1 ⟨rfl,hb1⟩
 have hsz1 : w.heap.size ≤ w1.heap.size:=hb1.size
 have hal : Below w1.heap.size w1 (w1.alloc (prO (.slice a L cap) [])):=(Below.refl _ _).alloc (Nat.le_refl _) _
 have HB1:=Lib.hid hb1
 have HB2 : Hid (Below w.heap.size w (w1.alloc (prO (.slice a L cap) []))):=Lib.hid (bel_then hb1 (Nat.le_refl _) hal)
 have HV2:=Lib.hid (HV.out.below HB2.out)
 have HP2 : Hid (PrSt (w1.alloc (prO (.slice a L cap) [])) w1.heap.size (.slice a L cap) p []):=Lib.hid ⟨heap_alloc_new _ _,HV2.out,fun g off n c e hne => Nat.lt_of_lt_of_le (HLT.out g off n c e hne) hsz1⟩
 clear hb1 hal HVA HV2
 go_upto_region 4 with fail
 obtain ⟨C,hC⟩ : ∃ C,w1.heap.size = C:=⟨_,rfl⟩
 rw [hC] at HP2 hsz1
 (try simp only [hC])
 generalize w1.alloc (prO (.slice a L cap) []) = W at HP2 HB2 ⊢
 clear hC
 have HK2:=Lib.hid (Keep.refl C W)
 have hsz2 : w.heap.size ≤ W.heap.size:=HB2.out.size
 go_wp2_with fail
 go_loopw [4] (fun x wr => ∃ (f ii : Nat) (st : List UInt8),x = .int .i64 ii ∧ ii ≤ L ∧ L ≤ f + ii ∧ Hid (vTop p f ii = true) ∧ Hid (PrSt wr C (.slice a L cap) p st) ∧ Hid (st ++ topT p f ii = T) ∧ Hid (Keep C W wr)) (fun x _ => L - (intOf x).toNat)
 case atStart => exact ⟨L,0,[],rfl,by omega,by omega,HVT0,HP2,HT0,HK2⟩
 case round =>
  clear HVT0 HP2 HT0 HK2
  obtain ⟨f,ii,st,rfl,hi,hf,HVT,HP,HEQ,HK⟩:=hrel
  obtain ⟨w3,rfl⟩ : ∃ y : World,y = wr:=⟨_,rfl⟩
  by_cases hlt : ii < L
  ·have hlt' : (ii : Int) < (L : Int):=by omega
   obtain ⟨f,rfl⟩ : ∃ g,f = g + 1:=⟨f - 1,by omega⟩
   have h1:=HVT.out
   rw [vTop,if_neg (by rw [HL.out]; omega)] at h1
   cases hx : vAny p 32 false 68 ii with
   | none => rw [hx] at h1; cases h1
   | some q =>
     rw [hx] at h1
     have h2:=HEQ.out
     rw [topT,if_neg (by rw [HL.out]; omega),fmt_next p 32 false 68 ii q _ _ hx] at h2
     obtain ⟨E,hE⟩ : ∃ z,textP (fmtA p 32 false 68 ii 0 []).1 = z:=⟨_,rfl⟩
     rw [hE] at h2
     have HEQ1 : Hid (st ++ (E ++ (10 :: topT p f q)) = T):=Lib.hid h2
     obtain ⟨hq1,hq2⟩:=vAny_good p 32 false 68 ii q hx
     rw [HL.out] at hq2
     have HC:=Lib.hid (HFR.out C 68 ii q 0 st w3 hx (by omega) (by rw [hE]; have h1:=HTL.out; have h2:=congrArg List.length HEQ1.out; simp only [List.length_append,List.length_cons] at h1 h2 ⊢; omega) HP.out)
     rw [hE,show ((0 : Nat) : Int) = (0 : Int) from rfl] at HC
     have HVT : Hid (vTop p f q = true):=Lib.hid h1
     clear h1 h2 hx HEQ
     go_wp2_with fail
     ((with_reducible refine HC.out.mono ?_))
     rintro e w5 ⟨rfl,hp5,hk5⟩
     have HP5:=Lib.hid hp5
     have HK5:=Lib.hid (HK.out.trans hk5)
     clear hp5 hk5 HC HP HK
     obtain ⟨s1,hs1⟩ : ∃ z,st ++ E = z:=⟨_,rfl⟩
     rw [hs1] at HP5
     have HS1:=Lib.hid hs1
     clear hs1
     obtain ⟨c0_b,c1_b⟩:=cells2 HP5.out.1
     have f1_b:=free3 HP5.out.1 1
     have hl_b : s1.length + 1 ≤ 1000000000:=by have h1:=HTL.out; have h2:=congrArg List.length HEQ1.out; have h3:=congrArg List.length HS1.out; simp only [List.length_append,List.length_cons,List.length_nil] at h1 h2 h3 ⊢; omega
     have HP_b:=Lib.hid (HP5.out.put (s1 ++ [10]))
     have HK_b:=Lib.hid (HK5.out.setC 1 (.string ⟨(s1 ++ [10]).toArray⟩))
     have HEQ2 : Hid (s1 ++ [10] ++ topT p f q = T):=Lib.hid (by rw [← HEQ1.out,← HS1.out]; simp)
     go_wp2_with fail
     go_roundw
     case rel => first | exact ⟨f,q,s1 ++ [10],rfl,by omega,by omega,HVT,HP_b,HEQ2,HK_b⟩ | exact ⟨_,f,q,s1 ++ [10],rfl,by omega,by omega,HVT,HP_b,HEQ2,HK_b⟩
     case measure => simp [intOf]; omega
  ·have hlt' : ¬ (ii : Int) < (L : Int):=by omega
   have HFN : Hid (st = T):=Lib.hid (by
    have h2:=HEQ.out
    have hz : topT p f ii = []:=by
     cases f with
     | zero => rw [topT]
     | succ f => rw [topT,if_pos (by rw [HL.out]; omega)]
    rw [hz,List.append_nil] at h2
    exact h2)
   obtain ⟨c0,c1⟩:=cells2 HP.out.1
   go_wp2_with fail
   go_ret
   exact ⟨by rw [← HFN.out]; rfl,HB2.out.trans (HK.out.below hsz2 hsz1)⟩
end
section
open Go.RowKit
attribute [local go_sem] ByteArray.mk_append_mk bs_get bs_cut bs_end
theorem seg_keep (C : Nat) (n : Int) (w : World) (h : CSt w C) :
  Calls Tryz.prog 57 #[.int .i64 n] w fun e w' => ∃ s : List UInt8,e = .returned (.string ⟨s.toArray⟩) ∧ s.length ≤ 4 ∧ CSt w' C ∧ Keep C w w' :=
 (seg_any n w).mono fun e w' ⟨s,h1,h2,h3⟩ => ⟨s,h1,h2,h.keep h3,Keep.of h3⟩
theorem gname_any (C : Nat) (w : World) (h : CSt w C) :
  Calls Tryz.prog 95 #[.pointer (some ⟨C,0,none⟩)] w fun e w' => ∃ s : List UInt8,e = .returned (.string ⟨s.toArray⟩) ∧ s.length ≤ 5 ∧ CSt w' C ∧ Keep C w w':=by
 have HN:=Lib.hid (next_any C 6 w h (by omega) (by omega))
 clear h
 go_enter Tryz.func95,Tryz.ntmps95
 go_wp2_with fail
 ((with_reducible refine HN.out.mono ?_))
 rintro e w1 ⟨k,rfl,hk,hc1,hk1⟩
 have HN2:=Lib.hid (next_any C 10 w1 hc1 (by omega) (by omega))
 have HK1:=Lib.hid hk1
 have hcs : (((k : Int) == 4) = true) ∨ (((k : Int) == 4) = false ∧ ((k : Int) == 5) = true) ∨ (((k : Int) == 4) = false ∧ ((k : Int) == 5) = false):=by
  cases (k : Int) == 4 <;> cases (k : Int) == 5 <;> simp
 clear hc1 hk1 HN hk
 rcases hcs with t1 | ⟨t1,t2⟩ | ⟨t1,t2⟩
 all_goals
  go_wp2_with fail
  ((with_reducible refine HN2.out.mono ?_))
  rintro e w2 ⟨k2,rfl,hk2,hc2,hkk2⟩
  have HS:=Lib.hid (seg_keep C k2 w2 hc2)
  have HK2:=Lib.hid (HK1.out.trans hkk2)
  clear hc2 hkk2 hk2
  go_wp2_with fail
  ((with_reducible refine HS.out.mono ?_))
  rintro e w3 ⟨s,rfl,hs,hc3,hk3⟩
  have HC3:=Lib.hid hc3
  have HK3:=Lib.hid (HK2.out.trans hk3)
  clear hc3 hk3
  go_wp2_with fail
  go_ret
  exact ⟨_,rfl,by first | omega | (simp only [List.length_append,List.length_cons,List.length_nil]; omega),HC3.out,HK3.out⟩
theorem gnumber_any (C : Nat) (w : World) (h : CSt w C) :
  Calls Tryz.prog 50 #[.pointer (some ⟨C,0,none⟩)] w fun e w' => ∃ n : Int,e = .returned (.int .u64 n) ∧ (0 ≤ n ∧ n ≤ 18446744073709551615) ∧ CSt w' C ∧ Keep C w w':=by
 have HN:=Lib.hid (next_any C 8 w h (by omega) (by omega))
 clear h
 go_enter Tryz.func50,Tryz.ntmps50
 go_wp2_with fail
 ((with_reducible refine HN.out.mono ?_))
 rintro e w1 ⟨k,rfl,hk,hc1,hk1⟩
 have HC1:=Lib.hid hc1
 have HN2:=Lib.hid (next_any C 9 w1 hc1 (by omega) (by omega))
 have HN3:=Lib.hid (next_any C 1073741824 w1 hc1 (by omega) (by omega))
 have HK1:=Lib.hid hk1
 have hcs : (((k : Int) == 6) = true) ∨ (((k : Int) == 6) = false ∧ ((k : Int) == 7) = true) ∨ (((k : Int) == 6) = false ∧ ((k : Int) == 7) = false):=by
  cases (k : Int) == 6 <;> cases (k : Int) == 7 <;> simp
 clear hc1 hk1 HN hk
 rcases hcs with t1 | ⟨t1,t2⟩ | ⟨t1,t2⟩
 ·go_wp2_with fail
  go_ret
  exact ⟨_,rfl,by omega,HC1.out,HK1.out⟩
 ·go_wp2_with fail
  ((with_reducible refine HN3.out.mono ?_))
  rintro e w2 ⟨k2,rfl,hk2,hc2,hkk2⟩
  have HC2:=Lib.hid hc2
  have HK2:=Lib.hid (HK1.out.trans hkk2)
  clear hc2 hkk2
  go_wp2_with fail
  go_ret
  exact ⟨_,rfl,by omega,HC2.out,HK2.out⟩
 ·go_wp2_with fail
  ((with_reducible refine HN2.out.mono ?_))
  rintro e w2 ⟨k2,rfl,hk2,hc2,hkk2⟩
  have HC2:=Lib.hid hc2
  have HK2:=Lib.hid (HK1.out.trans hkk2)
  clear hc2 hkk2
  go_wp2_with fail
  go_ret
  exact ⟨_,rfl,by omega,HC2.out,HK2.out⟩
def KRow (w : World) (B : Nat) (v : Value) (vs : List Value) : Prop:=w.ownsRow B 24 1 v vs.length vs
theorem infoKids : (Tryz.prog.info? 24).map (fun i => (i.zero,i.size,i.bytes)) = some (some (.slice none 0 0),1,24):=by kernel_rfl
theorem KRow.form {w : World} {B : Nat} {v : Value} {vs : List Value} (h : KRow w B v vs) : ∃ a c,v = .slice a vs.length c:=by
 rcases h.2 with ⟨rfl,h0⟩ | ⟨g,cap,cur,rfl,_⟩
 ·exact ⟨none,0,by rw [h0]⟩
 ·exact ⟨_,cap,rfl⟩
theorem KRow.sl {w : World} {B : Nat} {v : Value} {vs : List Value} (h : KRow w B v vs) : KSl w v vs:=by
 rcases h.2 with ⟨rfl,h0⟩ | ⟨g,cap,cur,rfl,_⟩
 ·exact ⟨none,0,by rw [h0],fun hn => absurd (List.eq_nil_of_length_eq_zero h0) hn⟩
 ·exact ⟨_,cap,rfl,fun _ => ⟨g,0,rfl,fun i hi => by rw [World.ownsRow.cellAt h (0 + i) (by omega),Nat.zero_add,List.getElem?_eq_getElem hi]⟩⟩
theorem KRow.below {w w' : World} {B : Nat} {v : Value} {vs : List Value} (h : KRow w B v vs) (hb : Below w.heap.size w w') : KRow w' B v vs:=own_below h hb
theorem KRow.keep {w w' : World} {B C : Nat} {v : Value} {vs : List Value} (h : KRow w B v vs) (hC : CSt w C) (hk : Keep C w w') : KRow w' B v vs:=by
 obtain ⟨a,cap,i,l,hc,_⟩:=hC
 refine own_grown h hk (fun g hg e => ?_)
 injection e with e
 obtain ⟨cur,hcur⟩:=own_type h hg
 rw [← e,hc] at hcur
 injection hcur with hcur
 injection hcur with _ h2 _
 exact absurd h2 (by decide)
theorem KRow.nil (w : World) (B : Nat) : KRow w B (.slice none 0 0) []:=⟨rfl,.inl ⟨rfl,rfl⟩⟩
theorem wpList_append_kid {w : World} {ops : Array Oper} {rest : List Oper} {o : Oper} {a : Act} {Q : Exit → Act → World → Prop} (hgd : o.guard = none) (s x : Operand)
  (ho : o.op = .call { callee:=.builtin .append,args:=#[s,x],argTypes:=#[133,133] })
  (B : Nat) (v : Value) (vs : List Value) (hs : a.eval s = v) (hown : KRow w B v vs) (g : Nat) (t : Value) (ht : t.oneCell' = true)
  (hx : a.eval x = .slice (some ⟨g,0,none⟩) 1 1) (hb : w.heap[g]? = some (.cells #[t] 24 (0,0))) (hlen : vs.length ≤ 100000) (hB : B ≤ w.heap.size)
  (h : ∀ v' w',KRow w' B v' (vs ++ [t]) → w.grownBy w' v.ownBlock → wpList Tryz.prog ops Q rest (a.put o.dst v') w') : wpList Tryz.prog ops Q (o :: rest) a w:=by
 obtain ⟨i0,hi,hz0,hz1,hz2⟩:=info_parts infoKids
 refine wpList_append_own _ hgd s x _ ho B 24 i0 _ 1 24 Tryz.underlying133 hi hz0 hz1 hz2 rfl (by decide) v vs.length _ hs hown ⟨g,0,none⟩ 1 1 [t] hx rfl ?_ ?_ (by unfold maxLen; omega) (by omega) hB ?_
 ·intro j z hj
  match j,hj with
  | 0,hj => cases hj; exact cell_of_row w g 0 _ _ (0,0) hb
 ·intro z hz
  simp only [List.mem_cons,List.not_mem_nil,or_false] at hz
  rw [hz]; exact ht
 ·intro v' w' h1 h2 _
  refine h v' w' ?_ h2
  unfold KRow
  rw [List.length_append]
  exact h1
def GPost (C N : Nat) (w : World) (e : Ending) (w' : World) : Prop:=∃ v,e = .returned v ∧ NV w' w.heap.size N v ∧ CSt w' C ∧ Keep C w w'
theorem GPost.more {C N M : Nat} {w w' : World} {e : Ending} (h : GPost C N w e w') (hN : N ≤ M) : GPost C M w e w':=by
 obtain ⟨v,h1,h2,h3,h4⟩:=h
 exact ⟨v,h1,h2.more hN,h3,h4⟩
theorem NV.one {w : World} {B N : Nat} {v : Value} (h : NV w B N v) : v.oneCell' = true:=by
 obtain ⟨ns,h1,_⟩:=h
 obtain ⟨a,c,rfl⟩:=h1.form
 rfl
def NVs (w : World) (N : Nat) (vs : List Value) : Prop:=∀ v ∈ vs,NV w 0 N v
theorem NVs.keep {w w' : World} {N C : Nat} {vs : List Value} (h : NVs w N vs) (hC : CSt w C) (hk : Keep C w w') : NVs w' N vs:=fun v hv => (h v hv).keep hC hk
theorem NVs.below {w w' : World} {N : Nat} {vs : List Value} (h : NVs w N vs) (hb : Below w.heap.size w w') : NVs w' N vs:=fun v hv => (h v hv).below hb
theorem NVs.nil (w : World) (N : Nat) : NVs w N []:=fun v hv => by cases hv
theorem NVs.snoc {w : World} {N : Nat} {vs : List Value} {v : Value} (h : NVs w N vs) (hv : NV w 0 N v) : NVs w N (vs ++ [v]):=fun x hx => by
 rcases List.mem_append.1 hx with hx | hx
 ·exact h x hx
 ·simp only [List.mem_cons,List.not_mem_nil,or_false] at hx; subst hx; exact hv
theorem NV.grownRow {w w' : World} {B B2 N : Nat} {v kv : Value} {vs : List Value} (h : NV w B N v) (hk : KRow w B2 kv vs) (hg : w.grownBy w' kv.ownBlock) : NV w' B N v:=by
 obtain ⟨ns,h1,h2,h3⟩:=h
 refine ⟨ns,own_grown h1 hg (fun g hv e => ?_),h2,h3⟩
 obtain ⟨cur,hc⟩:=own_type h1 hv
 obtain ⟨cur2,hc2⟩:=own_type hk e
 rw [hc] at hc2
 injection hc2 with hc2
 injection hc2 with _ h2 _
 exact absurd h2 (by decide)
theorem NVs.grownRow {w w' : World} {B2 N : Nat} {us vs : List Value} {kv : Value} (h : NVs w N us) (hk : KRow w B2 kv vs) (hg : w.grownBy w' kv.ownBlock) : NVs w' N us:=fun v hv => (h v hv).grownRow hk hg
theorem NVs.each {w : World} {N : Nat} {vs : List Value} (h : NVs w N vs) : ∀ i (hi : i < vs.length) (h2 : i < (List.replicate vs.length N).length),NV w 0 (List.replicate vs.length N)[i] vs[i]:=fun i hi h2 => by
 rw [List.getElem_replicate]; exact h _ (List.getElem_mem hi)
end
end Go.Proofs.YtoohondkpddmcaaGreatDoor
