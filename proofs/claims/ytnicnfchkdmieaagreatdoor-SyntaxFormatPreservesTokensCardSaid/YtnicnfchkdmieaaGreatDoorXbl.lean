/- Rs Ga Gb -/
import Derived.Test.YtnicnfchkdmieaaGreatDoorXbk
import Derived.Test.YtnicnfchkdmieaaGreatDoorXax
import Derived.Test.YtnicnfchkdmieaaGreatDoorXaz
set_option linter.unusedVariables false
set_option linter.unusedSimpArgs false
namespace Go.Proofs.YtnicnfchkdmieaaGreatDoor
section
open Go.RowKit
attribute [local go_sem] ByteArray.mk_append_mk bs_get bs_cut bs_end
set_option maxRecDepth 100000 in
set_option maxHeartbeats 8000000 in
theorem rvalid_any (p : List Nd) (hps : ∀ t ∈ p,t.str.length ≤ 1048576) (v : Value) (w : World) (hv : NSl w v p) (hl : p.length ≤ 9223372036854775000) :
  Calls Tryz.prog 17 #[v] w fun e w' => e = .returned (.bool (validL p)) ∧ Below w.heap.size w w':=by
 obtain ⟨X,hX⟩ : ∃ X,Hid (validL p = X):=⟨_,Lib.hid rfl⟩
 have HV0:=Lib.hid hv
 have HB0:=Lib.hid (Below.refl w.heap.size w)
 obtain ⟨a,cap,rfl,hc⟩:=hv.1
 rw [hX.out]
 clear hc hv
 by_cases h2 : p.length ≤ 2048
 ·have h2' : ¬ (p.length : Int) > 2048:=by omega
  have HX0 : Hid (vTop p p.length 0 = X):=Lib.hid (by rw [← hX.out]; unfold validL; rw [decide_eq_true h2,Bool.true_and])
  have HEL:=Lib.hid (walk_ok p (by omega) hps 32 1 (by omega) (by omega)).el
  obtain ⟨L,hL⟩ : ∃ L,p.length = L:=⟨_,rfl⟩
  have HL:=Lib.hid hL
  rw [hL] at h2 h2' hl HV0 HX0 ⊢
  clear hL hX
  go_enter Tryz.func17,Tryz.ntmps17
  go_wp2_with fail
  go_loopw [3] (fun x wr => ∃ (f q : Nat),x = .int .i64 q ∧ q ≤ L ∧ L ≤ f + q ∧ Hid (vTop p f q = X) ∧ Hid (NSl wr (.slice a L cap) p) ∧ Hid (Below w.heap.size w wr)) (fun x _ => L - (intOf x).toNat)
  case atStart => exact ⟨L,0,rfl,by omega,by omega,HX0,HV0,HB0⟩
  case round =>
   clear HX0 HV0 HB0
   obtain ⟨f,q,rfl,hq,hf,HX,HV,HB⟩:=hrel
   obtain ⟨w4,rfl⟩ : ∃ y : World,y = wr:=⟨_,rfl⟩
   by_cases hlt : q < L
   ·have hlt' : (q : Int) < (L : Int):=by omega
    have hqp : q < p.length:=by rw [HL.out]; exact hlt
    obtain ⟨f,rfl⟩ : ∃ g,f = g + 1:=⟨f - 1,by omega⟩
    have HXK : Hid (X = match vAny p 32 false 68 q with | none => false | some j => vTop p f j):=Lib.hid (by rw [← HX.out,vTop,if_neg (by rw [HL.out]; omega)] <;> rfl)
    have hne : p ≠ []:=by rintro rfl; simp at hqp
    obtain ⟨⟨a2,cap2,hva,hc⟩,_⟩:=HV.out
    obtain ⟨g,off,hga,_⟩:=hc hne
    have hag : a = some ⟨g,off,none⟩:=by
     injection hva with e1 _ _
     rw [e1,hga]
    subst hag
    obtain ⟨c0,c1,c2,c3⟩:=HV.out.tat q hqp
    obtain ⟨qk,hqk⟩ : ∃ z,p[q].kind = z:=⟨_,rfl⟩
    rw [hqk] at c0
    obtain ⟨ab,hab⟩ : ∃ z,Hid (accB 68 qk = z):=⟨_,Lib.hid rfl⟩
    have HPER : Hid (∀ w,Calls Tryz.prog 39 #[.int .u8 68,.int .i64 qk] w fun e w' => e = .returned (.bool ab) ∧ w = w'):=Lib.hid (fun w => per_is 68 qk ab hab w)
    clear hc hva hga c1 c2 c3 HX
    cases ab with
    | false =>
      have HX2 : Hid (X = false):=Lib.hid (by
       rw [HXK.out]
       have : vAny p 32 false 68 q = none:=by
        rw [vAny,List.getElem?_eq_getElem hqp]
        simp only []
        rw [if_neg (by rw [hqk,hab.out]; simp)]
       rw [this])
      clear HXK
      go_wp2_with fail
      ((with_reducible refine (HPER.out _).mono ?_))
      rintro e w5 ⟨rfl,rfl⟩
      go_wp2_with fail
      go_ret
      rw [HX2.out]
      exact ⟨rfl,HB.out⟩
    | true =>
      have HC : Hid (Calls Tryz.prog 40 #[.slice (some ⟨g,off,none⟩) L cap,.int .i64 q,.int .u8 120,.int .i64 1] w4 (WPost w4 (vAny p 32 false 68 q))):=Lib.hid (HEL.out 68 q _ w4 (by decide) HV.out hqp (by rw [hqk]; exact hab.out))
      unfold WPost at HC
      cases hx : vAny p 32 false 68 q with
      | none =>
        rw [hx] at HC HXK
        have HX2 : Hid (X = false):=HXK
        clear hx HXK
        unfold wI at HC
        go_wp2_with fail
        ((with_reducible refine (HPER.out _).mono ?_))
        rintro e w5 ⟨rfl,rfl⟩
        go_wp2_with fail
        ((with_reducible refine HC.out.mono ?_))
        rintro e w5 ⟨rfl,hb5⟩
        have HB5 : Hid (Below w.heap.size w w5):=Lib.hid (bel_then HB.out (Nat.le_refl _) hb5)
        clear hb5
        go_wp2_with fail
        go_ret
        rw [HX2.out]
        exact ⟨rfl,HB5.out⟩
      | some z =>
        rw [hx] at HC HXK
        have hz:=vAny_good p 32 false 68 q z hx
        rw [HL.out] at hz
        obtain ⟨hz1,hz2⟩:=hz
        have HX5 : Hid (vTop p f z = X):=Lib.hid HXK.out.symm
        clear hx HXK
        unfold wI at HC
        have hz0 : ¬ (z : Int) < 0:=by omega
        go_wp2_with fail
        ((with_reducible refine (HPER.out _).mono ?_))
        rintro e w5 ⟨rfl,rfl⟩
        go_wp2_with fail
        ((with_reducible refine HC.out.mono ?_))
        rintro e w5 ⟨rfl,hb5⟩
        have HB5 : Hid (Below w.heap.size w w5):=Lib.hid (bel_then HB.out (Nat.le_refl _) hb5)
        have HV5:=Lib.hid (HV.out.below hb5)
        clear hb5 HC
        go_wp2_with fail
        go_roundw
        case rel => exact ⟨f,z,rfl,hz2,by omega,HX5,HV5,HB5⟩
        case measure => simp [intOf]; omega
   ·have hlt' : ¬ (q : Int) < (L : Int):=by omega
    have HX5 : Hid (X = true):=Lib.hid (by
     rw [← HX.out]
     cases f with
     | zero => rw [vTop]; exact decide_eq_true (by rw [HL.out]; omega)
     | succ f => rw [vTop,if_pos (by rw [HL.out]; omega)])
    clear HX
    go_wp2_with fail
    go_ret
    rw [HX5.out]
    exact ⟨rfl,HB.out⟩
 ·have h2' : (p.length : Int) > 2048:=by omega
  have HX0 : Hid (X = false):=Lib.hid (by rw [← hX.out]; unfold validL; rw [decide_eq_false h2,Bool.false_and])
  go_enter Tryz.func17,Tryz.ntmps17
  go_wp2_with fail
  go_ret
  rw [HX0.out]
  exact ⟨rfl,HB0.out⟩
theorem rvalid_is (p : List Nd) (hps : ∀ t ∈ p,t.str.length ≤ 1048576) (b : Bool) (H : Hid (validL p = b)) (v : Value) (w : World) (hv : NSl w v p) (hl : p.length ≤ 9223372036854775000) :
  Calls Tryz.prog 17 #[v] w fun e w' => e = .returned (.bool b) ∧ Below w.heap.size w w':=by
 have:=rvalid_any p hps v w hv hl
 rw [H.out] at this
 exact this
end
section
open Go.RowKit
attribute [local go_sem] ByteArray.mk_append_mk bs_get bs_cut bs_end
abbrev prO (v : Value) (s : List UInt8) : Obj:=.cells #[v,.string ⟨s.toArray⟩] 60 (0,0)
theorem NSl.keepC {w w' : World} {C : Nat} {v : Value} {p : List Nd} (h : NSl w v p) (hlt : ∀ g off n c,v = .slice (some ⟨g,off,none⟩) n c → p ≠ [] → g < C) (hk : Keep C w w') : NSl w' v p:=by
 obtain ⟨⟨a,cap,hv,hc⟩,hs⟩:=h
 refine ⟨⟨a,cap,hv,fun hn => ?_⟩,hs⟩
 obtain ⟨b,off,ha,hkk⟩:=hc hn
 have hb:=hlt b off _ _ (by rw [hv,ha]) hn
 refine ⟨b,off,ha,fun i hi => ?_⟩
 obtain ⟨c0,c1,c2,c3⟩:=hkk i hi
 have hbw : b < w.heap.size:=World.block_lt_of_cell? w _ c0
 have e : w'.heap[b]? = w.heap[b]?:=hk.block b hbw (fun e => by injection e with e; omega)
 exact ⟨(World.cell?_of_block (a:=⟨b,off + i * 4,none⟩) e).trans c0,(World.cell?_of_block (a:=⟨b,off + i * 4 + 1,none⟩) e).trans c1,(World.cell?_of_block (a:=⟨b,off + i * 4 + 2,none⟩) e).trans c2,(World.cell?_of_block (a:=⟨b,off + i * 4 + 3,none⟩) e).trans c3⟩
def PrSt (w : World) (C : Nat) (v : Value) (p : List Nd) (s : List UInt8) : Prop:=w.heap[C]? = some (prO v s) ∧ NSl w v p ∧ ∀ g off n c,v = .slice (some ⟨g,off,none⟩) n c → p ≠ [] → g < C
theorem PrSt.below {w w' : World} {C : Nat} {v : Value} {p : List Nd} {s : List UInt8} (h : PrSt w C v p s) (hb : Below w.heap.size w w') : PrSt w' C v p s :=
 ⟨blk_below h.1 hb,h.2.1.below hb,h.2.2⟩
theorem PrSt.put {w : World} {C : Nat} {v : Value} {p : List Nd} {s : List UInt8} (h : PrSt w C v p s) (s' : List UInt8) : PrSt (w.setCell ⟨C,1,none⟩ (.string ⟨s'.toArray⟩)) C v p s' :=
 ⟨(heap_setCell_same w _ 1 _ _ (.string ⟨s'.toArray⟩) h.1).trans rfl,h.2.1.keepC h.2.2 ((Keep.refl C w).setC 1 _),h.2.2⟩
theorem PrSt.lt {w : World} {C : Nat} {v : Value} {p : List Nd} {s : List UInt8} (h : PrSt w C v p s) : C < w.heap.size:=lt_of_block h.1
theorem indent_any (n : Nat) (w : World) (hn : n ≤ 1000) : Calls Tryz.prog 111 #[.int .i64 n] w fun e w' => e = .returned (.string ⟨(indL n).toArray⟩) ∧ w = w':=by
 have HS : Hid (∀ k,indL (k + 1) = indL k ++ [32,32]):=Lib.hid (fun k => by
  unfold indL
  rw [show 2 * (k + 1) = 2 * k + 2 by omega,← List.replicate_append_replicate] <;> rfl)
 have HL:=Lib.hid ind_len
 go_enter Tryz.func111,Tryz.ntmps111
 go_wp2_with fail
 go_loopw [3,4] (fun z i wr => ∃ (k : Nat) (x : List UInt8),z = .string ⟨x.toArray⟩ ∧ i = .int .i64 k ∧ k ≤ n ∧ x.length ≤ 2 * k ∧ Hid (x = indL k) ∧ w = wr) (fun z i _ => n - (intOf i).toNat)
 case atStart => exact ⟨0,[],rfl,rfl,by omega,by simp,Lib.hid rfl,rfl⟩
 case round =>
  obtain ⟨k,x,rfl,rfl,hk,hx,HX,rfl⟩:=hrel
  by_cases hlt : k < n
  ·have hlt' : (k : Int) < (n : Int):=by omega
   go_wp2_with fail
   go_roundw
   case rel => exact ⟨k + 1,x ++ [32,32],by simp,by go_num,by omega,by simp only [List.length_append,List.length_cons,List.length_nil]; omega,Lib.hid (by rw [HX.out,HS.out]),by trivial⟩
   case measure => simp [intOf]; omega
  ·have hkn : k = n:=by omega
   subst hkn
   have hlt' : ¬ (k : Int) < (k : Int):=by omega
   go_wp2_with fail
   go_ret
   exact ⟨by rw [HX.out]; rfl,rfl⟩
end
section
open Go.RowKit
attribute [local go_sem] ByteArray.mk_append_mk bs_get bs_cut bs_end
def ElR (C : Nat) (v : Value) (p : List Nd) (d : Nat) : Prop := ∀ (k : UInt8) (i j lv : Nat) (s : List UInt8) (w : World), vAny p d false k i = some j → lv + d ≤ 300 → s.length + (textP (fmtA p d false k i lv []).1).length ≤ 1000000000 → PrSt w C v p s →
    Calls Tryz.prog 30 #[.pointer (some ⟨C,0,none⟩),.int .i64 i,.int .i64 lv] w fun e w' => e = .returned (.int .i64 j) ∧ PrSt w' C v p (s ++ textP (fmtA p d false k i lv []).1) ∧ Keep C w w'
def BlR (C : Nat) (v : Value) (p : List Nd) (d : Nat) : Prop := ∀ (k : UInt8) (i j lv : Nat) (s : List UInt8) (w : World), blkB k = true → vAny p d true k i = some j → lv + d ≤ 300 → s.length + (textP (fmtA p d true k i lv [32]).1).length ≤ 1000000000 → PrSt w C v p s →
    Calls Tryz.prog 63 #[.pointer (some ⟨C,0,none⟩),.int .i64 i,.int .u8 k.toNat,.int .i64 lv] w fun e w' => e = .returned (.int .i64 j) ∧ PrSt w' C v p (s ++ textP (fmtA p d true k i lv [32]).1) ∧ Keep C w w'
theorem list_u8 (k : UInt8) : listB k = ((k.toNat : Int) == 73 || (k.toNat : Int) == 80):=by
 have : ∀ x : Fin 256,listB (UInt8.ofNat x.val) = (((UInt8.ofNat x.val).toNat : Int) == 73 || ((UInt8.ofNat x.val).toNat : Int) == 80):=by decide +kernel
 have h:=this ⟨k.toNat,k.toNat_lt⟩
 rw [UInt8.ofNat_toNat] at h
 exact h
theorem list_yes {k : UInt8} (h : listB k = true) : ((k.toNat : Int) == 73) = true ∨ (((k.toNat : Int) == 73) = false ∧ ((k.toNat : Int) == 80) = true):=by
 rw [list_u8] at h
 cases h73 : (k.toNat : Int) == 73 with
 | true => exact .inl rfl
 | false => rw [h73] at h; exact .inr ⟨rfl,by simpa using h⟩
theorem list_no {k : UInt8} (h : ¬ listB k = true) : ((k.toNat : Int) == 73) = false ∧ ((k.toNat : Int) == 80) = false:=by
 rw [list_u8] at h
 cases h73 : (k.toNat : Int) == 73 <;> cases h80 : (k.toNat : Int) == 80 <;> simp_all
theorem elems_text {p : List Nd} {d : Nat} {k : UInt8} {lv m : Nat} {first : Bool} {i q : Nat} (hx : vAny p d false k i = some q) :
  textP (elemsL (fmtA p d) k lv (m + 1) first i).1 = textP (elC k first) ++ (elS k lv first ++ (textP (fmtA p d false k i (elV k lv) []).1 ++ textP (elemsL (fmtA p d) k lv m false q).1)):=by
 rw [elemsL]
 simp only [fmt_next p d false k i q _ _ hx]
 rw [textP_app,textP_app,fmt_text p _ _ hx,List.append_assoc]
set_option maxRecDepth 100000 in
set_option maxHeartbeats 16000000 in
theorem rblock_step (C : Nat) (v : Value) (p : List Nd) (d : Nat) (hp : p.length ≤ 1000000) (ih : ElR C v p d) : BlR C v p (d + 1):=by
 intro k i j lv s w hkb hv hlv hlen hst
 have IH:=Lib.hid ih
 unfold ElR at IH
 have HS:=Lib.hid hst
 have HK:=Lib.hid (Keep.refl C w)
 obtain ⟨n,hn,⟨_,_,_,hn0⟩,hx⟩:=bl_node hv
 have hjp:=(vAny_good p (d + 1) true k i j hv).2
 obtain ⟨hip,hpe⟩:=List.getElem?_eq_some_iff.1 hn
 obtain ⟨M,hM⟩ : ∃ M : Nat,n.pos = M:=⟨n.pos.toNat,by omega⟩
 have hMt : n.pos.toNat = M:=by omega
 rw [hMt] at hx
 have HE : Hid (textP (fmtA p (d + 1) true k i lv [32]).1 = [32,123] ++ (textP (elemsL (fmtA p d) k lv M true (i + 1)).1 ++ (endS k lv M ++ [125]))):=Lib.hid (by
  rw [fmtA,hn]
  simp only [hMt]
  rw [textP_cons,textP_app,textP_cons,textP_nil,List.append_nil]
  rfl)
 rw [HE.out] at hlen ⊢
 have HX:=Lib.hid hx
 have hMb : M ≤ 1000000:=by
  have key : ∀ (m i j : Nat),nextN (vAny p d false k) m i = some j → i + m ≤ j:=by
   intro m
   induction m with
   | zero => intro i j h; rw [nextN] at h; injection h with h; omega
   | succ m ih2 =>
     intro i j h
     rw [nextN] at h
     cases hq : vAny p d false k i with
     | none => rw [hq] at h; cases h
     | some q => rw [hq] at h; have:=ih2 q j h; have:=(vAny_good p d false k i q hq).1; omega
  have:=key M (i + 1) j hx
  omega
 obtain ⟨a,cap,rfl,hcc⟩:=hst.2.1.1
 obtain ⟨g,off,rfl,hk⟩:=hcc (by rintro rfl; simp at hip)
 obtain ⟨z0,z1,z2,e3⟩:=hk i hip
 rw [hpe,hM] at e3
 have hip' : (i : Int) < (p.length : Int):=by omega
 obtain ⟨L,hL⟩ : ∃ L,p.length = L:=⟨_,rfl⟩
 rw [hL] at hip' hp hjp HS IH ⊢
 obtain ⟨c0,c1⟩:=cells2 HS.out.1
 have HLN:=Lib.hid hlen
 obtain ⟨EL,hEL⟩ : ∃ z,textP (elemsL (fmtA p d) k lv M true (i + 1)).1 = z:=⟨_,rfl⟩
 have HEL:=Lib.hid hEL
 rw [hEL] at HLN
 have HIN0:=Lib.hid (fun w => indent_any lv w (by omega))
 have HIN1 : Hid (∀ w,Calls Tryz.prog 111 #[.int .i64 ((lv : Int) + 1)] w fun e w' => e = .returned (.string ⟨(indL (lv + 1)).toArray⟩) ∧ w = w'):=Lib.hid (fun w => by
  have h:=indent_any (lv + 1) w (by omega)
  rw [show ((lv + 1 : Nat) : Int) = (lv : Int) + 1 by omega] at h
  exact h)
 rw [hEL]
 obtain ⟨RES,hRES⟩ : ∃ z,s ++ ([32,123] ++ (EL ++ (endS k lv M ++ [125]))) = z:=⟨_,rfl⟩
 have HRES:=Lib.hid hRES
 rw [hRES]
 clear hRES
 clear z0 z1 z2 hcc hk hst hlen hx HE hM hMt hpe hn0 hn hip hv ih hEL
 go_enter Tryz.func63,Tryz.ntmps63
 go_upto_region 3 with fail
 clear e3 c0 c1
 obtain ⟨c0_a,c1_a⟩:=cells2 HS.out.1
 have f1_a:=free3 HS.out.1 1
 have hl_a : s.length + ([32,123] : List UInt8).length ≤ 1000000000:=by have:=HLN.out; simp only [List.length_append,List.length_cons,List.length_nil] at this ⊢; omega
 simp only [List.length_cons,List.length_nil] at hl_a
 go_upto_region 4 with fail
 have HP_a:=Lib.hid (HS.out.put (s ++ [32,123]))
 have HK_a:=Lib.hid (HK.out.setC 1 (.string ⟨(s ++ [32,123]).toArray⟩))
 generalize w.setCell ⟨C,1,none⟩ _ = w_a at HP_a HK_a ⊢
 clear c0_a c1_a f1_a hl_a
 obtain ⟨s1,hs1⟩ : ∃ z,s ++ [32,123] = z:=⟨_,rfl⟩
 have Hs1:=Lib.hid hs1
 rw [hs1] at HP_a
 clear hs1
 obtain ⟨T,hT⟩ : ∃ T,s1 ++ EL = T:=⟨_,rfl⟩
 have HT:=Lib.hid hT
 have HTL : Hid (T.length ≤ 1000000000):=Lib.hid (by
  rw [← hT,← Hs1.out]
  have:=HLN.out
  simp only [List.length_append,List.length_cons,List.length_nil] at this ⊢
  omega)
 clear hT
 go_wp2_with fail
 go_loopw [1,10] (fun x y wr => ∃ (q ii : Nat) (st : List UInt8),x = .int .i64 ii ∧ y = .int .i64 q ∧ q ≤ M ∧ Hid (nextN (vAny p d false k) (M - q) ii = some j) ∧ Hid (PrSt wr C (.slice (some ⟨g,off,none⟩) L cap) p st) ∧ Hid (st ++ textP (elemsL (fmtA p d) k lv (M - q) (decide (q = 0)) ii).1 = T) ∧ Hid (Keep C w wr)) (fun _ y _ => M - (intOf y).toNat)
 case atStart => exact ⟨0,i + 1,s1,by go_num,rfl,by omega,HX,HP_a,Lib.hid (by rw [← HT.out,← HEL.out] <;> rfl),HK_a⟩
 case round =>
  clear HP_a HK_a HX HS HK
  obtain ⟨q,ii,st,rfl,rfl,hq,HX,HP,HEQ,HK⟩:=hrel
  obtain ⟨w3,rfl⟩ : ∃ y : World,y = wr:=⟨_,rfl⟩
  by_cases hlt : q < M
  ·have hlt' : (q : Int) < (M : Int):=by omega
   obtain ⟨m',hMq⟩ : ∃ m',M - q = m' + 1:=⟨M - q - 1,by omega⟩
   have hx2:=HX.out
   rw [hMq,nextN] at hx2
   cases hvx : vAny p d false k ii with
   | none => rw [hvx] at hx2; cases hx2
   | some j1 =>
     rw [hvx] at hx2
     have hv1:=Lib.hid hvx
     have HNX : Hid (nextN (vAny p d false k) (M - (q + 1)) j1 = some j):=Lib.hid (by rw [show M - (q + 1) = m' by omega]; exact hx2)
     obtain ⟨RR,hRR⟩ : ∃ z,textP (elemsL (fmtA p d) k lv m' false j1).1 = z:=⟨_,rfl⟩
     clear hvx hx2 HX
     by_cases hlist : listB k = true
     ·have hkt:=list_yes hlist
      obtain ⟨E,hE⟩ : ∃ z,textP (fmtA p d false k ii lv []).1 = z:=⟨_,rfl⟩
      have hE':=hE
      by_cases hq0 : q = 0
      ·have hq00 : ¬ (0 : Int) < (q : Int):=by omega
       rcases hkt with k73 | ⟨k73,k80⟩
       all_goals
        have HEQ1 : Hid (st ++ (E ++ RR) = T):=Lib.hid (by rw [← HEQ.out,hMq,elems_text hv1.out,hRR]; unfold elC elS elV; simp [hlist,hq0,hE',textP_nil])
        have HC_c:=Lib.hid (IH.out k ii j1 lv st w3 hv1.out (by omega) (by rw [hE]; have h1:=HTL.out; have h2:=congrArg List.length HEQ1.out; simp only [List.length_append,List.length_cons,List.length_nil] at h2 ⊢; omega) HP.out)
        rw [hE] at HC_c
        go_wp2_with fail
        ((with_reducible refine HC_c.out.mono ?_))
        rintro e w_c ⟨rfl,hp_c,hk_c⟩
        have HP_c:=Lib.hid hp_c
        have HK_c:=Lib.hid (HK.out.trans hk_c)
        clear hp_c hk_c HC_c
        have HEQ2 : Hid ((st ++ E) ++ textP (elemsL (fmtA p d) k lv (M - (q + 1)) (decide (q + 1 = 0)) j1).1 = T):=Lib.hid (by rw [← HEQ1.out,← hRR,show M - (q + 1) = m' by omega,show decide (q + 1 = 0) = false from decide_eq_false (by omega)]; simp only [List.append_assoc,List.cons_append])
        go_wp2_with fail
        go_roundw
        case rel => first | exact ⟨q + 1,j1,st ++ E,rfl,by go_num,by omega,HNX,HP_c,HEQ2,HK_c⟩ | exact ⟨_,q + 1,j1,st ++ E,rfl,by go_num,by omega,HNX,HP_c,HEQ2,HK_c⟩
        case measure => simp [intOf]; omega
      ·have hq00 : (0 : Int) < (q : Int):=by omega
       rcases hkt with k73 | ⟨k73,k80⟩
       all_goals
        have HEQ1 : Hid (st ++ ([44,32] ++ (E ++ RR)) = T):=Lib.hid (by rw [← HEQ.out,hMq,elems_text hv1.out,hRR]; unfold elC elS elV; simp [hlist,hq0,hE',textP_cons,textP_nil,cmT,fmtT,punC])
        obtain ⟨c0_b,c1_b⟩:=cells2 HP.out.1
        have f1_b:=free3 HP.out.1 1
        have hl_b : st.length + ([44,32] : List UInt8).length ≤ 1000000000:=by have:=HTL.out; have:=congrArg List.length HEQ1.out; simp only [List.length_append,List.length_cons,List.length_nil] at this ⊢; omega
        simp only [List.length_cons,List.length_nil] at hl_b
        go_upto_region 10 with fail
        have HP_b:=Lib.hid (HP.out.put (st ++ [44,32]))
        have HK_b:=Lib.hid (HK.out.setC 1 (.string ⟨(st ++ [44,32]).toArray⟩))
        generalize w3.setCell ⟨C,1,none⟩ _ = w_b at HP_b HK_b ⊢
        clear c0_b c1_b f1_b hl_b
        obtain ⟨s2,hs2⟩ : ∃ z,st ++ [44,32] = z:=⟨_,rfl⟩
        have Hs2:=Lib.hid hs2
        rw [hs2] at HP_b
        clear hs2
        have HC_c:=Lib.hid (IH.out k ii j1 lv s2 w_b hv1.out (by omega) (by rw [hE]; have h1:=HTL.out; have h2:=congrArg List.length HEQ1.out; rw [← Hs2.out]; simp only [List.length_append,List.length_cons,List.length_nil] at h2 ⊢; omega) HP_b.out)
        rw [hE] at HC_c
        go_wp2_with fail
        ((with_reducible refine HC_c.out.mono ?_))
        rintro e w_c ⟨rfl,hp_c,hk_c⟩
        have HP_c:=Lib.hid hp_c
        have HK_c:=Lib.hid (HK_b.out.trans hk_c)
        clear hp_c hk_c HC_c
        have HEQ2 : Hid ((s2 ++ E) ++ textP (elemsL (fmtA p d) k lv (M - (q + 1)) (decide (q + 1 = 0)) j1).1 = T):=Lib.hid (by rw [← HEQ1.out,← hRR,show M - (q + 1) = m' by omega,show decide (q + 1 = 0) = false from decide_eq_false (by omega)]; rw [← Hs2.out]; simp only [List.append_assoc,List.cons_append])
        go_wp2_with fail
        go_roundw
        case rel => first | exact ⟨q + 1,j1,s2 ++ E,rfl,by go_num,by omega,HNX,HP_c,HEQ2,HK_c⟩ | exact ⟨_,q + 1,j1,s2 ++ E,rfl,by go_num,by omega,HNX,HP_c,HEQ2,HK_c⟩
        case measure => simp [intOf]; omega
     ·have hkt:=list_no hlist
      obtain ⟨k73,k80⟩:=hkt
      obtain ⟨E,hE⟩ : ∃ z,textP (fmtA p d false k ii (lv + 1) []).1 = z:=⟨_,rfl⟩
      have hE':=hE
      have HEQ1 : Hid (st ++ ((10 :: indL (lv + 1)) ++ (E ++ RR)) = T):=Lib.hid (by rw [← HEQ.out,hMq,elems_text hv1.out,hRR]; unfold elC elS elV; simp [hlist,hE',textP_nil])
      obtain ⟨c0_b,c1_b⟩:=cells2 HP.out.1
      have f1_b:=free3 HP.out.1 1
      have hl_b : st.length + ((10 :: indL (lv + 1)) : List UInt8).length ≤ 1000000000:=by have:=HTL.out; have:=congrArg List.length HEQ1.out; simp only [List.length_append,List.length_cons] at this ⊢; omega
      (try simp only [List.length_cons,List.length_nil,List.length_append] at hl_b)
      go_upto_region 11 with fail
      have k0_b : ∀ x,Grows w3 x → x.cell? ⟨C,1,none⟩ = some (.string ⟨st.toArray⟩):=fun x hx => (hx.cell (p:=⟨C,1,none⟩) (World.block_lt_of_cell? w3 _ c1_b)).trans c1_b
      refine wp_region_plan (Grows w3) 11 [.reads [0,1,2,3,4,5],.act 6,.reads [7,8,9,10],.act 11] (by kernel_rfl) (by kernel_rfl) (by kernel_rfl) (by kernel_rfl) (by kernel_rfl) (fun _ _ d _ _ h => by cases d <;> exact h) (Grows.self _) ?_
      refine wpPlan_reads ?_
      simp only [pickOps,List.drop_succ_cons,List.drop_zero,List.take_succ_cons,List.take_zero,List.cons_append,List.nil_append]
      repeat (go_big_quiet_step (first | (intro hb; rw [k0_b _ hb]; exact ⟨rfl,rfl⟩)))
      refine wpQuiet_nil ?_
      refine wpPlan_act rfl ?_
      simp only [pickOps,List.drop_succ_cons,List.drop_zero,List.take_succ_cons,List.take_zero,List.cons_append,List.nil_append]
      go_wp2_with fail
      ((with_reducible refine (HIN1.out _).mono ?_))
      rintro e wq ⟨rfl,rfl⟩
      go_wp2_with fail
      refine ⟨fun h => (Grows.self _),?_⟩
      refine wpPlan_reads ?_
      simp only [pickOps,List.drop_succ_cons,List.drop_zero,List.take_succ_cons,List.take_zero,List.cons_append,List.nil_append]
      repeat (go_big_quiet_step (fail))
      refine wpQuiet_nil ?_
      refine wpPlan_act rfl ?_
      simp only [pickOps,List.drop_succ_cons,List.drop_zero,List.take_succ_cons,List.take_zero,List.cons_append,List.nil_append]
      go_wp2_with fail
      refine ⟨fun h => absurd h (by decide),wpPlan_nil ?_⟩
      clear k0_b 
      have HP_b:=Lib.hid ((HP.out.put (st ++ (10 :: indL (lv + 1)))).below (Grows.self _))
      have HK_b:=Lib.hid ((HK.out.setC 1 (.string ⟨(st ++ (10 :: indL (lv + 1))).toArray⟩)).trans (Keep.of (Grows.self _)))
      generalize (w3.setCell ⟨C,1,none⟩ _).drew = w_b at HP_b HK_b ⊢
      clear c0_b c1_b f1_b hl_b
      obtain ⟨s2,hs2⟩ : ∃ z,st ++ (10 :: indL (lv + 1)) = z:=⟨_,rfl⟩
      have Hs2:=Lib.hid hs2
      rw [hs2] at HP_b
      clear hs2
      have HC_c:=Lib.hid (IH.out k ii j1 (lv + 1) s2 w_b hv1.out (by omega) (by rw [hE]; have h1:=HTL.out; have h2:=congrArg List.length HEQ1.out; rw [← Hs2.out]; simp only [List.length_append,List.length_cons,List.length_nil] at h2 ⊢; omega) HP_b.out)
      rw [hE] at HC_c
      rw [show ((lv + 1 : Nat) : Int) = (lv : Int) + 1 by omega] at HC_c
      go_wp2_with fail
      ((with_reducible refine HC_c.out.mono ?_))
      rintro e w_c ⟨rfl,hp_c,hk_c⟩
      have HP_c:=Lib.hid hp_c
      have HK_c:=Lib.hid (HK_b.out.trans hk_c)
      clear hp_c hk_c HC_c
      have HEQ2 : Hid ((s2 ++ E) ++ textP (elemsL (fmtA p d) k lv (M - (q + 1)) (decide (q + 1 = 0)) j1).1 = T):=Lib.hid (by rw [← HEQ1.out,← hRR,show M - (q + 1) = m' by omega,show decide (q + 1 = 0) = false from decide_eq_false (by omega)]; rw [← Hs2.out]; simp only [List.append_assoc,List.cons_append])
      go_wp2_with fail
      go_roundw
      case rel => first | exact ⟨q + 1,j1,s2 ++ E,rfl,by go_num,by omega,HNX,HP_c,HEQ2,HK_c⟩ | exact ⟨_,q + 1,j1,s2 ++ E,rfl,by go_num,by omega,HNX,HP_c,HEQ2,HK_c⟩
      case measure => simp [intOf]; omega
  ·have hlt' : ¬ (q : Int) < (M : Int):=by omega
   have hqM : q = M:=by omega
   subst hqM
   have HEQ0 : Hid (st = T):=Lib.hid (by have:=HEQ.out; rw [Nat.sub_self,elemsL,textP_nil,List.append_nil] at this; exact this)
   have hij : ii = j:=by have:=HX.out; rw [Nat.sub_self,nextN] at this; injection this
   subst hij
   have HTL2 : Hid ((s ++ ([32,123] ++ (EL ++ (endS k lv q ++ [125])))).length ≤ 1000000000):=Lib.hid (by have:=HLN.out; simp only [List.length_append,List.length_cons,List.length_nil] at this ⊢; omega)
   by_cases hno : listB k = true ∨ q = 0
   ·have HEQ1 : Hid (st ++ [125] = s ++ ([32,123] ++ (EL ++ (endS k lv q ++ [125])))):=Lib.hid (by rw [HEQ0.out,← HT.out,← Hs1.out]; unfold endS; rw [if_pos hno]; simp)
    by_cases hz : q = 0
    ·subst hz
     have hz' : ¬ (0 : Int) < ((0 : Nat) : Int):=by omega
     obtain ⟨c0_e,c1_e⟩:=cells2 HP.out.1
     have f1_e:=free3 HP.out.1 1
     have hl_e : st.length + ([125] : List UInt8).length ≤ 1000000000:=by have h1:=HTL2.out; have h2:=congrArg List.length HEQ1.out; simp only [List.length_append,List.length_cons,List.length_nil] at h1 h2 ⊢; omega
     simp only [List.length_cons,List.length_nil] at hl_e
     go_upto_region 16 with fail
     have HP_e:=Lib.hid (HP.out.put (st ++ [125]))
     have HK_e:=Lib.hid (HK.out.setC 1 (.string ⟨(st ++ [125]).toArray⟩))
     generalize w3.setCell ⟨C,1,none⟩ _ = w_e at HP_e HK_e ⊢
     clear c0_e c1_e f1_e hl_e
     obtain ⟨s3,hs3⟩ : ∃ z,st ++ [125] = z:=⟨_,rfl⟩
     have Hs3:=Lib.hid hs3
     rw [hs3] at HP_e
     clear hs3
     go_wp2_with fail
     go_ret
     have hfin : st ++ [125] = s3:=by rw [← Hs3.out]
     exact ⟨rfl,by rw [← HRES.out,← HEQ1.out,hfin]; exact HP_e.out,HK_e.out⟩
    ·have hz' : (0 : Int) < (q : Int):=by omega
     have hkt:=list_yes (k:=k) (by rcases hno with h | h; exact h; exact absurd h hz)
     rcases hkt with k73 | ⟨k73,k80⟩
     all_goals
      have k73n : ((k.toNat : Int) != 73) = !((k.toNat : Int) == 73):=rfl
      have k80n : ((k.toNat : Int) != 80) = !((k.toNat : Int) == 80):=rfl
      obtain ⟨c0_e,c1_e⟩:=cells2 HP.out.1
      have f1_e:=free3 HP.out.1 1
      have hl_e : st.length + ([125] : List UInt8).length ≤ 1000000000:=by have h1:=HTL2.out; have h2:=congrArg List.length HEQ1.out; simp only [List.length_append,List.length_cons,List.length_nil] at h1 h2 ⊢; omega
      simp only [List.length_cons,List.length_nil] at hl_e
      go_upto_region 16 with fail
      have HP_e:=Lib.hid (HP.out.put (st ++ [125]))
      have HK_e:=Lib.hid (HK.out.setC 1 (.string ⟨(st ++ [125]).toArray⟩))
      generalize w3.setCell ⟨C,1,none⟩ _ = w_e at HP_e HK_e ⊢
      clear c0_e c1_e f1_e hl_e
      obtain ⟨s3,hs3⟩ : ∃ z,st ++ [125] = z:=⟨_,rfl⟩
      have Hs3:=Lib.hid hs3
      rw [hs3] at HP_e
      clear hs3
      go_wp2_with fail
      go_ret
      have hfin : st ++ [125] = s3:=by rw [← Hs3.out]
      exact ⟨rfl,by rw [← HRES.out,← HEQ1.out,hfin]; exact HP_e.out,HK_e.out⟩
   ·have hz' : (0 : Int) < (q : Int):=by omega
    have HEQ1 : Hid (st ++ (10 :: indL lv ++ [125]) = s ++ ([32,123] ++ (EL ++ (endS k lv q ++ [125])))):=Lib.hid (by rw [HEQ0.out,← HT.out,← Hs1.out]; unfold endS; rw [if_neg hno]; simp)
    have hkt:=list_no (k:=k) (fun h => hno (.inl h))
    obtain ⟨k73,k80⟩:=hkt
    have k73n : ((k.toNat : Int) != 73) = true:=by rw [bne,k73]; rfl
    have k80n : ((k.toNat : Int) != 80) = true:=by rw [bne,k80]; rfl
    obtain ⟨c0_b,c1_b⟩:=cells2 HP.out.1
    have f1_b:=free3 HP.out.1 1
    have hl_b : st.length + ((10 :: indL lv) : List UInt8).length ≤ 1000000000:=by have h1:=HTL2.out; have h2:=congrArg List.length HEQ1.out; simp only [List.length_append,List.length_cons,List.length_nil] at h1 h2 ⊢; omega
    (try simp only [List.length_cons,List.length_nil,List.length_append] at hl_b)
    go_upto_region 14 with fail
    have k0_b : ∀ x,Grows w3 x → x.cell? ⟨C,1,none⟩ = some (.string ⟨st.toArray⟩):=fun x hx => (hx.cell (p:=⟨C,1,none⟩) (World.block_lt_of_cell? w3 _ c1_b)).trans c1_b
    refine wp_region_plan (Grows w3) 10 [.reads [0,1,2,3,4],.act 5,.reads [6,7,8,9],.act 10] (by kernel_rfl) (by kernel_rfl) (by kernel_rfl) (by kernel_rfl) (by kernel_rfl) (fun _ _ d _ _ h => by cases d <;> exact h) (Grows.self _) ?_
    refine wpPlan_reads ?_
    simp only [pickOps,List.drop_succ_cons,List.drop_zero,List.take_succ_cons,List.take_zero,List.cons_append,List.nil_append]
    repeat (go_big_quiet_step (first | (intro hb; rw [k0_b _ hb]; exact ⟨rfl,rfl⟩)))
    refine wpQuiet_nil ?_
    refine wpPlan_act rfl ?_
    simp only [pickOps,List.drop_succ_cons,List.drop_zero,List.take_succ_cons,List.take_zero,List.cons_append,List.nil_append]
    go_wp2_with fail
    ((with_reducible refine (HIN0.out _).mono ?_))
    rintro e wq ⟨rfl,rfl⟩
    go_wp2_with fail
    refine ⟨fun h => (Grows.self _),?_⟩
    refine wpPlan_reads ?_
    simp only [pickOps,List.drop_succ_cons,List.drop_zero,List.take_succ_cons,List.take_zero,List.cons_append,List.nil_append]
    repeat (go_big_quiet_step (fail))
    refine wpQuiet_nil ?_
    refine wpPlan_act rfl ?_
    simp only [pickOps,List.drop_succ_cons,List.drop_zero,List.take_succ_cons,List.take_zero,List.cons_append,List.nil_append]
    go_wp2_with fail
    refine ⟨fun h => absurd h (by decide),wpPlan_nil ?_⟩
    clear k0_b 
    have HP_b:=Lib.hid ((HP.out.put (st ++ (10 :: indL lv))).below (Grows.self _))
    have HK_b:=Lib.hid ((HK.out.setC 1 (.string ⟨(st ++ (10 :: indL lv)).toArray⟩)).trans (Keep.of (Grows.self _)))
    generalize (w3.setCell ⟨C,1,none⟩ _).drew = w_b at HP_b HK_b ⊢
    clear c0_b c1_b f1_b hl_b
    obtain ⟨s2,hs2⟩ : ∃ z,st ++ (10 :: indL lv) = z:=⟨_,rfl⟩
    have Hs2:=Lib.hid hs2
    rw [hs2] at HP_b
    clear hs2
    obtain ⟨c0_e,c1_e⟩:=cells2 HP_b.out.1
    have f1_e:=free3 HP_b.out.1 1
    have hl_e : s2.length + ([125] : List UInt8).length ≤ 1000000000:=by have h1:=HTL2.out; have h2:=congrArg List.length HEQ1.out; rw [← Hs2.out]; simp only [List.length_append,List.length_cons,List.length_nil] at h1 h2 ⊢; omega
    simp only [List.length_cons,List.length_nil] at hl_e
    go_upto_region 16 with fail
    have HP_e:=Lib.hid (HP_b.out.put (s2 ++ [125]))
    have HK_e:=Lib.hid (HK_b.out.setC 1 (.string ⟨(s2 ++ [125]).toArray⟩))
    generalize w_b.setCell ⟨C,1,none⟩ _ = w_e at HP_e HK_e ⊢
    clear c0_e c1_e f1_e hl_e
    obtain ⟨s3,hs3⟩ : ∃ z,s2 ++ [125] = z:=⟨_,rfl⟩
    have Hs3:=Lib.hid hs3
    rw [hs3] at HP_e
    clear hs3
    go_wp2_with fail
    go_ret
    have hfin : st ++ (10 :: indL lv ++ [125]) = s3:=by rw [← Hs3.out]; rw [← Hs2.out]; simp
    exact ⟨rfl,by rw [← HRES.out,← HEQ1.out,hfin]; exact HP_e.out,HK_e.out⟩
end
end Go.Proofs.YtnicnfchkdmieaaGreatDoor
