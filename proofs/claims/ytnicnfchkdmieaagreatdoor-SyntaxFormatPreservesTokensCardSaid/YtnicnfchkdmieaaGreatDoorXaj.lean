/- Tkr Tks Tkt Tla Mod Tlb Tlc Tld -/
import Derived.Test.YtnicnfchkdmieaaGreatDoorXai
import Derived.Test.YtnicnfchkdmieaaGreatDoorXaa
import Derived.Laws.BitsAllLaws
import Derived.Laws.BitsLemmas
import Derived.IntWalk
set_option linter.unusedVariables false
set_option linter.unusedSimpArgs false
namespace Go.Proofs.YtnicnfchkdmieaaGreatDoor
section
open Go.RowKit
attribute [local go_sem] ByteArray.mk_append_mk bs_get bs_cut bs_end
theorem Toks.alloc {w : World} {B : Nat} {v : Value} {l : List Tok} (h : Toks w B v l) (o : Obj) : Toks (w.alloc o) B v l:=h.below ((Below.refl _ _).alloc (Nat.le_refl _) o)
theorem two_new (w : World) (o o' : Obj) : ((w.alloc o).alloc o').heap[w.heap.size + 1]? = some o':=by
 have:=heap_alloc_new (w.alloc o) o'
 simpa using this
theorem bel_alloc2 {B : Nat} {w w2 : World} (h : Below B w w2) (o o' : Obj) (hB : B ≤ w.heap.size) : Below B w ((w2.alloc o).alloc o'):=by
 have h1:=h.alloc (Nat.le_trans hB h.size) o
 exact h1.alloc (Nat.le_trans hB h1.size) o'
def ScanPost (w : World) (x : List Tok × Nat × Nat) (e : Ending) (w' : World) : Prop :=
 ∃ v,e = .returned (.tuple #[v,.int .i64 x.2.1,.int .i64 x.2.2]) ∧ Toks w' w.heap.size v x.1 ∧ Below w.heap.size w w'
set_option maxRecDepth 100000 in
set_option maxHeartbeats 4000000 in
theorem tScan_any (s : List UInt8) (m : Int) (w : World) (hs : s.length ≤ 4611686018427380000) (hm : w.cell? ⟨3,0,none⟩ = some (.int .i64 m)) :
  Calls Tryz.prog 26 #[.string ⟨s.toArray⟩] w (ScanPost w (scanL s)):=by
 by_cases hl : (65536 : Int) < (s.length : Int)
 ·rw [scanL_long (by omega)]
  go_enter Tryz.func26,Tryz.ntmps26
  go_wp2_with fail
  go_ret3
  exact ⟨_,rfl,Toks.nil _ _,Below.refl _ _⟩
 ·rw [scanL_go (by omega)]
  have hl2 : s.length ≤ 65536:=by omega
  obtain ⟨X,hX⟩ : ∃ X,Hid (scanG s 0 [] = X):=⟨_,Lib.hid rfl⟩
  rw [hX.out]
  have HM:=Lib.hid hm
  clear hm
  have hlt:=World.block_lt_of_cell? w _ HM.out
  have HBZ:=Lib.hid hlt
  clear hlt
  go_enter Tryz.func26,Tryz.ntmps26
  go_wp2_with fail
  go_loopw [6,5] (fun i v wr => ∃ (p : Nat) (l : List Tok),i = .int .i64 p ∧ p ≤ s.length ∧ l.length ≤ p ∧ Hid (X = scanG s p l) ∧ Hid (Toks wr w.heap.size v l) ∧ Hid (Below w.heap.size w wr)) (fun i _ _ => s.length - (intOf i).toNat)
  case atStart => exact ⟨0,[],rfl,by omega,by simp,Lib.hid hX.out.symm,Lib.hid (Toks.nil _ _),Lib.hid (Below.refl _ _)⟩
  case round =>
   obtain ⟨p,l,rfl,hp,hlp,HX,HO,HB⟩:=hrel
   obtain ⟨av,cv,hv⟩:=HO.out.form
   subst hv
   obtain ⟨w1,rfl⟩ : ∃ x : World,x = wr:=⟨_,rfl⟩
   have HM1 : Hid (w1.cell? ⟨3,0,none⟩ = some (.int .i64 m)):=Lib.hid ((HB.out.cell (p:=⟨3,0,none⟩) HBZ.out).trans HM.out)
   have HS:=Lib.hid (tSkip_any s p m w1 hl2 hp HM1.out)
   obtain ⟨q,hq1,hq2,e1,e2⟩:=skip_place s p hp
   unfold skipTup at HS
   rw [e2] at HS
   obtain ⟨b,hb⟩ : ∃ b,Hid ((skipL (s.drop p)).2 = b):=⟨_,Lib.hid rfl⟩
   rw [hb.out] at HS
   have E1:=Lib.hid e1
   have E2:=Lib.hid e2
   clear e1 e2
   cases b
   ·have HX2 : Hid (X = ([],q,2)):=Lib.hid (by rw [HX.out]; exact scanG_open E2.out hb.out)
    clear HX
    go_wp2_with fail
    ((with_reducible refine HS.out.mono ?_))
    rintro e w2 ⟨rfl,rfl⟩
    go_wp2_with fail
    go_ret3
    exact ⟨_,by rw [HX2.out]; rfl,by rw [HX2.out]; exact Toks.nil _ _,HB.out⟩
   ·by_cases hql : q = s.length
    ·have hqb : ((q : Int) == (s.length : Int)) = true:=by rw [beq_iff_eq]; omega
     have HX2 : Hid (X = (l,0,0)):=Lib.hid (by rw [HX.out]; exact scanG_done hb.out (by rw [E1.out]; exact List.drop_eq_nil_of_le (by omega)))
     clear hql HX
     go_wp2_with fail
     ((with_reducible refine HS.out.mono ?_))
     rintro e w2 ⟨rfl,rfl⟩
     go_wp2_with fail
     go_ret3
     exact ⟨_,by rw [HX2.out]; rfl,by rw [HX2.out]; exact HO.out,HB.out⟩
    ·have hqb : ((q : Int) == (s.length : Int)) = false:=by rw [beq_eq_false_iff_ne]; omega
     have hqlt : q < s.length:=by omega
     have HI:=Lib.hid (fun w => tItem_any s q w (by omega) hqlt)
     obtain ⟨o,ho⟩ : ∃ o,Hid (itemL (s.drop q) = o):=⟨_,Lib.hid rfl⟩
     rw [ho.out] at HI
     clear hql
     go_wp2_with fail
     ((with_reducible refine HS.out.mono ?_))
     rintro e w2 ⟨rfl,rfl⟩
     go_wp2_with fail
     ((with_reducible refine (HI.out _).mono ?_))
     rintro e w2 ⟨⟨a,b,d,n,c,rfl,HE⟩,hb2⟩
     have HO2:=Lib.hid (HO.out.below hb2)
     have HB2:=Lib.hid (bel_then HB.out (Nat.le_refl _) hb2)
     clear hb2 HS HI
     unfold tokV
     cases o with
     | none =>
       have HX2 : Hid (X = ([],q,2)):=Lib.hid (by rw [HX.out]; exact scanG_bad E2.out hb.out E1.out hqlt ho.out)
       clear HX HE ho
       simp only [Option.isSome_none]
       go_wp2_with fail
       go_ret3
       refine ⟨_,by rw [HX2.out]; rfl,by rw [HX2.out]; exact Toks.nil _ _,?_⟩
       exact HB2.out.alloc HB2.out.size _
     | some x =>
       obtain ⟨k,v,t,nn⟩:=x
       obtain ⟨rfl,rfl,rfl,rfl⟩:=HE _ rfl
       have hn : 1 ≤ nn ∧ nn ≤ (s.drop q).length:=itemL_le ho.out
       rw [List.length_drop] at hn
       have HX2 : Hid (X = scanG s (q + nn) (l ++ [⟨k,v,c,q⟩])):=Lib.hid (by rw [HX.out]; exact scanG_next hq1 E2.out hb.out E1.out hqlt ho.out)
       clear HX HE ho
       simp only [Option.isSome_some]
       go_wp2_with (at_builtin; refine wpList_append_tok rfl _ _ rfl w.heap.size _ l rfl ((HO2.out.alloc _).alloc _) (w2.heap.size + 1) ⟨k,v,c,q⟩ rfl (two_new _ _ _) (by omega) (bel_alloc2 HB2.out _ _ (Nat.le_refl _)).size ?_; intro v3 w3 ho3 hg; have HO3:=Lib.hid ho3; have HB3:=Lib.hid (Toks.kept ((HO2.out.alloc _).alloc _) (bel_alloc2 HB2.out _ _ (Nat.le_refl _)) hg (bel_alloc2 HB2.out _ _ (Nat.le_refl _)).size (Nat.le_refl _)); clear ho3 hg)
       go_roundw
       case rel => exact ⟨q + nn,l ++ [⟨k,v,c,q⟩],by go_num,by omega,by rw [List.length_append]; simp; omega,HX2,HO3,HB3⟩
       case measure => simp [intOf]; omega
set_option maxRecDepth 100000 in
set_option maxHeartbeats 4000000 in
theorem rScan_any (s : List UInt8) (w : World) (hs : s.length ≤ 4611686018427380000) :
  Calls Tryz.prog 11 #[.string ⟨s.toArray⟩] w (ScanPost w (scanL s)):=by
 by_cases hl : (65536 : Int) < (s.length : Int)
 ·rw [scanL_long (by omega)]
  go_enter Tryz.func11,Tryz.ntmps11
  go_wp2_with fail
  go_ret3
  exact ⟨_,rfl,Toks.nil _ _,Below.refl _ _⟩
 ·rw [scanL_go (by omega)]
  have hl2 : s.length ≤ 65536:=by omega
  obtain ⟨X,hX⟩ : ∃ X,Hid (scanG s 0 [] = X):=⟨_,Lib.hid rfl⟩
  rw [hX.out]
  go_enter Tryz.func11,Tryz.ntmps11
  go_wp2_with fail
  go_loopw [6,5] (fun i v wr => ∃ (p : Nat) (l : List Tok),i = .int .i64 p ∧ p ≤ s.length ∧ l.length ≤ p ∧ Hid (X = scanG s p l) ∧ Hid (Toks wr w.heap.size v l) ∧ Hid (Below w.heap.size w wr)) (fun i _ _ => s.length - (intOf i).toNat)
  case atStart => exact ⟨0,[],rfl,by omega,by simp,Lib.hid hX.out.symm,Lib.hid (Toks.nil _ _),Lib.hid (Below.refl _ _)⟩
  case round =>
   obtain ⟨p,l,rfl,hp,hlp,HX,HO,HB⟩:=hrel
   obtain ⟨av,cv,hv⟩:=HO.out.form
   subst hv
   obtain ⟨w1,rfl⟩ : ∃ x : World,x = wr:=⟨_,rfl⟩
   have HS:=Lib.hid (rSkip_any s p w1 (by omega) hp)
   obtain ⟨q,hq1,hq2,e1,e2⟩:=skip_place s p hp
   unfold skipTup at HS
   rw [e2] at HS
   obtain ⟨b,hb⟩ : ∃ b,Hid ((skipL (s.drop p)).2 = b):=⟨_,Lib.hid rfl⟩
   rw [hb.out] at HS
   have E1:=Lib.hid e1
   have E2:=Lib.hid e2
   clear e1 e2
   cases b
   ·have HX2 : Hid (X = ([],q,2)):=Lib.hid (by rw [HX.out]; exact scanG_open E2.out hb.out)
    clear HX
    go_wp2_with fail
    ((with_reducible refine HS.out.mono ?_))
    rintro e w2 ⟨rfl,rfl⟩
    go_wp2_with fail
    go_ret3
    exact ⟨_,by rw [HX2.out]; rfl,by rw [HX2.out]; exact Toks.nil _ _,HB.out⟩
   ·by_cases hql : q = s.length
    ·have hqb : ((q : Int) == (s.length : Int)) = true:=by rw [beq_iff_eq]; omega
     have HX2 : Hid (X = (l,0,0)):=Lib.hid (by rw [HX.out]; exact scanG_done hb.out (by rw [E1.out]; exact List.drop_eq_nil_of_le (by omega)))
     clear hql HX
     go_wp2_with fail
     ((with_reducible refine HS.out.mono ?_))
     rintro e w2 ⟨rfl,rfl⟩
     go_wp2_with fail
     go_ret3
     exact ⟨_,by rw [HX2.out]; rfl,by rw [HX2.out]; exact HO.out,HB.out⟩
    ·have hqb : ((q : Int) == (s.length : Int)) = false:=by rw [beq_eq_false_iff_ne]; omega
     have hqlt : q < s.length:=by omega
     have HI:=Lib.hid (fun w => rItem_any s q w (by omega) hqlt)
     obtain ⟨o,ho⟩ : ∃ o,Hid (itemL (s.drop q) = o):=⟨_,Lib.hid rfl⟩
     rw [ho.out] at HI
     clear hql
     go_wp2_with fail
     ((with_reducible refine HS.out.mono ?_))
     rintro e w2 ⟨rfl,rfl⟩
     go_wp2_with fail
     ((with_reducible refine (HI.out _).mono ?_))
     rintro e w2 ⟨⟨a,b,d,n,c,rfl,HE0,HE⟩,hb2⟩
     have HO2:=Lib.hid (HO.out.below hb2)
     have HB2:=Lib.hid (bel_then HB.out (Nat.le_refl _) hb2)
     clear hb2 HS HI
     unfold tokV
     cases o with
     | none =>
       have HX2 : Hid (X = ([],q,2)):=Lib.hid (by rw [HX.out]; exact scanG_bad E2.out hb.out E1.out hqlt ho.out)
       obtain rfl:=HE0 rfl
       clear HX HE ho HE0
       go_wp2_with fail
       go_ret3
       refine ⟨_,by rw [HX2.out]; rfl,by rw [HX2.out]; exact Toks.nil _ _,?_⟩
       exact HB2.out.alloc HB2.out.size _
     | some x =>
       obtain ⟨k,v,t,nn⟩:=x
       obtain ⟨rfl,rfl,rfl,rfl,rfl⟩:=HE _ rfl
       have hn : 1 ≤ nn ∧ nn ≤ (s.drop q).length:=itemL_le ho.out
       rw [List.length_drop] at hn
       have HX2 : Hid (X = scanG s (q + nn) (l ++ [⟨k,v,c,q⟩])):=Lib.hid (by rw [HX.out]; exact scanG_next hq1 E2.out hb.out E1.out hqlt ho.out)
       clear HX HE ho HE0
       simp only []
       obtain ⟨z,hz⟩ : ∃ z,q + nn = z:=⟨_,rfl⟩
       rw [hz] at HX2 ⊢
       go_wp2_with (at_builtin; refine wpList_append_tok rfl _ _ rfl w.heap.size _ l rfl ((HO2.out.alloc _).alloc _) (w2.heap.size + 1) ⟨k,v,c,q⟩ rfl (two_new _ _ _) (by omega) (bel_alloc2 HB2.out _ _ (Nat.le_refl _)).size ?_; intro v3 w3 ho3 hg; have HO3:=Lib.hid ho3; have HB3:=Lib.hid (Toks.kept ((HO2.out.alloc _).alloc _) (bel_alloc2 HB2.out _ _ (Nat.le_refl _)) hg (bel_alloc2 HB2.out _ _ (Nat.le_refl _)).size (Nat.le_refl _)); clear ho3 hg)
       go_roundw
       case rel => exact ⟨z,l ++ [⟨k,v,c,q⟩],by go_num,by omega,by rw [List.length_append]; simp; omega,HX2,HO3,HB3⟩
       case measure => simp [intOf]; omega
end
section
open Go.RowKit
attribute [local go_sem] ByteArray.mk_append_mk bs_get bs_cut bs_end
end
section
open Go.RowKit
attribute [local go_sem] ByteArray.mk_append_mk bs_get bs_cut bs_end
theorem scanG_len (s : List UInt8) : ∀ (f p : Nat) (acc : List Tok),acc.length ≤ p → p ≤ s.length → (scanF s f p acc).1.length ≤ s.length
 | 0,p,acc,h,hp => by rw [scanF]; exact Nat.le_trans h hp
 | f + 1,p,acc,h,hp => by
   obtain ⟨q,hq1,hq2,e1,e2⟩:=skip_place s p hp
   unfold scanF
   rw [e2,e1]
   split
   ·simp
   ·split
    ·simp only []; omega
    ·split
     ·simp
     ·next k v t n hi =>
      have hn : 1 ≤ n ∧ n ≤ (s.drop q).length:=itemL_le hi
      rw [List.length_drop] at hn
      exact scanG_len s f (q + n) _ (by rw [List.length_append]; simp; omega) (by omega)
theorem scanL_len (s : List UInt8) : (scanL s).1.length ≤ 65536:=by
 unfold scanL
 split
 ·simp
 ·have:=scanG_len s (s.length + 1) 0 [] (by simp) (by omega)
  omega
end
section
open Go.RowKit
attribute [local go_sem] ByteArray.mk_append_mk bs_get bs_cut bs_end
def hexTab : List UInt8:=[48,49,50,51,52,53,54,55,56,57,65,66,67,68,69,70]
def hexC (d : Nat) : UInt8:=hexTab.getD d 48
def hexP (v : Nat) : List UInt8:=if h : v = 0 then [] else hexP (v / 16) ++ [hexC (v % 16)]
termination_by v
decreasing_by omega
def hexU (v : Nat) : List UInt8:=hexP (v / 16) ++ [hexC (v % 16)]
theorem hexP_zero : hexP 0 = []:=by rw [hexP]; rfl
theorem hexP_pos {v : Nat} (h : v ≠ 0) : hexP v = hexP (v / 16) ++ [hexC (v % 16)]:=by rw [hexP,dif_neg h]
theorem hex_cut (m : Nat) (h : m < 16) : List.take 1 (List.drop m hexTab) = [hexC m]:=by
 have : ∀ m : Fin 16,List.take 1 (List.drop m.val hexTab) = [hexC m.val]:=by decide +kernel
 exact this ⟨m,h⟩
theorem and15 (v : Nat) (h : v ≤ 18446744073709551615) : bits .and .u64 (v : Int) 15 = ((v % 16 : Nat) : Int):=by
 have:=u64_and_nat v 15 (by omega) (by omega)
 rw [show ((15 : Nat) : Int) = 15 from rfl] at this
 rw [this,show (15 : Nat) = 2 ^ 4 - 1 from rfl,Nat.and_two_pow_sub_one_eq_mod]
set_option maxRecDepth 100000 in
set_option maxHeartbeats 4000000 in
theorem hexU_any (v : Nat) (w : World) (hv : Hid (v ≤ 18446744073709551615)) : Calls Tryz.prog 60 #[.int .u64 v] w fun e w' => e = .returned (.string ⟨(hexU v).toArray⟩) ∧ w = w':=by
 obtain ⟨m,hm⟩ : ∃ m,v % 16 = m:=⟨_,rfl⟩
 have hm16 : m < 16:=by omega
 have hand:=and15 v hv.out
 rw [hm] at hand
 have hcut:=hex_cut m hm16
 unfold hexTab at hcut
 obtain ⟨X,hX⟩ : ∃ X,Hid (hexU v = X):=⟨_,Lib.hid rfl⟩
 rw [hX.out]
 have HX : Hid (X = hexP (v / 16) ++ [hexC m]):=Lib.hid (by rw [← hX.out,hexU,hm])
 have HM:=Lib.hid hm
 clear hm
 go_enter Tryz.func60,Tryz.ntmps60
 go_wp2_with fail
 go_loop [0,3] (fun z s => ∃ (n : Nat) (x : List UInt8),z = .int .u64 n ∧ s = .string ⟨x.toArray⟩ ∧ x.length ≤ 16 ∧ 1 ≤ x.length ∧ Hid (n < 16 ^ (16 - x.length)) ∧ Hid (X = hexP n ++ x)) (fun z s => (intOf z).toNat)
 case atStart =>
  refine ⟨v / 16,[hexC m],?_,rfl,by simp,by simp,Lib.hid ?_,HX⟩
  ·simp
  ·have:=hv.out
   simp only [List.length_cons,List.length_nil]
   have e : (16 : Nat) ^ (16 - (0 + 1)) = 1152921504606846976:=by decide
   omega
 case round =>
  clear hand hcut HX
  obtain ⟨n,x,rfl,rfl,hx,hx1,HN,HX⟩:=hrel
  by_cases h0 : (0 : Int) < (n : Int)
  ·have hnb : Hid (n ≤ 1152921504606846976 ∧ x.length < 16):=Lib.hid (by
    have:=HN.out
    have h1 : (16 : Nat) ^ (16 - x.length) ≤ 16 ^ 16:=Nat.pow_le_pow_right (by omega) (by omega)
    by_cases hx16 : x.length = 16
    ·rw [hx16] at this; simp at this; omega
    ·have h2 : (16 : Nat) ^ (16 - x.length) ≤ 16 ^ 15:=Nat.pow_le_pow_right (by omega) (by omega)
     have e : (16 : Nat) ^ 15 = 1152921504606846976:=by decide
     omega)
   obtain ⟨d,hd⟩ : ∃ d,n % 16 = d:=⟨_,rfl⟩
   have hd16 : d < 16:=by omega
   have hand:=and15 n (by have:=hnb.out; omega)
   rw [hd] at hand
   have hcut:=hex_cut d hd16
   unfold hexTab at hcut
   have hxl : x.length < 16:=hnb.out.2
   have HX2 : Hid (X = hexP (n / 16) ++ (hexC d :: x)):=Lib.hid (by rw [HX.out,hexP_pos (by omega),hd,List.append_assoc] <;> rfl)
   have HN2 : Hid (n / 16 < 16 ^ (16 - (hexC d :: x).length)):=Lib.hid (by
    have:=HN.out
    rw [List.length_cons]
    rw [show 16 - x.length = (16 - (x.length + 1)) + 1 by omega,Nat.pow_succ] at this
    omega)
   clear hd hnb HX HN
   go_wp2_with fail
   go_round
   case rel => exact ⟨n / 16,hexC d :: x,by simp,by simp,by simp; omega,by simp,HN2,HX2⟩
   case measure => simp [intOf]; omega
  ·have hx2 : Hid (X = x):=Lib.hid (by rw [HX.out,show n = 0 by omega,hexP_zero] <;> rfl)
   go_wp2_with fail
   go_ret
   exact ⟨by rw [hx2.out]; rfl,rfl⟩
def fmtI (v : Nat) : List UInt8:=if v < 10 then hexU v else 48 :: 120 :: hexU v
theorem hexP_len : ∀ (k v : Nat),v < 16 ^ k → (hexP v).length ≤ k
 | 0,v,h => by
   have : v = 0:=by simp at h; exact h
   subst this; rw [hexP_zero]; simp
 | k + 1,v,h => by
   by_cases h0 : v = 0
   ·subst h0; rw [hexP_zero]; simp
   ·rw [hexP_pos h0,List.length_append]
    have:=hexP_len k (v / 16) (by rw [Nat.pow_succ] at h; omega)
    simp; omega
theorem hexU_len {v : Nat} (h : v ≤ 18446744073709551615) : (hexU v).length ≤ 16:=by
 unfold hexU
 rw [List.length_append]
 have e : (16 : Nat) ^ 15 = 1152921504606846976:=by decide
 have:=hexP_len 15 (v / 16) (by omega)
 simp; omega
theorem fmtI_len {v : Nat} (h : v ≤ 18446744073709551615) : (fmtI v).length ≤ 18:=by
 have:=hexU_len h
 unfold fmtI
 split
 ·omega
 ·simp only [List.length_cons]; omega
set_option maxRecDepth 100000 in
theorem fmtI_any (v : Nat) (w : World) (hv : Hid (v ≤ 18446744073709551615)) : Calls Tryz.prog 36 #[.int .u64 v] w fun e w' => e = .returned (.string ⟨(fmtI v).toArray⟩) ∧ w = w':=by
 have HU:=Lib.hid (hexU_any v w hv)
 have HL:=hexU_len hv.out
 obtain ⟨U,hU⟩ : ∃ U,Hid (hexU v = U):=⟨_,Lib.hid rfl⟩
 rw [hU.out] at HU HL
 obtain ⟨X,hX⟩ : ∃ X,Hid (fmtI v = X):=⟨_,Lib.hid rfl⟩
 rw [hX.out]
 have HX : Hid (X = if v < 10 then U else 48 :: 120 :: U):=Lib.hid (by rw [← hX.out,← hU.out] <;> rfl)
 go_enter Tryz.func36,Tryz.ntmps36
 by_cases h10 : (v : Int) < 10
 ·go_wp2_with fail
  ((with_reducible refine HU.out.mono ?_))
  rintro e w2 ⟨rfl,rfl⟩
  go_wp2_with fail
  go_ret
  exact ⟨by rw [HX.out,if_pos (by omega)]; rfl,rfl⟩
 ·go_wp2_with fail
  ((with_reducible refine HU.out.mono ?_))
  rintro e w2 ⟨rfl,rfl⟩
  go_wp2_with fail
  go_ret
  exact ⟨by rw [HX.out,if_neg (by omega)]; rfl,rfl⟩
def quoC (c : UInt8) : List UInt8 :=
 if c = 34 ∨ c = 92 then [92,c] else if 32 ≤ c.toNat ∧ c.toNat ≤ 126 then [c] else if c.toNat < 16 then 92 :: 120 :: 48 :: hexU c.toNat else 92 :: 120 :: hexU c.toNat
def quoK (v : List UInt8) (k : Nat) : List UInt8:=34 :: (v.take k).flatMap quoC
def quoL (v : List UInt8) : List UInt8:=quoK v v.length ++ [34]
theorem quoK_succ {v : List UInt8} {k : Nat} (h : k < v.length) : quoK v (k + 1) = quoK v k ++ quoC v[k]:=by
 unfold quoK
 rw [List.take_succ_eq_append_getElem h,List.flatMap_append]
 simp
theorem quoC_len (c : UInt8) : (quoC c).length ≤ 19:=by
 have hc:=c.toNat_lt
 have:=hexU_len (v:=c.toNat) (by omega)
 unfold quoC
 split
 ·simp
 ·split
  ·simp
  ·split
   ·simp only [List.length_cons]; omega
   ·simp only [List.length_cons]; omega
theorem byte_cases' (b d : UInt8) (n : Int) (hn : (d.toNat : Int) = n) : (b = d ∧ ((b.toNat : Int) == n) = true) ∨ (b ≠ d ∧ ((b.toNat : Int) == n) = false):=by
 subst hn
 by_cases h : b = d
 ·left; subst h; exact ⟨rfl,by simp⟩
 ·right; exact ⟨h,by rw [beq_eq_false_iff_ne]; intro e; exact h (UInt8.toNat_inj.1 (by omega))⟩
theorem take_one {s : List UInt8} {k : Nat} (h : k < s.length) : List.take 1 (List.drop k s) = [s[k]]:=by
 rw [List.drop_eq_getElem_cons h]; rfl
set_option maxRecDepth 100000 in
set_option maxHeartbeats 4000000 in
theorem quo_any (s : List UInt8) (w : World) (hs : s.length ≤ 1000000) : Calls Tryz.prog 37 #[.string ⟨s.toArray⟩] w fun e w' => e = .returned (.string ⟨(quoL s).toArray⟩) ∧ w = w':=by
 go_enter Tryz.func37,Tryz.ntmps37
 go_wp2_with fail
 go_loop [3,4] (fun z i => ∃ (k : Nat) (x : List UInt8),z = .string ⟨x.toArray⟩ ∧ i = .int .i64 k ∧ k ≤ s.length ∧ x.length ≤ 20 * k + 1 ∧ Hid (x = quoK s k)) (fun z i => s.length - (intOf i).toNat)
 case atStart => exact ⟨0,[34],rfl,rfl,by omega,by simp,Lib.hid rfl⟩
 case round =>
  obtain ⟨k,x,rfl,rfl,hk,hx,HX⟩:=hrel
  by_cases hlt : k < s.length
  ·have HX2 : Hid (x ++ quoC s[k] = quoK s (k + 1)):=Lib.hid (by rw [HX.out,quoK_succ hlt])
   have hcut:=take_one hlt
   have hql:=quoC_len s[k]
   obtain ⟨Q,hQ⟩ : ∃ Q,Hid (quoC s[k] = Q):=⟨_,Lib.hid rfl⟩
   rw [hQ.out] at HX2 hql
   have H34:=Lib.hid (byte_cases' s[k] 34 34 rfl)
   have H92:=Lib.hid (byte_cases' s[k] 92 92 rfl)
   have hQ1 : Hid ((s[k] = 34 ∨ s[k] = 92) → Q = [92,s[k]]):=Lib.hid (fun h => by rw [← hQ.out]; unfold quoC; rw [if_pos h])
   have hQ2 : Hid (s[k] ≠ 34 → s[k] ≠ 92 → Q = if 32 ≤ s[k].toNat ∧ s[k].toNat ≤ 126 then [s[k]] else if s[k].toNat < 16 then 92 :: 120 :: 48 :: hexU s[k].toNat else 92 :: 120 :: hexU s[k].toNat):=Lib.hid (fun h1 h2 => by
    rw [← hQ.out]; unfold quoC; rw [if_neg (by rintro (h | h); exact h1 h; exact h2 h)])
   rcases H34.out with ⟨e1,h34⟩ | ⟨e1,h34⟩
   ·obtain rfl:=hQ1.out (.inl e1)
    clear e1 H34 H92 hQ1 hQ2 hQ
    go_wp2_with fail
    go_round
    case rel => exact ⟨k + 1,x ++ [92,s[k]],by simp,by go_num,by omega,by rw [List.length_append]; omega,HX2⟩
    case measure => simp [intOf]; omega
   rcases H92.out with ⟨e2,h92⟩ | ⟨e2,h92⟩
   ·obtain rfl:=hQ1.out (.inr e2)
    clear e1 e2 H34 H92 hQ1 hQ2 hQ
    go_wp2_with fail
    go_round
    case rel => exact ⟨k + 1,x ++ [92,s[k]],by simp,by go_num,by omega,by rw [List.length_append]; omega,HX2⟩
    case measure => simp [intOf]; omega
   have hQ3:=Lib.hid (hQ2.out e1 e2)
   have hc:=s[k].toNat_lt
   have HU:=Lib.hid (hexU_any s[k].toNat w (Lib.hid (by omega)))
   have hul:=hexU_len (v:=s[k].toNat) (by omega)
   obtain ⟨U,hU⟩ : ∃ U,hexU s[k].toNat = U:=⟨_,rfl⟩
   rw [hU] at hQ3 HU hul
   clear hU e1 e2 H34 H92 hQ1 hQ2 hQ
   by_cases h3 : (32 : Int) ≤ (s[k].toNat : Int)
   ·by_cases h4 : (s[k].toNat : Int) ≤ 126
    ·obtain rfl : Q = [s[k]]:=by rw [hQ3.out,if_pos (by omega)]
     clear hQ3 HU
     go_wp2_with fail
     go_round
     case rel => exact ⟨k + 1,x ++ [s[k]],by simp,by go_num,by omega,by rw [List.length_append]; omega,HX2⟩
     case measure => simp [intOf]; omega
    ·obtain rfl : Q = 92 :: 120 :: U:=by rw [hQ3.out,if_neg (by omega),if_neg (by omega)]
     clear hQ3
     go_wp2_with fail
     ((with_reducible refine HU.out.mono ?_))
     rintro e w2 ⟨rfl,rfl⟩
     go_wp2_with fail
     go_round
     case rel => exact ⟨k + 1,x ++ 92 :: 120 :: U,by simp,by go_num,by omega,by rw [List.length_append]; omega,HX2⟩
     case measure => simp [intOf]; omega
   ·by_cases h5 : (s[k].toNat : Int) < 16
    ·obtain rfl : Q = 92 :: 120 :: 48 :: U:=by rw [hQ3.out,if_neg (by omega),if_pos (by omega)]
     clear hQ3
     go_wp2_with fail
     ((with_reducible refine HU.out.mono ?_))
     rintro e w2 ⟨rfl,rfl⟩
     go_wp2_with fail
     go_round
     case rel => exact ⟨k + 1,x ++ 92 :: 120 :: 48 :: U,by simp,by go_num,by omega,by rw [List.length_append]; omega,HX2⟩
     case measure => simp [intOf]; omega
    ·obtain rfl : Q = 92 :: 120 :: U:=by rw [hQ3.out,if_neg (by omega),if_neg (by omega)]
     clear hQ3
     go_wp2_with fail
     ((with_reducible refine HU.out.mono ?_))
     rintro e w2 ⟨rfl,rfl⟩
     go_wp2_with fail
     go_round
     case rel => exact ⟨k + 1,x ++ 92 :: 120 :: U,by simp,by go_num,by omega,by rw [List.length_append]; omega,HX2⟩
     case measure => simp [intOf]; omega
  ·have hkl : k = s.length:=by omega
   have HX2 : Hid (x ++ [34] = quoL s):=Lib.hid (by unfold quoL; rw [HX.out,hkl])
   subst hkl
   go_wp2_with fail
   go_ret
   exact ⟨by rw [← HX2.out]; rfl,rfl⟩
end
section
open Go.RowKit
def modV (v n : Int) : Int:=(IntKind.u64.wrap v) % n
theorem modV_nonneg (v n : Int) (hn : 0 < n) : 0 ≤ modV v n:=Int.emod_nonneg _ (by omega)
theorem modV_lt (v n : Int) (hn : 0 < n) : modV v n < n:=Int.emod_lt_of_pos _ hn
theorem u64_nonneg (v : Int) : 0 ≤ IntKind.u64.wrap v:=by
 unfold IntKind.wrap
 simp [IntKind.signed,IntKind.bits]
 exact Int.emod_nonneg _ (by decide)
theorem modV_is (v n : Int) (hn : 0 < n) (hn2 : n ≤ 9223372036854775807) : wrap64 ((IntKind.u64.wrap v).tmod n) = modV v n:=by
 have h1:=modV_nonneg v n hn
 have h2:=modV_lt v n hn
 rw [Int.tmod_eq_emod_of_nonneg (u64_nonneg v)]
 exact IntWalk.wrap64_in _ ⟨by unfold modV at *; omega,by unfold modV at *; omega⟩
theorem mod_any (v n : Int) (w : World) (hn : 0 < n) (hn2 : n ≤ 9223372036854775807) : Calls Tryz.prog 14 #[.int .i64 v,.int .i64 n] w fun e w' => e = .returned (.int .i64 (modV v n)) ∧ w = w':=by
 have HM:=Lib.hid (modV_is v n hn hn2)
 have hw1 : IntKind.u64.wrap n = n:=IntWalk.u64_in _ (by omega)
 go_enter Tryz.func14,Tryz.ntmps14
 go_wp2_with fail
 go_ret
 exact ⟨by rw [← HM.out]; rfl,rfl⟩
end
section
open Go.RowKit
attribute [local go_sem] ByteArray.mk_append_mk bs_get bs_cut bs_end
structure TokI where
 kind : Int
 num : Int
 str : List UInt8
 pos : Int
deriving DecidableEq
def TokI.val (t : TokI) : Value:=tokV t.kind t.num t.str t.pos
def Tok.toI (t : Tok) : TokI:=⟨t.kind,t.num,t.str,t.pos⟩
abbrev tObj (a b : Int) (c : List UInt8) (d : Int) : Obj:=.cells #[.int .i64 a,.int .u64 b,.string ⟨c.toArray⟩,.int .i64 d] 37 (0,0)
def bareT (t : TokI) : TokI:=if t.kind = 1 ∨ t.kind = 2 ∨ t.kind = 4 then ⟨t.kind,0,t.str,0⟩ else if t.kind = 3 then ⟨t.kind,t.num,[],0⟩ else ⟨t.kind,0,[],0⟩
end
section
open Go.RowKit
attribute [local go_sem] ByteArray.mk_append_mk bs_get bs_cut bs_end
end
section
open Go.RowKit
attribute [local go_sem] ByteArray.mk_append_mk bs_get bs_cut bs_end
def TAtK (w : World) (b off : Nat) (t : TokI) : Prop:=w.cell? ⟨b,off,none⟩ = some (.int .i64 t.kind) ∧ w.cell? ⟨b,off + 1,none⟩ = some (.int .u64 t.num) ∧ w.cell? ⟨b,off + 2,none⟩ = some (.string ⟨t.str.toArray⟩) ∧ w.cell? ⟨b,off + 3,none⟩ = some (.int .i64 t.pos)
def TSl (w : World) (v : Value) (l : List TokI) : Prop :=
 ∃ (a : Option Addr) (cap : Nat),v = .slice a l.length cap ∧ (l ≠ [] → ∃ b off,a = some ⟨b,off,none⟩ ∧ ∀ i (h : i < l.length),TAtK w b (off + i * 4) l[i])
theorem TAtK.below {w w' : World} {b off : Nat} {t : TokI} (h : TAtK w b off t) (hb : Below w.heap.size w w') : TAtK w' b off t:=by
 obtain ⟨h0,h1,h2,h3⟩:=h
 have hlt : b < w.heap.size:=World.block_lt_of_cell? w ⟨b,off,none⟩ h0
 refine ⟨?_,?_,?_,?_⟩
 ·rw [hb.cell (p:=⟨b,off,none⟩) hlt]; exact h0
 ·rw [hb.cell (p:=⟨b,off + 1,none⟩) hlt]; exact h1
 ·rw [hb.cell (p:=⟨b,off + 2,none⟩) hlt]; exact h2
 ·rw [hb.cell (p:=⟨b,off + 3,none⟩) hlt]; exact h3
theorem TSl.below {w w' : World} {v : Value} {l : List TokI} (h : TSl w v l) (hb : Below w.heap.size w w') : TSl w' v l:=by
 obtain ⟨a,cap,hv,hc⟩:=h
 refine ⟨a,cap,hv,fun hn => ?_⟩
 obtain ⟨b,off,ha,hk⟩:=hc hn
 exact ⟨b,off,ha,fun i hi => (hk i hi).below hb⟩
def tcK : List TokI → List Value
 | [] => []
 | t :: r => .int .i64 t.kind :: .int .u64 t.num :: .string ⟨t.str.toArray⟩ :: .int .i64 t.pos :: tcK r
theorem tcK_tok : ∀ l : List Tok,tcK (l.map Tok.toI) = tokCells l
 | [] => rfl
 | t :: r => by rw [List.map_cons,tcK,tcK_tok r]; rfl
theorem tcK_at : ∀ (l : List TokI) (i : Nat) (h : i < l.length),(tcK l)[i * 4]? = some (.int .i64 l[i].kind) ∧ (tcK l)[i * 4 + 1]? = some (.int .u64 l[i].num) ∧ (tcK l)[i * 4 + 2]? = some (.string ⟨l[i].str.toArray⟩) ∧ (tcK l)[i * 4 + 3]? = some (.int .i64 l[i].pos)
 | t :: r,0,_ => ⟨rfl,rfl,rfl,rfl⟩
 | t :: r,i + 1,h => by
   have:=tcK_at r i (by simpa using h)
   rw [show (i + 1) * 4 = i * 4 + 4 by omega]
   exact this
def ToksI (w : World) (B : Nat) (v : Value) (l : List TokI) : Prop:=w.ownsRow B 37 4 v l.length (tcK l)
theorem ToksI.nil (w : World) (B : Nat) : ToksI w B (.slice none 0 0) []:=⟨rfl,.inl ⟨rfl,rfl⟩⟩
theorem ToksI.below {w w' : World} {B : Nat} {v : Value} {l : List TokI} (h : ToksI w B v l) (hb : Below w.heap.size w w') : ToksI w' B v l:=own_below h hb
theorem ToksI.alloc {w : World} {B : Nat} {v : Value} {l : List TokI} (h : ToksI w B v l) (o : Obj) : ToksI (w.alloc o) B v l:=h.below ((Below.refl _ _).alloc (Nat.le_refl _) o)
theorem ToksI.form {w : World} {B : Nat} {v : Value} {l : List TokI} (h : ToksI w B v l) : ∃ a c,v = .slice a l.length c:=by
 rcases h.2 with ⟨rfl,h0⟩ | ⟨g,cap,cur,rfl,_⟩
 ·exact ⟨none,0,by rw [h0]⟩
 ·exact ⟨_,cap,rfl⟩
theorem ToksI.kept {w w1 w2 : World} {B B0 : Nat} {v : Value} {l : List TokI} (ho : ToksI w1 B v l) (h : Below B0 w w1) (hg : w1.grownBy w2 v.ownBlock) (hB : B0 ≤ w1.heap.size) (hB2 : B0 ≤ B) : Below B0 w w2 :=
 h.grown hg hB (fun k hk => Nat.le_trans hB2 (own_row ho hk))
theorem Toks.toI {w : World} {B : Nat} {v : Value} {l : List Tok} (h : Toks w B v l) : ToksI w B v (l.map Tok.toI):=by
 unfold ToksI
 rw [tcK_tok,List.length_map]
 exact h
theorem ToksI.sl {w : World} {B : Nat} {v : Value} {l : List TokI} (h : ToksI w B v l) : TSl w v l:=by
 obtain ⟨a,c,rfl⟩:=h.form
 refine ⟨a,c,rfl,fun hn => ?_⟩
 obtain ⟨h1,h2⟩:=h
 have hp:=List.length_pos_iff.2 hn
 rcases h2 with ⟨hv,h0⟩ | ⟨g,cap,cur,hv,hb,hg,hn,hm,hs,ht⟩
 ·omega
 ·injection hv with e1 e2 e3
  refine ⟨g,0,e1,fun i hi => ?_⟩
  obtain ⟨k0,k1,k2,k3⟩:=tcK_at l i hi
  rw [← ht] at k0 k1 k2 k3
  rw [List.getElem?_take,if_pos (by omega)] at k0 k1 k2 k3
  rw [Nat.zero_add]
  refine ⟨?_,?_,?_,?_⟩
  ·rw [cell_of_row w g _ cur _ (0,0) hg]; simpa using k0
  ·rw [cell_of_row w g _ cur _ (0,0) hg]; simpa using k1
  ·rw [cell_of_row w g _ cur _ (0,0) hg]; simpa using k2
  ·rw [cell_of_row w g _ cur _ (0,0) hg]; simpa using k3
end
end Go.Proofs.YtnicnfchkdmieaaGreatDoor
