/- Tkr Tks Tkt Tla Mod -/
import Derived.Test.YtoohondkpddmcaaGreatDoorVal
import Derived.Test.YtoohondkpddmcaaGreatDoorVaa
import Derived.Laws.BitsAllLaws
import Derived.Laws.BitsLemmas
import Derived.IntWalk
set_option linter.unusedVariables false
set_option linter.unusedSimpArgs false
namespace Go.Proofs.YtoohondkpddmcaaGreatDoor
section
open Go.RowKit
attribute [local go_sem] ByteArray.mk_append_mk bs_get bs_cut bs_end
theorem Toks.alloc {w : World} {B : Nat} {v : Value} {l : List Tok} (h : Toks w B v l) (o : Obj) : Toks (w.alloc o) B v l:=h.below ((Below.refl _ _).alloc (Nat.le_refl _) o)
theorem two_new (w : World) (o o' : Obj) : ((w.alloc o).alloc o').heap[w.heap.size + 1]? = some o':=by
 have:=heap_alloc_new (w.alloc o) o'
 simpa using this
theorem bel_alloc2 {B : Nat} {w w2 : World} (h : Below B w w2) (o o' : Obj) (hB : B ≤ w.heap.size) : Below B w ((w2.alloc o).alloc o'):=by
 have h1:=h.alloc (Nat.le_trans hB h.size) o
 exact h1.alloc (Nat.le_trans hB h1.size) o'
def ScanPost (w : World) (x : List Tok × Nat × Nat) (e : Ending) (w' : World) : Prop :=
 ∃ v,e = .returned (.tuple #[v,.int .i64 x.2.1,.int .i64 x.2.2]) ∧ Toks w' w.heap.size v x.1 ∧ Below w.heap.size w w'
set_option maxRecDepth 100000 in
set_option maxHeartbeats 4000000 in
theorem tScan_any (s : List UInt8) (m : Int) (w : World) (hs : s.length ≤ 4611686018427380000) (hm : w.cell? ⟨0,0,none⟩ = some (.int .i64 m)) :
  Calls Tryz.prog 12 #[.string ⟨s.toArray⟩] w (ScanPost w (scanL s)):=by
 by_cases hl : (65536 : Int) < (s.length : Int)
 ·rw [scanL_long (by omega)]
  go_enter Tryz.func12,Tryz.ntmps12
  go_wp2_with fail
  go_ret3
  exact ⟨_,rfl,Toks.nil _ _,Below.refl _ _⟩
 ·rw [scanL_go (by omega)]
  have hl2 : s.length ≤ 65536:=by omega
  obtain ⟨X,hX⟩ : ∃ X,Hid (scanG s 0 [] = X):=⟨_,Lib.hid rfl⟩
  rw [hX.out]
  have HM:=Lib.hid hm
  clear hm
  have hlt:=World.block_lt_of_cell? w _ HM.out
  have HBZ:=Lib.hid hlt
  clear hlt
  go_enter Tryz.func12,Tryz.ntmps12
  go_wp2_with fail
  go_loopw [6,5] (fun i v wr => ∃ (p : Nat) (l : List Tok),i = .int .i64 p ∧ p ≤ s.length ∧ l.length ≤ p ∧ Hid (X = scanG s p l) ∧ Hid (Toks wr w.heap.size v l) ∧ Hid (Below w.heap.size w wr)) (fun i _ _ => s.length - (intOf i).toNat)
  case atStart => exact ⟨0,[],rfl,by omega,by simp,Lib.hid hX.out.symm,Lib.hid (Toks.nil _ _),Lib.hid (Below.refl _ _)⟩
  case round =>
   obtain ⟨p,l,rfl,hp,hlp,HX,HO,HB⟩:=hrel
   obtain ⟨av,cv,hv⟩:=HO.out.form
   subst hv
   obtain ⟨w1,rfl⟩ : ∃ x : World,x = wr:=⟨_,rfl⟩
   have HM1 : Hid (w1.cell? ⟨0,0,none⟩ = some (.int .i64 m)):=Lib.hid ((HB.out.cell (p:=⟨0,0,none⟩) HBZ.out).trans HM.out)
   have HS:=Lib.hid (tSkip_any s p m w1 hl2 hp HM1.out)
   obtain ⟨q,hq1,hq2,e1,e2⟩:=skip_place s p hp
   unfold skipTup at HS
   rw [e2] at HS
   obtain ⟨b,hb⟩ : ∃ b,Hid ((skipL (s.drop p)).2 = b):=⟨_,Lib.hid rfl⟩
   rw [hb.out] at HS
   have E1:=Lib.hid e1
   have E2:=Lib.hid e2
   clear e1 e2
   cases b
   ·have HX2 : Hid (X = ([],q,2)):=Lib.hid (by rw [HX.out]; exact scanG_open E2.out hb.out)
    clear HX
    go_wp2_with fail
    ((with_reducible refine HS.out.mono ?_))
    rintro e w2 ⟨rfl,rfl⟩
    go_wp2_with fail
    go_ret3
    exact ⟨_,by rw [HX2.out]; rfl,by rw [HX2.out]; exact Toks.nil _ _,HB.out⟩
   ·by_cases hql : q = s.length
    ·have hqb : ((q : Int) == (s.length : Int)) = true:=by rw [beq_iff_eq]; omega
     have HX2 : Hid (X = (l,0,0)):=Lib.hid (by rw [HX.out]; exact scanG_done hb.out (by rw [E1.out]; exact List.drop_eq_nil_of_le (by omega)))
     clear hql HX
     go_wp2_with fail
     ((with_reducible refine HS.out.mono ?_))
     rintro e w2 ⟨rfl,rfl⟩
     go_wp2_with fail
     go_ret3
     exact ⟨_,by rw [HX2.out]; rfl,by rw [HX2.out]; exact HO.out,HB.out⟩
    ·have hqb : ((q : Int) == (s.length : Int)) = false:=by rw [beq_eq_false_iff_ne]; omega
     have hqlt : q < s.length:=by omega
     have HI:=Lib.hid (fun w => tItem_any s q w (by omega) hqlt)
     obtain ⟨o,ho⟩ : ∃ o,Hid (itemL (s.drop q) = o):=⟨_,Lib.hid rfl⟩
     rw [ho.out] at HI
     clear hql
     go_wp2_with fail
     ((with_reducible refine HS.out.mono ?_))
     rintro e w2 ⟨rfl,rfl⟩
     go_wp2_with fail
     ((with_reducible refine (HI.out _).mono ?_))
     rintro e w2 ⟨⟨a,b,d,n,c,rfl,HE⟩,hb2⟩
     have HO2:=Lib.hid (HO.out.below hb2)
     have HB2:=Lib.hid (bel_then HB.out (Nat.le_refl _) hb2)
     clear hb2 HS HI
     unfold tokV
     cases o with
     | none =>
       have HX2 : Hid (X = ([],q,2)):=Lib.hid (by rw [HX.out]; exact scanG_bad E2.out hb.out E1.out hqlt ho.out)
       clear HX HE ho
       simp only [Option.isSome_none]
       go_wp2_with fail
       go_ret3
       refine ⟨_,by rw [HX2.out]; rfl,by rw [HX2.out]; exact Toks.nil _ _,?_⟩
       exact HB2.out.alloc HB2.out.size _
     | some x =>
       obtain ⟨k,v,t,nn⟩:=x
       obtain ⟨rfl,rfl,rfl,rfl⟩:=HE _ rfl
       have hn : 1 ≤ nn ∧ nn ≤ (s.drop q).length:=itemL_le ho.out
       rw [List.length_drop] at hn
       have HX2 : Hid (X = scanG s (q + nn) (l ++ [⟨k,v,c,q⟩])):=Lib.hid (by rw [HX.out]; exact scanG_next hq1 E2.out hb.out E1.out hqlt ho.out)
       clear HX HE ho
       simp only [Option.isSome_some]
       go_wp2_with (at_builtin; refine wpList_append_tok rfl _ _ rfl w.heap.size _ l rfl ((HO2.out.alloc _).alloc _) (w2.heap.size + 1) ⟨k,v,c,q⟩ rfl (two_new _ _ _) (by omega) (bel_alloc2 HB2.out _ _ (Nat.le_refl _)).size ?_; intro v3 w3 ho3 hg; have HO3:=Lib.hid ho3; have HB3:=Lib.hid (Toks.kept ((HO2.out.alloc _).alloc _) (bel_alloc2 HB2.out _ _ (Nat.le_refl _)) hg (bel_alloc2 HB2.out _ _ (Nat.le_refl _)).size (Nat.le_refl _)); clear ho3 hg)
       go_roundw
       case rel => exact ⟨q + nn,l ++ [⟨k,v,c,q⟩],by go_num,by omega,by rw [List.length_append]; simp; omega,HX2,HO3,HB3⟩
       case measure => simp [intOf]; omega
end
section
open Go.RowKit
attribute [local go_sem] ByteArray.mk_append_mk bs_get bs_cut bs_end
theorem tok_eqIn (a b d a' b' d' : Int) (s s' : List UInt8) (w : World) : (Op.equalIn 10000 34 (.agg #[.int .i64 a,.int .u64 b,.string ⟨s.toArray⟩,.int .i64 d]) (.agg #[.int .i64 a',.int .u64 b',.string ⟨s'.toArray⟩,.int .i64 d'])).run Tryz.prog w = .ok (a == a' && b == b' && s == s' && d == d') w:=by
 have hS : Tryz.prog.underlying 34 = some (.struct (Tryz.prog.fieldsOf 34)):=by kernel_rfl
 have hp : Tryz.prog.stoodInHeld 34 = false:=by kernel_rfl
 rw [show (10000 : Nat) = 9999 + 1 from rfl,run_equalIn_agg w 9999 34 _ _ hS hp]
 simp only [Program.fieldsOf,Tryz.underlying34]
 have u3:=Tryz.underlying3
 have u5:=Tryz.underlying32
 have u9:=Tryz.underlying9
 go_simp
 by_cases h1 : a = a' <;> by_cases h2 : b = b' <;> by_cases h3 : s = s' <;> by_cases h4 : d = d' <;> simp [h1,h2,h3,h4]
theorem tok_neq (a b d a' b' d' : Int) (s s' : List UInt8) (w : World) : (binOp .neq 34 (.agg #[.int .i64 a,.int .u64 b,.string ⟨s.toArray⟩,.int .i64 d]) (.agg #[.int .i64 a',.int .u64 b',.string ⟨s'.toArray⟩,.int .i64 d'])).run Tryz.prog w = .ok (.bool (!(a == a' && b == b' && s == s' && d == d'))) w:=by
 rw [run_neq_struct,tok_eqIn]; rfl
theorem tok_same (a b d : Int) (s : List UInt8) (w : World) : (binOp .neq 34 (.agg #[.int .i64 a,.int .u64 b,.string ⟨s.toArray⟩,.int .i64 d]) (.agg #[.int .i64 a,.int .u64 b,.string ⟨s.toArray⟩,.int .i64 d])).run Tryz.prog w = .ok (.bool false) w:=by
 rw [tok_neq]; simp
end
section
open Go.RowKit
attribute [local go_sem] ByteArray.mk_append_mk bs_get bs_cut bs_end
theorem max_below {w w' : World} {m : Int} (hm : w.cell? ⟨0,0,none⟩ = some (.int .i64 m)) (h : Below w.heap.size w w') : w'.cell? ⟨0,0,none⟩ = some (.int .i64 m) :=
 (h.cell (p:=⟨0,0,none⟩) (World.block_lt_of_cell? w _ hm)).trans hm
theorem scanG_len (s : List UInt8) : ∀ (f p : Nat) (acc : List Tok),acc.length ≤ p → p ≤ s.length → (scanF s f p acc).1.length ≤ s.length
 | 0,p,acc,h,hp => by rw [scanF]; exact Nat.le_trans h hp
 | f + 1,p,acc,h,hp => by
   obtain ⟨q,hq1,hq2,e1,e2⟩:=skip_place s p hp
   unfold scanF
   rw [e2,e1]
   split
   ·simp
   ·split
    ·simp only []; omega
    ·split
     ·simp
     ·next k v t n hi =>
      have hn : 1 ≤ n ∧ n ≤ (s.drop q).length:=itemL_le hi
      rw [List.length_drop] at hn
      exact scanG_len s f (q + n) _ (by rw [List.length_append]; simp; omega) (by omega)
theorem scanL_len (s : List UInt8) : (scanL s).1.length ≤ 65536:=by
 unfold scanL
 split
 ·simp
 ·have:=scanG_len s (s.length + 1) 0 [] (by simp) (by omega)
  omega
def awake1 : List UInt8:=[78,97,109,101,32,40,95,65,68,82,44,32,48,120,49,48,41,32,47,47,32,120]
def awakeT : List Tok:=[⟨2,0,[78,97,109,101],0⟩,⟨5,0,[],5⟩,⟨1,0,[95,65,68,82],6⟩,⟨9,0,[],10⟩,⟨3,16,[],12⟩,⟨6,0,[],16⟩]
theorem awake1_is : scanL awake1 = (awakeT,0,0):=by decide +kernel
theorem awake2_is : scanL [65,66,67,68,69] = ([],0,2):=by decide +kernel
theorem tok_eql (a b d a' b' d' : Int) (s s' : List UInt8) (w : World) : (binOp .eql 34 (.agg #[.int .i64 a,.int .u64 b,.string ⟨s.toArray⟩,.int .i64 d]) (.agg #[.int .i64 a',.int .u64 b',.string ⟨s'.toArray⟩,.int .i64 d'])).run Tryz.prog w = .ok (.bool (a == a' && b == b' && s == s' && d == d')) w:=by
 rw [run_eql_struct,tok_eqIn]; rfl
set_option maxRecDepth 100000 in
set_option maxHeartbeats 4000000 in
theorem awake_any (m : Int) (w : World) (hm : w.cell? ⟨0,0,none⟩ = some (.int .i64 m)) : Calls Tryz.prog 13 #[] w fun e w' => e = .returned (.bool true) ∧ Below w.heap.size w w':=by
 have H1:=Lib.hid (tScan_any awake1 m w (by decide) hm)
 rw [awake1_is] at H1
 unfold awake1 at H1
 have HM:=Lib.hid hm
 clear hm
 have hN:=tok_eql 1 0 6 1 0 6 [95,65,68,82] [95,65,68,82]
 go_enter Tryz.func13,Tryz.ntmps13
 go_wp2_with fail
 ((with_reducible refine H1.out.mono ?_))
 rintro e w2 ⟨v,rfl,ho,hb⟩
 have HO:=Lib.hid ho
 have HB:=Lib.hid hb
 have H2:=Lib.hid (tScan_any [65,66,67,68,69] m w2 (by decide) (max_below HM.out hb))
 rw [awake2_is] at H2
 clear ho hb H1
 go_wp2_with fail
 ((with_reducible refine H2.out.mono ?_))
 rintro e w3 ⟨v',rfl,ho',hb'⟩
 have HO3:=Lib.hid (HO.out.below hb')
 have HB3:=Lib.hid (bel_then HB.out (Nat.le_refl _) hb')
 clear hb' ho' H2 HO
 obtain ⟨a,c,hv⟩:=HO3.out.form
 subst hv
 obtain ⟨b,e1,_,c0,c1,c2,c3⟩:=HO3.out.cells 2 (by decide)
 obtain ⟨b',e2,_,d0,d1,d2,d3⟩:=HO3.out.cells 4 (by decide)
 subst e1
 injection e2 with e2
 injection e2 with e2
 subst e2
 have hlen : awakeT.length = 6:=rfl
 rw [hlen]
 simp only [awakeT,List.getElem_cons_succ,List.getElem_cons_zero] at c0 c1 c2 c3 d0 d1 d2 d3
 clear hlen
 go_wp2_with fail
 go_ret
 exact ⟨rfl,HB3.out⟩
end
section
open Go.RowKit
attribute [local go_sem] ByteArray.mk_append_mk bs_get bs_cut bs_end
def hexTab : List UInt8:=[48,49,50,51,52,53,54,55,56,57,65,66,67,68,69,70]
def hexC (d : Nat) : UInt8:=hexTab.getD d 48
def hexP (v : Nat) : List UInt8:=if h : v = 0 then [] else hexP (v / 16) ++ [hexC (v % 16)]
termination_by v
decreasing_by omega
def hexU (v : Nat) : List UInt8:=hexP (v / 16) ++ [hexC (v % 16)]
theorem hexP_zero : hexP 0 = []:=by rw [hexP]; rfl
theorem hexP_pos {v : Nat} (h : v ≠ 0) : hexP v = hexP (v / 16) ++ [hexC (v % 16)]:=by rw [hexP,dif_neg h]
theorem hex_cut (m : Nat) (h : m < 16) : List.take 1 (List.drop m hexTab) = [hexC m]:=by
 have : ∀ m : Fin 16,List.take 1 (List.drop m.val hexTab) = [hexC m.val]:=by decide +kernel
 exact this ⟨m,h⟩
theorem and15 (v : Nat) (h : v ≤ 18446744073709551615) : bits .and .u64 (v : Int) 15 = ((v % 16 : Nat) : Int):=by
 have:=u64_and_nat v 15 (by omega) (by omega)
 rw [show ((15 : Nat) : Int) = 15 from rfl] at this
 rw [this,show (15 : Nat) = 2 ^ 4 - 1 from rfl,Nat.and_two_pow_sub_one_eq_mod]
set_option maxRecDepth 100000 in
set_option maxHeartbeats 4000000 in
theorem hexU_any (v : Nat) (w : World) (hv : Hid (v ≤ 18446744073709551615)) : Calls Tryz.prog 62 #[.int .u64 v] w fun e w' => e = .returned (.string ⟨(hexU v).toArray⟩) ∧ w = w':=by
 obtain ⟨m,hm⟩ : ∃ m,v % 16 = m:=⟨_,rfl⟩
 have hm16 : m < 16:=by omega
 have hand:=and15 v hv.out
 rw [hm] at hand
 have hcut:=hex_cut m hm16
 unfold hexTab at hcut
 obtain ⟨X,hX⟩ : ∃ X,Hid (hexU v = X):=⟨_,Lib.hid rfl⟩
 rw [hX.out]
 have HX : Hid (X = hexP (v / 16) ++ [hexC m]):=Lib.hid (by rw [← hX.out,hexU,hm])
 have HM:=Lib.hid hm
 clear hm
 go_enter Tryz.func62,Tryz.ntmps62
 go_wp2_with fail
 go_loop [0,3] (fun z s => ∃ (n : Nat) (x : List UInt8),z = .int .u64 n ∧ s = .string ⟨x.toArray⟩ ∧ x.length ≤ 16 ∧ 1 ≤ x.length ∧ Hid (n < 16 ^ (16 - x.length)) ∧ Hid (X = hexP n ++ x)) (fun z s => (intOf z).toNat)
 case atStart =>
  refine ⟨v / 16,[hexC m],?_,rfl,by simp,by simp,Lib.hid ?_,HX⟩
  ·simp
  ·have:=hv.out
   simp only [List.length_cons,List.length_nil]
   have e : (16 : Nat) ^ (16 - (0 + 1)) = 1152921504606846976:=by decide
   omega
 case round =>
  clear hand hcut HX
  obtain ⟨n,x,rfl,rfl,hx,hx1,HN,HX⟩:=hrel
  by_cases h0 : (0 : Int) < (n : Int)
  ·have hnb : Hid (n ≤ 1152921504606846976 ∧ x.length < 16):=Lib.hid (by
    have:=HN.out
    have h1 : (16 : Nat) ^ (16 - x.length) ≤ 16 ^ 16:=Nat.pow_le_pow_right (by omega) (by omega)
    by_cases hx16 : x.length = 16
    ·rw [hx16] at this; simp at this; omega
    ·have h2 : (16 : Nat) ^ (16 - x.length) ≤ 16 ^ 15:=Nat.pow_le_pow_right (by omega) (by omega)
     have e : (16 : Nat) ^ 15 = 1152921504606846976:=by decide
     omega)
   obtain ⟨d,hd⟩ : ∃ d,n % 16 = d:=⟨_,rfl⟩
   have hd16 : d < 16:=by omega
   have hand:=and15 n (by have:=hnb.out; omega)
   rw [hd] at hand
   have hcut:=hex_cut d hd16
   unfold hexTab at hcut
   have hxl : x.length < 16:=hnb.out.2
   have HX2 : Hid (X = hexP (n / 16) ++ (hexC d :: x)):=Lib.hid (by rw [HX.out,hexP_pos (by omega),hd,List.append_assoc] <;> rfl)
   have HN2 : Hid (n / 16 < 16 ^ (16 - (hexC d :: x).length)):=Lib.hid (by
    have:=HN.out
    rw [List.length_cons]
    rw [show 16 - x.length = (16 - (x.length + 1)) + 1 by omega,Nat.pow_succ] at this
    omega)
   clear hd hnb HX HN
   go_wp2_with fail
   go_round
   case rel => exact ⟨n / 16,hexC d :: x,by simp,by simp,by simp; omega,by simp,HN2,HX2⟩
   case measure => simp [intOf]; omega
  ·have hx2 : Hid (X = x):=Lib.hid (by rw [HX.out,show n = 0 by omega,hexP_zero] <;> rfl)
   go_wp2_with fail
   go_ret
   exact ⟨by rw [hx2.out]; rfl,rfl⟩
def fmtI (v : Nat) : List UInt8:=if v < 10 then hexU v else 48 :: 120 :: hexU v
theorem hexP_len : ∀ (k v : Nat),v < 16 ^ k → (hexP v).length ≤ k
 | 0,v,h => by
   have : v = 0:=by simp at h; exact h
   subst this; rw [hexP_zero]; simp
 | k + 1,v,h => by
   by_cases h0 : v = 0
   ·subst h0; rw [hexP_zero]; simp
   ·rw [hexP_pos h0,List.length_append]
    have:=hexP_len k (v / 16) (by rw [Nat.pow_succ] at h; omega)
    simp; omega
theorem hexU_len {v : Nat} (h : v ≤ 18446744073709551615) : (hexU v).length ≤ 16:=by
 unfold hexU
 rw [List.length_append]
 have e : (16 : Nat) ^ 15 = 1152921504606846976:=by decide
 have:=hexP_len 15 (v / 16) (by omega)
 simp; omega
theorem fmtI_len {v : Nat} (h : v ≤ 18446744073709551615) : (fmtI v).length ≤ 18:=by
 have:=hexU_len h
 unfold fmtI
 split
 ·omega
 ·simp only [List.length_cons]; omega
set_option maxRecDepth 100000 in
theorem fmtI_any (v : Nat) (w : World) (hv : Hid (v ≤ 18446744073709551615)) : Calls Tryz.prog 60 #[.int .u64 v] w fun e w' => e = .returned (.string ⟨(fmtI v).toArray⟩) ∧ w = w':=by
 have HU:=Lib.hid (hexU_any v w hv)
 have HL:=hexU_len hv.out
 obtain ⟨U,hU⟩ : ∃ U,Hid (hexU v = U):=⟨_,Lib.hid rfl⟩
 rw [hU.out] at HU HL
 obtain ⟨X,hX⟩ : ∃ X,Hid (fmtI v = X):=⟨_,Lib.hid rfl⟩
 rw [hX.out]
 have HX : Hid (X = if v < 10 then U else 48 :: 120 :: U):=Lib.hid (by rw [← hX.out,← hU.out] <;> rfl)
 go_enter Tryz.func60,Tryz.ntmps60
 by_cases h10 : (v : Int) < 10
 ·go_wp2_with fail
  ((with_reducible refine HU.out.mono ?_))
  rintro e w2 ⟨rfl,rfl⟩
  go_wp2_with fail
  go_ret
  exact ⟨by rw [HX.out,if_pos (by omega)]; rfl,rfl⟩
 ·go_wp2_with fail
  ((with_reducible refine HU.out.mono ?_))
  rintro e w2 ⟨rfl,rfl⟩
  go_wp2_with fail
  go_ret
  exact ⟨by rw [HX.out,if_neg (by omega)]; rfl,rfl⟩
def quoC (c : UInt8) : List UInt8 :=
 if c = 34 ∨ c = 92 then [92,c] else if 32 ≤ c.toNat ∧ c.toNat ≤ 126 then [c] else if c.toNat < 16 then 92 :: 120 :: 48 :: hexU c.toNat else 92 :: 120 :: hexU c.toNat
def quoK (v : List UInt8) (k : Nat) : List UInt8:=34 :: (v.take k).flatMap quoC
def quoL (v : List UInt8) : List UInt8:=quoK v v.length ++ [34]
theorem quoK_succ {v : List UInt8} {k : Nat} (h : k < v.length) : quoK v (k + 1) = quoK v k ++ quoC v[k]:=by
 unfold quoK
 rw [List.take_succ_eq_append_getElem h,List.flatMap_append]
 simp
theorem quoC_len (c : UInt8) : (quoC c).length ≤ 19:=by
 have hc:=c.toNat_lt
 have:=hexU_len (v:=c.toNat) (by omega)
 unfold quoC
 split
 ·simp
 ·split
  ·simp
  ·split
   ·simp only [List.length_cons]; omega
   ·simp only [List.length_cons]; omega
theorem byte_cases' (b d : UInt8) (n : Int) (hn : (d.toNat : Int) = n) : (b = d ∧ ((b.toNat : Int) == n) = true) ∨ (b ≠ d ∧ ((b.toNat : Int) == n) = false):=by
 subst hn
 by_cases h : b = d
 ·left; subst h; exact ⟨rfl,by simp⟩
 ·right; exact ⟨h,by rw [beq_eq_false_iff_ne]; intro e; exact h (UInt8.toNat_inj.1 (by omega))⟩
theorem take_one {s : List UInt8} {k : Nat} (h : k < s.length) : List.take 1 (List.drop k s) = [s[k]]:=by
 rw [List.drop_eq_getElem_cons h]; rfl
set_option maxRecDepth 100000 in
set_option maxHeartbeats 4000000 in
theorem quo_any (s : List UInt8) (w : World) (hs : s.length ≤ 1000000) : Calls Tryz.prog 61 #[.string ⟨s.toArray⟩] w fun e w' => e = .returned (.string ⟨(quoL s).toArray⟩) ∧ w = w':=by
 go_enter Tryz.func61,Tryz.ntmps61
 go_wp2_with fail
 go_loop [3,4] (fun z i => ∃ (k : Nat) (x : List UInt8),z = .string ⟨x.toArray⟩ ∧ i = .int .i64 k ∧ k ≤ s.length ∧ x.length ≤ 20 * k + 1 ∧ Hid (x = quoK s k)) (fun z i => s.length - (intOf i).toNat)
 case atStart => exact ⟨0,[34],rfl,rfl,by omega,by simp,Lib.hid rfl⟩
 case round =>
  obtain ⟨k,x,rfl,rfl,hk,hx,HX⟩:=hrel
  by_cases hlt : k < s.length
  ·have HX2 : Hid (x ++ quoC s[k] = quoK s (k + 1)):=Lib.hid (by rw [HX.out,quoK_succ hlt])
   have hcut:=take_one hlt
   have hql:=quoC_len s[k]
   obtain ⟨Q,hQ⟩ : ∃ Q,Hid (quoC s[k] = Q):=⟨_,Lib.hid rfl⟩
   rw [hQ.out] at HX2 hql
   have H34:=Lib.hid (byte_cases' s[k] 34 34 rfl)
   have H92:=Lib.hid (byte_cases' s[k] 92 92 rfl)
   have hQ1 : Hid ((s[k] = 34 ∨ s[k] = 92) → Q = [92,s[k]]):=Lib.hid (fun h => by rw [← hQ.out]; unfold quoC; rw [if_pos h])
   have hQ2 : Hid (s[k] ≠ 34 → s[k] ≠ 92 → Q = if 32 ≤ s[k].toNat ∧ s[k].toNat ≤ 126 then [s[k]] else if s[k].toNat < 16 then 92 :: 120 :: 48 :: hexU s[k].toNat else 92 :: 120 :: hexU s[k].toNat):=Lib.hid (fun h1 h2 => by
    rw [← hQ.out]; unfold quoC; rw [if_neg (by rintro (h | h); exact h1 h; exact h2 h)])
   rcases H34.out with ⟨e1,h34⟩ | ⟨e1,h34⟩
   ·obtain rfl:=hQ1.out (.inl e1)
    clear e1 H34 H92 hQ1 hQ2 hQ
    go_wp2_with fail
    go_round
    case rel => exact ⟨k + 1,x ++ [92,s[k]],by simp,by go_num,by omega,by rw [List.length_append]; omega,HX2⟩
    case measure => simp [intOf]; omega
   rcases H92.out with ⟨e2,h92⟩ | ⟨e2,h92⟩
   ·obtain rfl:=hQ1.out (.inr e2)
    clear e1 e2 H34 H92 hQ1 hQ2 hQ
    go_wp2_with fail
    go_round
    case rel => exact ⟨k + 1,x ++ [92,s[k]],by simp,by go_num,by omega,by rw [List.length_append]; omega,HX2⟩
    case measure => simp [intOf]; omega
   have hQ3:=Lib.hid (hQ2.out e1 e2)
   have hc:=s[k].toNat_lt
   have HU:=Lib.hid (hexU_any s[k].toNat w (Lib.hid (by omega)))
   have hul:=hexU_len (v:=s[k].toNat) (by omega)
   obtain ⟨U,hU⟩ : ∃ U,hexU s[k].toNat = U:=⟨_,rfl⟩
   rw [hU] at hQ3 HU hul
   clear hU e1 e2 H34 H92 hQ1 hQ2 hQ
   by_cases h3 : (32 : Int) ≤ (s[k].toNat : Int)
   ·by_cases h4 : (s[k].toNat : Int) ≤ 126
    ·obtain rfl : Q = [s[k]]:=by rw [hQ3.out,if_pos (by omega)]
     clear hQ3 HU
     go_wp2_with fail
     go_round
     case rel => exact ⟨k + 1,x ++ [s[k]],by simp,by go_num,by omega,by rw [List.length_append]; omega,HX2⟩
     case measure => simp [intOf]; omega
    ·obtain rfl : Q = 92 :: 120 :: U:=by rw [hQ3.out,if_neg (by omega),if_neg (by omega)]
     clear hQ3
     go_wp2_with fail
     ((with_reducible refine HU.out.mono ?_))
     rintro e w2 ⟨rfl,rfl⟩
     go_wp2_with fail
     go_round
     case rel => exact ⟨k + 1,x ++ 92 :: 120 :: U,by simp,by go_num,by omega,by rw [List.length_append]; omega,HX2⟩
     case measure => simp [intOf]; omega
   ·by_cases h5 : (s[k].toNat : Int) < 16
    ·obtain rfl : Q = 92 :: 120 :: 48 :: U:=by rw [hQ3.out,if_neg (by omega),if_pos (by omega)]
     clear hQ3
     go_wp2_with fail
     ((with_reducible refine HU.out.mono ?_))
     rintro e w2 ⟨rfl,rfl⟩
     go_wp2_with fail
     go_round
     case rel => exact ⟨k + 1,x ++ 92 :: 120 :: 48 :: U,by simp,by go_num,by omega,by rw [List.length_append]; omega,HX2⟩
     case measure => simp [intOf]; omega
    ·obtain rfl : Q = 92 :: 120 :: U:=by rw [hQ3.out,if_neg (by omega),if_neg (by omega)]
     clear hQ3
     go_wp2_with fail
     ((with_reducible refine HU.out.mono ?_))
     rintro e w2 ⟨rfl,rfl⟩
     go_wp2_with fail
     go_round
     case rel => exact ⟨k + 1,x ++ 92 :: 120 :: U,by simp,by go_num,by omega,by rw [List.length_append]; omega,HX2⟩
     case measure => simp [intOf]; omega
  ·have hkl : k = s.length:=by omega
   have HX2 : Hid (x ++ [34] = quoL s):=Lib.hid (by unfold quoL; rw [HX.out,hkl])
   subst hkl
   go_wp2_with fail
   go_ret
   exact ⟨by rw [← HX2.out]; rfl,rfl⟩
end
section
open Go.RowKit
def modV (v n : Int) : Int:=(IntKind.u64.wrap v) % n
theorem modV_nonneg (v n : Int) (hn : 0 < n) : 0 ≤ modV v n:=Int.emod_nonneg _ (by omega)
theorem modV_lt (v n : Int) (hn : 0 < n) : modV v n < n:=Int.emod_lt_of_pos _ hn
theorem u64_nonneg (v : Int) : 0 ≤ IntKind.u64.wrap v:=by
 unfold IntKind.wrap
 simp [IntKind.signed,IntKind.bits]
 exact Int.emod_nonneg _ (by decide)
theorem modV_is (v n : Int) (hn : 0 < n) (hn2 : n ≤ 9223372036854775807) : wrap64 ((IntKind.u64.wrap v).tmod n) = modV v n:=by
 have h1:=modV_nonneg v n hn
 have h2:=modV_lt v n hn
 rw [Int.tmod_eq_emod_of_nonneg (u64_nonneg v)]
 exact IntWalk.wrap64_in _ ⟨by unfold modV at *; omega,by unfold modV at *; omega⟩
theorem mod_any (v n : Int) (w : World) (hn : 0 < n) (hn2 : n ≤ 9223372036854775807) : Calls Tryz.prog 24 #[.int .i64 v,.int .i64 n] w fun e w' => e = .returned (.int .i64 (modV v n)) ∧ w = w':=by
 have HM:=Lib.hid (modV_is v n hn hn2)
 have hw1 : IntKind.u64.wrap n = n:=IntWalk.u64_in _ (by omega)
 go_enter Tryz.func24,Tryz.ntmps24
 go_wp2_with fail
 go_ret
 exact ⟨by rw [← HM.out]; rfl,rfl⟩
end
end Go.Proofs.YtoohondkpddmcaaGreatDoor
