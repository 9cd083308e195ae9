/- Rs Ga -/
import Derived.Test.YtoohondkpddmcaaGreatDoorVbl
import Derived.Test.YtoohondkpddmcaaGreatDoorVax
import Derived.Test.YtoohondkpddmcaaGreatDoorVba
set_option linter.unusedVariables false
set_option linter.unusedSimpArgs false
namespace Go.Proofs.YtoohondkpddmcaaGreatDoor
section
open Go.RowKit
attribute [local go_sem] ByteArray.mk_append_mk bs_get bs_cut bs_end
set_option maxRecDepth 100000 in
set_option maxHeartbeats 8000000 in
theorem rvalid_any (p : List Nd) (hps : ∀ t ∈ p,t.str.length ≤ 1048576) (v : Value) (w : World) (hv : NSl w v p) (hl : p.length ≤ 9223372036854775000) :
  Calls Tryz.prog 21 #[v] w fun e w' => e = .returned (.bool (validL p)) ∧ Below w.heap.size w w':=by
 obtain ⟨X,hX⟩ : ∃ X,Hid (validL p = X):=⟨_,Lib.hid rfl⟩
 have HV0:=Lib.hid hv
 have HB0:=Lib.hid (Below.refl w.heap.size w)
 obtain ⟨a,cap,rfl,hc⟩:=hv.1
 rw [hX.out]
 clear hc hv
 by_cases h2 : p.length ≤ 2048
 ·have h2' : ¬ (p.length : Int) > 2048:=by omega
  have HX0 : Hid (vTop p p.length 0 = X):=Lib.hid (by rw [← hX.out]; unfold validL; rw [decide_eq_true h2,Bool.true_and])
  have HEL:=Lib.hid (walk_ok p (by omega) hps 32 1 (by omega) (by omega)).el
  obtain ⟨L,hL⟩ : ∃ L,p.length = L:=⟨_,rfl⟩
  have HL:=Lib.hid hL
  rw [hL] at h2 h2' hl HV0 HX0 ⊢
  clear hL hX
  go_enter Tryz.func21,Tryz.ntmps21
  go_wp2_with fail
  go_loopw [3] (fun x wr => ∃ (f q : Nat),x = .int .i64 q ∧ q ≤ L ∧ L ≤ f + q ∧ Hid (vTop p f q = X) ∧ Hid (NSl wr (.slice a L cap) p) ∧ Hid (Below w.heap.size w wr)) (fun x _ => L - (intOf x).toNat)
  case atStart => exact ⟨L,0,rfl,by omega,by omega,HX0,HV0,HB0⟩
  case round =>
   clear HX0 HV0 HB0
   obtain ⟨f,q,rfl,hq,hf,HX,HV,HB⟩:=hrel
   obtain ⟨w4,rfl⟩ : ∃ y : World,y = wr:=⟨_,rfl⟩
   by_cases hlt : q < L
   ·have hlt' : (q : Int) < (L : Int):=by omega
    have hqp : q < p.length:=by rw [HL.out]; exact hlt
    obtain ⟨f,rfl⟩ : ∃ g,f = g + 1:=⟨f - 1,by omega⟩
    have HXK : Hid (X = match vAny p 32 false 68 q with | none => false | some j => vTop p f j):=Lib.hid (by rw [← HX.out,vTop,if_neg (by rw [HL.out]; omega)] <;> rfl)
    have hne : p ≠ []:=by rintro rfl; simp at hqp
    obtain ⟨⟨a2,cap2,hva,hc⟩,_⟩:=HV.out
    obtain ⟨g,off,hga,_⟩:=hc hne
    have hag : a = some ⟨g,off,none⟩:=by
     injection hva with e1 _ _
     rw [e1,hga]
    subst hag
    obtain ⟨c0,c1,c2,c3⟩:=HV.out.tat q hqp
    obtain ⟨qk,hqk⟩ : ∃ z,p[q].kind = z:=⟨_,rfl⟩
    rw [hqk] at c0
    obtain ⟨ab,hab⟩ : ∃ z,Hid (accB 68 qk = z):=⟨_,Lib.hid rfl⟩
    have HPER : Hid (∀ w,Calls Tryz.prog 53 #[.int .u8 68,.int .i64 qk] w fun e w' => e = .returned (.bool ab) ∧ w = w'):=Lib.hid (fun w => per_is 68 qk ab hab w)
    clear hc hva hga c1 c2 c3 HX
    cases ab with
    | false =>
      have HX2 : Hid (X = false):=Lib.hid (by
       rw [HXK.out]
       have : vAny p 32 false 68 q = none:=by
        rw [vAny,List.getElem?_eq_getElem hqp]
        simp only []
        rw [if_neg (by rw [hqk,hab.out]; simp)]
       rw [this])
      clear HXK
      go_wp2_with fail
      ((with_reducible refine (HPER.out _).mono ?_))
      rintro e w5 ⟨rfl,rfl⟩
      go_wp2_with fail
      go_ret
      rw [HX2.out]
      exact ⟨rfl,HB.out⟩
    | true =>
      have HC : Hid (Calls Tryz.prog 54 #[.slice (some ⟨g,off,none⟩) L cap,.int .i64 q,.int .u8 120,.int .i64 1] w4 (WPost w4 (vAny p 32 false 68 q))):=Lib.hid (HEL.out 68 q _ w4 (by decide) HV.out hqp (by rw [hqk]; exact hab.out))
      unfold WPost at HC
      cases hx : vAny p 32 false 68 q with
      | none =>
        rw [hx] at HC HXK
        have HX2 : Hid (X = false):=HXK
        clear hx HXK
        unfold wI at HC
        go_wp2_with fail
        ((with_reducible refine (HPER.out _).mono ?_))
        rintro e w5 ⟨rfl,rfl⟩
        go_wp2_with fail
        ((with_reducible refine HC.out.mono ?_))
        rintro e w5 ⟨rfl,hb5⟩
        have HB5 : Hid (Below w.heap.size w w5):=Lib.hid (bel_then HB.out (Nat.le_refl _) hb5)
        clear hb5
        go_wp2_with fail
        go_ret
        rw [HX2.out]
        exact ⟨rfl,HB5.out⟩
      | some z =>
        rw [hx] at HC HXK
        have hz:=vAny_good p 32 false 68 q z hx
        rw [HL.out] at hz
        obtain ⟨hz1,hz2⟩:=hz
        have HX5 : Hid (vTop p f z = X):=Lib.hid HXK.out.symm
        clear hx HXK
        unfold wI at HC
        have hz0 : ¬ (z : Int) < 0:=by omega
        go_wp2_with fail
        ((with_reducible refine (HPER.out _).mono ?_))
        rintro e w5 ⟨rfl,rfl⟩
        go_wp2_with fail
        ((with_reducible refine HC.out.mono ?_))
        rintro e w5 ⟨rfl,hb5⟩
        have HB5 : Hid (Below w.heap.size w w5):=Lib.hid (bel_then HB.out (Nat.le_refl _) hb5)
        have HV5:=Lib.hid (HV.out.below hb5)
        clear hb5 HC
        go_wp2_with fail
        go_roundw
        case rel => exact ⟨f,z,rfl,hz2,by omega,HX5,HV5,HB5⟩
        case measure => simp [intOf]; omega
   ·have hlt' : ¬ (q : Int) < (L : Int):=by omega
    have HX5 : Hid (X = true):=Lib.hid (by
     rw [← HX.out]
     cases f with
     | zero => rw [vTop]; exact decide_eq_true (by rw [HL.out]; omega)
     | succ f => rw [vTop,if_pos (by rw [HL.out]; omega)])
    clear HX
    go_wp2_with fail
    go_ret
    rw [HX5.out]
    exact ⟨rfl,HB.out⟩
 ·have h2' : (p.length : Int) > 2048:=by omega
  have HX0 : Hid (X = false):=Lib.hid (by rw [← hX.out]; unfold validL; rw [decide_eq_false h2,Bool.false_and])
  go_enter Tryz.func21,Tryz.ntmps21
  go_wp2_with fail
  go_ret
  rw [HX0.out]
  exact ⟨rfl,HB0.out⟩
theorem rvalid_is (p : List Nd) (hps : ∀ t ∈ p,t.str.length ≤ 1048576) (b : Bool) (H : Hid (validL p = b)) (v : Value) (w : World) (hv : NSl w v p) (hl : p.length ≤ 9223372036854775000) :
  Calls Tryz.prog 21 #[v] w fun e w' => e = .returned (.bool b) ∧ Below w.heap.size w w':=by
 have:=rvalid_any p hps v w hv hl
 rw [H.out] at this
 exact this
end
section
open Go.RowKit
attribute [local go_sem] ByteArray.mk_append_mk bs_get bs_cut bs_end
abbrev prO (v : Value) (s : List UInt8) : Obj:=.cells #[v,.string ⟨s.toArray⟩] 60 (0,0)
theorem NSl.keepC {w w' : World} {C : Nat} {v : Value} {p : List Nd} (h : NSl w v p) (hlt : ∀ g off n c,v = .slice (some ⟨g,off,none⟩) n c → p ≠ [] → g < C) (hk : Keep C w w') : NSl w' v p:=by
 obtain ⟨⟨a,cap,hv,hc⟩,hs⟩:=h
 refine ⟨⟨a,cap,hv,fun hn => ?_⟩,hs⟩
 obtain ⟨b,off,ha,hkk⟩:=hc hn
 have hb:=hlt b off _ _ (by rw [hv,ha]) hn
 refine ⟨b,off,ha,fun i hi => ?_⟩
 obtain ⟨c0,c1,c2,c3⟩:=hkk i hi
 have hbw : b < w.heap.size:=World.block_lt_of_cell? w _ c0
 have e : w'.heap[b]? = w.heap[b]?:=hk.block b hbw (fun e => by injection e with e; omega)
 exact ⟨(World.cell?_of_block (a:=⟨b,off + i * 4,none⟩) e).trans c0,(World.cell?_of_block (a:=⟨b,off + i * 4 + 1,none⟩) e).trans c1,(World.cell?_of_block (a:=⟨b,off + i * 4 + 2,none⟩) e).trans c2,(World.cell?_of_block (a:=⟨b,off + i * 4 + 3,none⟩) e).trans c3⟩
def PrSt (w : World) (C : Nat) (v : Value) (p : List Nd) (s : List UInt8) : Prop:=w.heap[C]? = some (prO v s) ∧ NSl w v p ∧ ∀ g off n c,v = .slice (some ⟨g,off,none⟩) n c → p ≠ [] → g < C
theorem PrSt.below {w w' : World} {C : Nat} {v : Value} {p : List Nd} {s : List UInt8} (h : PrSt w C v p s) (hb : Below w.heap.size w w') : PrSt w' C v p s :=
 ⟨blk_below h.1 hb,h.2.1.below hb,h.2.2⟩
theorem PrSt.put {w : World} {C : Nat} {v : Value} {p : List Nd} {s : List UInt8} (h : PrSt w C v p s) (s' : List UInt8) : PrSt (w.setCell ⟨C,1,none⟩ (.string ⟨s'.toArray⟩)) C v p s' :=
 ⟨(heap_setCell_same w _ 1 _ _ (.string ⟨s'.toArray⟩) h.1).trans rfl,h.2.1.keepC h.2.2 ((Keep.refl C w).setC 1 _),h.2.2⟩
theorem PrSt.lt {w : World} {C : Nat} {v : Value} {p : List Nd} {s : List UInt8} (h : PrSt w C v p s) : C < w.heap.size:=lt_of_block h.1
theorem indent_any (n : Nat) (w : World) (hn : n ≤ 1000) : Calls Tryz.prog 113 #[.int .i64 n] w fun e w' => e = .returned (.string ⟨(indL n).toArray⟩) ∧ w = w':=by
 have HS : Hid (∀ k,indL (k + 1) = indL k ++ [32,32]):=Lib.hid (fun k => by
  unfold indL
  rw [show 2 * (k + 1) = 2 * k + 2 by omega,← List.replicate_append_replicate] <;> rfl)
 have HL:=Lib.hid ind_len
 go_enter Tryz.func113,Tryz.ntmps113
 go_wp2_with fail
 go_loopw [3,4] (fun z i wr => ∃ (k : Nat) (x : List UInt8),z = .string ⟨x.toArray⟩ ∧ i = .int .i64 k ∧ k ≤ n ∧ x.length ≤ 2 * k ∧ Hid (x = indL k) ∧ w = wr) (fun z i _ => n - (intOf i).toNat)
 case atStart => exact ⟨0,[],rfl,rfl,by omega,by simp,Lib.hid rfl,rfl⟩
 case round =>
  obtain ⟨k,x,rfl,rfl,hk,hx,HX,rfl⟩:=hrel
  by_cases hlt : k < n
  ·have hlt' : (k : Int) < (n : Int):=by omega
   go_wp2_with fail
   go_roundw
   case rel => exact ⟨k + 1,x ++ [32,32],by simp,by go_num,by omega,by simp only [List.length_append,List.length_cons,List.length_nil]; omega,Lib.hid (by rw [HX.out,HS.out]),by trivial⟩
   case measure => simp [intOf]; omega
  ·have hkn : k = n:=by omega
   subst hkn
   have hlt' : ¬ (k : Int) < (k : Int):=by omega
   go_wp2_with fail
   go_ret
   exact ⟨by rw [HX.out]; rfl,rfl⟩
end
end Go.Proofs.YtoohondkpddmcaaGreatDoor
