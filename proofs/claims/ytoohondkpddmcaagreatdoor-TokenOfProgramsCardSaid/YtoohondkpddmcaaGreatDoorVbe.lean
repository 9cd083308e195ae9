/- Tle Tlo Tlm Tln -/
import Derived.Test.YtoohondkpddmcaaGreatDoorVan
import Derived.Test.YtoohondkpddmcaaGreatDoorVah
import Derived.Test.YtoohondkpddmcaaGreatDoorVap
import Derived.Test.YtoohondkpddmcaaGreatDoorVbd
set_option linter.unusedVariables false
set_option linter.unusedSimpArgs false
namespace Go.Proofs.YtoohondkpddmcaaGreatDoor
section
open Go.RowKit
attribute [local go_sem] ByteArray.mk_append_mk bs_get bs_cut bs_end
set_option maxRecDepth 100000 in
set_option maxHeartbeats 4000000 in
theorem same_yes (v1 v2 : Value) (l1 l2 : List TokI) (w : World) (h1 : TSl w v1 l1) (h2 : TSl w v2 l2) (hl : l1.length ≤ 9223372036854770000) (he : l1.map bareT = l2.map bareT) :
  Calls Tryz.prog 16 #[v1,v2] w fun e w' => e = .returned (.bool true) ∧ Below w.heap.size w w':=by
 have H1:=Lib.hid h1
 have H2:=Lib.hid h2
 have HE:=Lib.hid he
 have hll : l2.length = l1.length:=by have:=congrArg List.length he; simp only [List.length_map] at this; omega
 obtain ⟨a1,c1,rfl,_⟩:=h1
 obtain ⟨a2,c2,rfl,_⟩:=h2
 rw [hll] at H2 ⊢
 have HLL:=Lib.hid hll
 clear hll he
 go_enter Tryz.func16,Tryz.ntmps16
 go_wp2_with fail
 go_loopw [5] (fun i wr => ∃ k : Nat,i = .int .i64 k ∧ k ≤ l1.length ∧ Hid (Below w.heap.size w wr)) (fun i _ => l1.length - (intOf i).toNat)
 case atStart => exact ⟨0,rfl,by omega,Lib.hid (Below.refl _ _)⟩
 case round =>
  obtain ⟨k,rfl,hk,HB⟩:=hrel
  obtain ⟨w1,rfl⟩ : ∃ y : World,y = wr:=⟨_,rfl⟩
  by_cases hlt : k < l1.length
  ·obtain ⟨a',cap',hv',hc⟩:=H1.out.below HB.out
   injection hv' with e1 em e2
   clear em
   subst e1 e2
   obtain ⟨b1,o1,rfl,hcell1⟩:=hc (by rintro rfl; simp at hlt)
   obtain ⟨a',cap',hv',hc'⟩:=H2.out.below HB.out
   injection hv' with e1 em e2
   clear em
   subst e1 e2
   have hlt2 : k < l2.length:=by have:=HLL.out; omega
   obtain ⟨b2,o2,rfl,hcell2⟩:=hc' (by rintro rfl; simp at hlt2)
   have t1:=Lib.hid (hcell1 k hlt)
   have t2:=Lib.hid (hcell2 k hlt2)
   have he : bareT l1[k] = bareT l2[k]:=by
    have:=congrArg (fun l => l[k]?) HE.out
    simpa [hlt,hlt2] using this
   clear hcell1 hcell2 hc hc'
   obtain ⟨A1,hA1⟩ : ∃ A,l1[k] = A:=⟨_,rfl⟩
   obtain ⟨A2,hA2⟩ : ∃ A,l2[k] = A:=⟨_,rfl⟩
   rw [hA1] at t1 he
   rw [hA2] at t2 he
   clear hA1 hA2
   obtain ⟨k1,n1,s1,p1⟩:=A1
   obtain ⟨k2,n2,s2,p2⟩:=A2
   have K1:=Lib.hid (bare_any k1 n1 p1 s1)
   have K2:=Lib.hid (bare_any k2 n2 p2 s2)
   rw [he] at K1
   obtain ⟨Y,hY⟩ : ∃ Y,bareT ⟨k2,n2,s2,p2⟩ = Y:=⟨_,rfl⟩
   rw [hY] at K1 K2
   obtain ⟨yk,yn,ys,yp⟩:=Y
   have hN:=tok_same yk yn yp ys
   unfold TokI.val at K1 K2
   simp only [tokV] at K1 K2
   clear he hY
   go_upto_region 6 with fail
   have T1 : ∀ x,Grows w1 x → TAtK x b1 (o1 + k * 4) ⟨k1,n1,s1,p1⟩:=fun x h => t1.out.below h
   have T2 : ∀ x,Grows w1 x → TAtK x b2 (o2 + k * 4) ⟨k2,n2,s2,p2⟩:=fun x h => t2.out.below h
   refine wp_region_plan (Grows _) 11 [.reads [0,1,2,3,5,6,7,8],.act 4,.act 9,.act 10] (by kernel_rfl) (by kernel_rfl) (by kernel_rfl) (by kernel_rfl) (by kernel_rfl) (fun _ _ d _ _ h => by cases d <;> exact h) (Grows.self _) ?_
   refine wpPlan_reads ?_
   simp only [pickOps,List.drop_succ_cons,List.drop_zero,List.take_succ_cons,List.take_zero,List.cons_append,List.nil_append]
   repeat (go_big_quiet_step (first | (intro hb; obtain ⟨d0,d1,d2,d3⟩:=T1 _ hb; simp only [d0,d1,d2,d3,Result.andThen]; exact ⟨trivial,rfl⟩) | (intro hb; obtain ⟨d0,d1,d2,d3⟩:=T2 _ hb; simp only [d0,d1,d2,d3,Result.andThen]; exact ⟨trivial,rfl⟩)))
   refine wpQuiet_nil ?_
   clear T1 T2
   refine wpPlan_act rfl ?_
   simp only [pickOps,List.drop_succ_cons,List.drop_zero,List.take_succ_cons,List.take_zero,List.cons_append,List.nil_append]
   go_wp2_with fail
   ((with_reducible refine (K1.out _).mono ?_))
   rintro e w2 ⟨rfl,hb⟩
   have HG:=Lib.hid ((Grows.self w1).trans hb)
   clear hb K1
   go_wp2_with fail
   refine ⟨fun _ => HG.out,?_⟩
   refine wpPlan_act rfl ?_
   simp only [pickOps,List.drop_succ_cons,List.drop_zero,List.take_succ_cons,List.take_zero,List.cons_append,List.nil_append]
   go_wp2_with fail
   ((with_reducible refine (K2.out _).mono ?_))
   rintro e w3 ⟨rfl,hb⟩
   have HG3:=Lib.hid (HG.out.trans hb)
   clear hb K2 HG
   go_wp2_with fail
   refine ⟨fun _ => HG3.out,?_⟩
   refine wpPlan_act rfl ?_
   simp only [pickOps,List.drop_succ_cons,List.drop_zero,List.take_succ_cons,List.take_zero,List.cons_append,List.nil_append]
   go_wp2_with fail
   refine ⟨fun _ => HG3.out,?_⟩
   refine wpPlan_nil ?_
   go_wp2_with fail
   go_roundw
   case rel => exact ⟨k + 1,by go_num,by omega,Lib.hid (HB.out.trans (HG3.out.mono HB.out.size))⟩
   case measure => simp [intOf]; omega
  ·go_wp2_with fail
   go_ret
   exact ⟨rfl,HB.out⟩
end
section
open Go.RowKit
def Shrt (t : TokI) : Prop:=t.str.length ≤ 255 ∨ t.kind ≠ 1 ∧ t.kind ≠ 2 ∧ t.kind ≠ 4
def NumI (t : TokI) : Prop:=0 ≤ t.num ∧ t.num ≤ 18446744073709551615
theorem ToksI.room {w : World} {B : Nat} {v : Value} {l : List TokI} (h : ToksI w B v l) : ∃ a c,v = .slice a l.length c ∧ l.length ≤ c:=by
 rcases h.2 with ⟨rfl,h0⟩ | ⟨g,cap,cur,rfl,hb,hg,hn,_⟩
 ·exact ⟨none,0,by rw [h0],by omega⟩
 ·exact ⟨_,cap,rfl,hn⟩
theorem TSl.at {w : World} {a : Option Addr} {n c : Nat} {l : List TokI} (h : TSl w (.slice a n c) l) (i : Nat) (hi : i < l.length) : ∃ b off,a = some ⟨b,off,none⟩ ∧ TAtK w b (off + i * 4) l[i]:=by
 obtain ⟨a',cap',hv,hc⟩:=h
 injection hv with e1 _ _
 subst e1
 obtain ⟨b,off,e,hk⟩:=hc (by rintro rfl; simp at hi)
 exact ⟨b,off,e,hk i hi⟩
theorem TSl.single {w : World} {b off cap : Nat} {t : TokI} (h : TAtK w b off t) : TSl w (.slice (some ⟨b,off,none⟩) 1 cap) [t] :=
 ⟨_, _, rfl, fun _ => ⟨b, off, rfl, fun i hi => by have : i = 0 := by simp at hi; omega
                                                   subst this; simpa using h⟩⟩
end
section
open Go.RowKit
attribute [local go_sem] ByteArray.mk_append_mk bs_get bs_cut bs_end
theorem cat0x (x : List UInt8) : (#[48,120] : Array UInt8) ++ x.toArray = (48 :: 120 :: x).toArray:=by simp
theorem up_low (d : Nat) (h : d < 16) : Lib.upperB (lowC (hexC d)) = hexC d ∧ (lowC (hexC d)).toNat < 128:=by
 have : ∀ d : Fin 16,Lib.upperB (lowC (hexC d.val)) = hexC d.val ∧ (lowC (hexC d.val)).toNat < 128:=by decide +kernel
 exact this ⟨d,h⟩
theorem hexP_dig : ∀ (n v : Nat),v ≤ n → ∀ c ∈ hexP v,∃ d,d < 16 ∧ c = hexC d
 | n,v,h,c,hc => by
   by_cases h0 : v = 0
   ·subst h0; rw [hexP_zero] at hc; cases hc
   ·rw [hexP_pos h0] at hc
    rcases List.mem_append.1 hc with hc | hc
    ·cases n with
     | zero => omega
     | succ n => exact hexP_dig n (v / 16) (by omega) c hc
    ·simp only [List.mem_cons,List.not_mem_nil,or_false] at hc
     exact ⟨v % 16,by omega,hc⟩
theorem hexU_dig (v : Nat) : ∀ c ∈ hexU v,∃ d,d < 16 ∧ c = hexC d:=by
 intro c hc
 unfold hexU at hc
 rcases List.mem_append.1 hc with hc | hc
 ·exact hexP_dig _ _ (Nat.le_refl _) c hc
 ·simp only [List.mem_cons,List.not_mem_nil,or_false] at hc
  exact ⟨v % 16,by omega,hc⟩
theorem upper_hexLo (v : Nat) : Lib.toUpperA (hexLo v) = hexU v:=by
 unfold Lib.toUpperA hexLo
 rw [List.map_map]
 conv => rhs; rw [← List.map_id (hexU v)]
 refine List.map_congr_left fun c hc => ?_
 obtain ⟨d,h,rfl⟩:=hexU_dig v c hc
 exact (up_low d h).1
theorem hexLo_ascii (v : Nat) : ∀ (j : Nat) (b : UInt8),(hexLo v)[j]? = some b → b.toNat < 128:=by
 intro j b h
 have hm:=List.mem_of_getElem? h
 unfold hexLo at hm
 obtain ⟨c,hc,rfl⟩:=List.mem_map.1 hm
 obtain ⟨d,h',rfl⟩:=hexU_dig v c hc
 exact (up_low d h').2
theorem upper_any (v : Nat) (hv : v ≤ 18446744073709551615) (w : World) : Calls Tryz.prog 78 #[.string ⟨(hexLo v).toArray⟩] w fun e w' => e = .returned (.string ⟨(hexU v).toArray⟩) ∧ Below w.heap.size w w':=by
 have hl : (hexLo v).length ≤ 16:=by unfold hexLo; rw [List.length_map]; exact hexU_len hv
 have:=Tryz.strings_ToUpper_ascii ⟨(hexLo v).toArray⟩ w (by rw [ByteArray.size_mk',List.size_toArray]; omega) (fun j b h => hexLo_ascii v j b (by simpa using h))
 refine this.mono fun e w' ⟨he,hb⟩ => ⟨?_,hb⟩
 rw [he]
 show Ending.returned (.string ⟨(Lib.toUpperA (hexLo v)).toArray⟩) = _
 rw [upper_hexLo]
abbrev BoxK (w : World) (B b : Nat) (l : List UInt8) : Prop:=∀ o,BldK (w.alloc o) B b l ∧ Below B w (w.alloc o) ∧ KeptK b w (w.alloc o)
theorem boxK {w : World} {B b : Nat} {l : List UInt8} (h : BldK w B b l) : BoxK w B b l:=fun o => ⟨h.alloc o,(Below.refl _ _).alloc h.2 o,KeptK.of ((Below.refl _ _).alloc (Nat.le_refl _) o)⟩
theorem wtok_word (B b : Nat) (l s : List UInt8) (k n d : Int) (hk : k = 1 ∨ k = 2) (w : World) (h : BldK w B b l) (hl : l.length ≤ 1000000000) (hs : s.length ≤ 1000000) :
  Calls Tryz.prog 38 #[.pointer (some ⟨b,0,none⟩),tokV k n s d] w (WrPost w B b (l ++ s)):=by
 have HB:=Lib.hid (boxK h)
 have HL : Hid (l.length + s.length ≤ 140737488355328):=Lib.hid (by omega)
 clear h hl hs
 unfold tokV
 rcases hk with rfl | rfl
 all_goals
  go_enter Tryz.func38,Tryz.ntmps38
  go_wp2_with fail
  ((with_reducible refine (blk_str B b l s _ (HB.out _).1 HL.out).mono ?_))
  rintro e w2 ⟨rfl,hb,hw,hk⟩
  have HB2:=Lib.hid hb
  have HW2:=Lib.hid (bel_next (HB.out _).2.1 hw)
  have HK2:=Lib.hid ((HB.out _).2.2.trans hk)
  clear hb hw hk HB
  go_wp2_with fail
  go_end0
  exact ⟨rfl,HB2.out,HW2.out,HK2.out⟩
theorem wtok_text (B b : Nat) (l s : List UInt8) (n d : Int) (w : World) (h : BldK w B b l) (hl : l.length ≤ 1000000000) (hs : s.length ≤ 1000000) :
  Calls Tryz.prog 38 #[.pointer (some ⟨b,0,none⟩),tokV 4 n s d] w (WrPost w B b (l ++ quoL s)):=by
 have HB:=Lib.hid (boxK h)
 have HL:=Lib.hid hl
 have HS:=Lib.hid hs
 clear h hl hs
 unfold tokV
 go_enter Tryz.func38,Tryz.ntmps38
 go_wp2_with fail
 ((with_reducible refine (wstr_any B b l s _ (HB.out _).1 HL.out HS.out).mono ?_))
 rintro e w2 ⟨rfl,hb,hw,hk⟩
 have HB2:=Lib.hid hb
 have HW2:=Lib.hid (bel_next (HB.out _).2.1 hw)
 have HK2:=Lib.hid ((HB.out _).2.2.trans hk)
 clear hb hw hk HB
 go_wp2_with fail
 go_end0
 exact ⟨rfl,HB2.out,HW2.out,HK2.out⟩
theorem wtok_sign (B b : Nat) (l s : List UInt8) (k n d : Int) (hk : k = 5 ∨ k = 6 ∨ k = 7 ∨ k = 8 ∨ k = 9) (w : World) (h : BldK w B b l) (hl : l.length ≤ 1000000000) :
  Calls Tryz.prog 38 #[.pointer (some ⟨b,0,none⟩),tokV k n s d] w (WrPost w B b (l ++ punC k)):=by
 have HB:=Lib.hid (boxK h)
 have HL : Hid (l.length + 1 ≤ 140737488355328):=Lib.hid (by omega)
 clear h hl
 unfold tokV
 rcases hk with rfl | rfl | rfl | rfl | rfl
 ·rw [show punC 5 = [40] from rfl]
  go_enter Tryz.func38,Tryz.ntmps38
  go_wp2_with fail
  ((with_reducible refine (blk_lit B b l 40 40 rfl _ (HB.out _).1 HL.out).mono ?_))
  rintro e w2 ⟨rfl,hb,hw,hk⟩
  have HB2:=Lib.hid hb
  have HW2:=Lib.hid (bel_next (HB.out _).2.1 hw)
  have HK2:=Lib.hid ((HB.out _).2.2.trans hk)
  clear hb hw hk HB
  go_wp2_with fail
  go_end0
  exact ⟨rfl,HB2.out,HW2.out,HK2.out⟩
 ·rw [show punC 6 = [41] from rfl]
  go_enter Tryz.func38,Tryz.ntmps38
  go_wp2_with fail
  ((with_reducible refine (blk_lit B b l 41 41 rfl _ (HB.out _).1 HL.out).mono ?_))
  rintro e w2 ⟨rfl,hb,hw,hk⟩
  have HB2:=Lib.hid hb
  have HW2:=Lib.hid (bel_next (HB.out _).2.1 hw)
  have HK2:=Lib.hid ((HB.out _).2.2.trans hk)
  clear hb hw hk HB
  go_wp2_with fail
  go_end0
  exact ⟨rfl,HB2.out,HW2.out,HK2.out⟩
 ·rw [show punC 7 = [123] from rfl]
  go_enter Tryz.func38,Tryz.ntmps38
  go_wp2_with fail
  ((with_reducible refine (blk_lit B b l 123 123 rfl _ (HB.out _).1 HL.out).mono ?_))
  rintro e w2 ⟨rfl,hb,hw,hk⟩
  have HB2:=Lib.hid hb
  have HW2:=Lib.hid (bel_next (HB.out _).2.1 hw)
  have HK2:=Lib.hid ((HB.out _).2.2.trans hk)
  clear hb hw hk HB
  go_wp2_with fail
  go_end0
  exact ⟨rfl,HB2.out,HW2.out,HK2.out⟩
 ·rw [show punC 8 = [125] from rfl]
  go_enter Tryz.func38,Tryz.ntmps38
  go_wp2_with fail
  ((with_reducible refine (blk_lit B b l 125 125 rfl _ (HB.out _).1 HL.out).mono ?_))
  rintro e w2 ⟨rfl,hb,hw,hk⟩
  have HB2:=Lib.hid hb
  have HW2:=Lib.hid (bel_next (HB.out _).2.1 hw)
  have HK2:=Lib.hid ((HB.out _).2.2.trans hk)
  clear hb hw hk HB
  go_wp2_with fail
  go_end0
  exact ⟨rfl,HB2.out,HW2.out,HK2.out⟩
 ·rw [show punC 9 = [44] from rfl]
  go_enter Tryz.func38,Tryz.ntmps38
  go_wp2_with fail
  ((with_reducible refine (blk_lit B b l 44 44 rfl _ (HB.out _).1 HL.out).mono ?_))
  rintro e w2 ⟨rfl,hb,hw,hk⟩
  have HB2:=Lib.hid hb
  have HW2:=Lib.hid (bel_next (HB.out _).2.1 hw)
  have HK2:=Lib.hid ((HB.out _).2.2.trans hk)
  clear hb hw hk HB
  go_wp2_with fail
  go_end0
  exact ⟨rfl,HB2.out,HW2.out,HK2.out⟩
theorem Tz16.below {B : Nat} {w w' : World} (h : Tz16 w) (hb : Below B w w') (hg : 9 < B) : Tz16 w':=(hb.cell (p:=⟨9,15,none⟩) hg).trans h
theorem wtok_int (B b : Nat) (l s : List UInt8) (n : Nat) (d : Int) (w : World) (h : BldK w B b l) (hl : l.length ≤ 1000000000) (hn : n ≤ 18446744073709551615) (hT : Tz16 w) :
  Calls Tryz.prog 38 #[.pointer (some ⟨b,0,none⟩),tokV 3 n s d] w (WrPost w B b (l ++ fmtI n)):=by
 have HB:=Lib.hid (boxK h)
 have HL : Hid (l.length + 20 ≤ 140737488355328):=Lib.hid (by omega)
 have HT : Hid (∀ o,Tz16 (w.alloc o)):=Lib.hid fun o => hT.below ((Below.refl _ _).alloc (Nat.le_refl _) o) (World.block_lt_of_cell? w _ hT)
 clear h hl hT
 unfold tokV
 by_cases h10 : (n : Int) < 10
 ·have hf : fmtI n = [hexC n]:=by unfold fmtI; rw [if_pos (by omega),hexU_small (by omega)]
  have hc : ((hexC n).toNat : Int) = (48 + n):=by rw [((hexC_val n (by omega)).2.2 (by omega)).2]; omega
  rw [hf]
  obtain ⟨c,hcc⟩ : ∃ c,hexC n = c:=⟨_,rfl⟩
  rw [hcc] at hc ⊢
  clear hf hcc HT
  go_enter Tryz.func38,Tryz.ntmps38
  go_wp2_with fail
  ((with_reducible refine (blk_lit B b l c _ hc _ (HB.out _).1 (by have:=HL.out; omega)).mono ?_))
  rintro e w2 ⟨rfl,hb,hw,hk⟩
  have HB2:=Lib.hid hb
  have HW2:=Lib.hid (bel_next (HB.out _).2.1 hw)
  have HK2:=Lib.hid ((HB.out _).2.2.trans hk)
  clear hb hw hk HB
  go_wp2_with fail
  go_end0
  exact ⟨rfl,HB2.out,HW2.out,HK2.out⟩
 ·have hf : fmtI n = 48 :: 120 :: hexU n:=by unfold fmtI; rw [if_neg (by omega)]
  have hul:=hexU_len hn
  rw [hf]
  have KF:=Lib.hid (fun w h => fmt16_any n w (Lib.hid hn) h)
  have KU:=Lib.hid (fun w => upper_any n hn w)
  obtain ⟨U,hU⟩ : ∃ U,hexU n = U:=⟨_,rfl⟩
  obtain ⟨V,hV⟩ : ∃ U,hexLo n = U:=⟨_,rfl⟩
  rw [hU] at KU hul ⊢
  rw [hV] at KF KU
  have HUL : Hid (U.length ≤ 16):=Lib.hid hul
  have hc:=cat0x U
  clear hf hU hV
  go_enter Tryz.func38,Tryz.ntmps38
  go_wp2_with fail
  ((with_reducible refine (KF.out _ (HT.out _)).mono ?_))
  rintro e w2 ⟨rfl,hb⟩
  have HB2:=Lib.hid ((HB.out _).1.below hb)
  have HW2:=Lib.hid (bel_next (HB.out _).2.1 (hb.mono (HB.out _).1.2))
  have HK2:=Lib.hid ((HB.out _).2.2.trans (KeptK.of hb))
  clear hb HB HT KF
  go_wp2_with fail
  ((with_reducible refine (KU.out _).mono ?_))
  rintro e w3 ⟨rfl,hb⟩
  have HB3:=Lib.hid (HB2.out.below hb)
  have HW3:=Lib.hid (bel_next HW2.out (hb.mono HB2.out.2))
  have HK3:=Lib.hid (HK2.out.trans (KeptK.of hb))
  clear hb HB2 HW2 HK2 KU
  go_wp2_with fail
  ((with_reducible refine (blk_str B b l (48 :: 120 :: U) _ HB3.out (by have:=HL.out; have:=HUL.out; simp only [List.length_cons]; omega)).mono ?_))
  rintro e w4 ⟨rfl,hb,hw,hk⟩
  have HB4:=Lib.hid hb
  have HW4:=Lib.hid (bel_next HW3.out hw)
  have HK4:=Lib.hid (HK3.out.trans hk)
  clear hb hw hk
  go_wp2_with fail
  go_end0
  exact ⟨rfl,HB4.out,HW4.out,HK4.out⟩
def ShrW (t : TokI) : Prop:=t.str.length ≤ 65536 ∨ t.kind ≠ 1 ∧ t.kind ≠ 2 ∧ t.kind ≠ 4
theorem wtok_any (B b : Nat) (l : List UInt8) (t : TokI) (w : World) (h : BldK w B b l) (hl : l.length ≤ 1000000000) (hv : validT t = true) (h0 : 0 ≤ t.num) (h1 : t.num ≤ 18446744073709551615) (hs : ShrW t) (hT : Tz16 w) :
  Calls Tryz.prog 38 #[.pointer (some ⟨b,0,none⟩),t.val] w (WrPost w B b (l ++ fmtT t)):=by
 obtain ⟨k,n,s,d⟩:=t
 unfold fmtT TokI.val
 unfold ShrW at hs
 simp only at h0 h1 hs ⊢
 by_cases h12 : k = 1 ∨ k = 2
 ·rw [if_pos h12]
  exact wtok_word B b l s k n d h12 w h hl (by rcases hs with h | ⟨a,b,c⟩ <;> omega)
 ·rw [if_neg h12]
  by_cases h3 : k = 3
  ·subst h3
   rw [if_pos rfl]
   have e : n = (n.toNat : Int):=by omega
   have:=wtok_int B b l s n.toNat d w h hl (by omega) hT
   rw [← e] at this
   exact this
  ·rw [if_neg h3]
   by_cases h4 : k = 4
   ·subst h4; rw [if_pos rfl]
    exact wtok_text B b l s n d w h hl (by rcases hs with h | ⟨a,b,c⟩ <;> omega)
   ·rw [if_neg h4]
    refine wtok_sign B b l s k n d ?_ w h hl
    unfold validT at hv
    simp only at hv
    rw [if_neg (fun e => h12 (.inl e)),if_neg (fun e => h12 (.inr e)),if_neg h4,decide_eq_true_eq] at hv
    omega
end
section
open Go.RowKit
attribute [local go_sem] ByteArray.mk_append_mk bs_get bs_cut bs_end
def sepK : Nat → List UInt8
 | 0 => []
 | _ + 1 => [32]
def textJ (L : List TokI) : Nat → List UInt8
 | 0 => []
 | k + 1 => textJ L k ++ sepK k ++ fmtT (L.getD k ⟨0,0,[],0⟩)
def FineW (t : TokI) : Prop:=validT t = true ∧ NumI t ∧ ShrW t ∧ t.str.length ≤ 9223372036854770000
def Fine (t : TokI) : Prop:=validT t = true ∧ NumI t ∧ Shrt t ∧ t.str.length ≤ 9223372036854770000
theorem Fine.w {t : TokI} (h : Fine t) : FineW t:=⟨h.1,h.2.1,h.2.2.1.imp (fun h => by omega) id,h.2.2.2⟩
theorem textJ_up (L : List TokI) (k : Nat) : ∀ m,(textJ L k).length ≤ (textJ L (k + m)).length
 | 0 => Nat.le_refl _
 | m + 1 => by
   have:=textJ_up L k m
   rw [show k + (m + 1) = (k + m) + 1 by omega,textJ,List.length_append,List.length_append]
   omega
theorem textJ_succ {L : List TokI} {k : Nat} (h : k < L.length) : textJ L (k + 1) = textJ L k ++ sepK k ++ fmtT L[k]:=by rw [textJ]; simp [List.getD,h]
set_option maxRecDepth 100000 in
set_option maxHeartbeats 4000000 in
theorem tformat_len (v : Value) (L : List TokI) (w : World) (h : TSl w v L) (hf : ∀ t ∈ L,FineW t) (hn : L.length ≤ 100000) (hlen : (textJ L L.length).length ≤ 900000000) (hT : Tz16 w) :
  Calls Tryz.prog 15 #[v] w fun e w' => e = .returned (.string ⟨(textJ L L.length).toArray⟩) ∧ Below w.heap.size w w':=by
 obtain ⟨a,c,rfl,hv⟩:=h
 have HT : Hid (TSl w (.slice a L.length c) L):=Lib.hid ⟨a,c,rfl,hv⟩
 have HF:=Lib.hid hf
 have HZ:=Lib.hid hT
 have HZB : Hid (9 < w.heap.size):=Lib.hid (World.block_lt_of_cell? w _ hT)
 have HTL : Hid (∀ j,j ≤ L.length → (textJ L j).length ≤ 900000000):=Lib.hid (fun j hj => by have:=textJ_up L j (L.length - j); rw [show j + (L.length - j) = L.length by omega] at this; omega)
 clear hlen
 obtain ⟨X,HR⟩ : ∃ X,Hid (textJ L L.length = X):=⟨_,Lib.hid rfl⟩
 rw [HR.out]
 clear hv hf hT
 go_enter Tryz.func15,Tryz.ntmps15
 go_wp2_with fail
 go_loopw [10] (fun i wr => ∃ k : Nat,i = .int .i64 k ∧ k ≤ L.length ∧ Hid (Below w.heap.size w wr)) (fun i _ => L.length - (intOf i).toNat)
 case atStart => exact ⟨0,rfl,by omega,Lib.hid (Below.refl _ _)⟩
 case round =>
  obtain ⟨k,rfl,hk,HB⟩:=hrel
  obtain ⟨w1,rfl⟩ : ∃ y : World,y = wr:=⟨_,rfl⟩
  by_cases hlt : k < L.length
  ·obtain ⟨b,off,rfl,hcell⟩:=HT.out.at k hlt
   obtain ⟨t,ht⟩ : ∃ t,L[k] = t:=⟨_,rfl⟩
   have hff:=HF.out _ (List.getElem_mem hlt)
   rw [ht] at hff hcell
   obtain ⟨c0,c1,c2,c3⟩:=hcell.below HB.out
   have KV:=Lib.hid (fun w => tvalid_any t w hff.2.2.2)
   rw [hff.1] at KV
   clear hff hcell ht
   obtain ⟨tk,tn,ts,td⟩:=t
   unfold TokI.val at KV
   simp only [tokV] at KV c0 c1 c2 c3
   go_wp2_with fail
   ((with_reducible refine (KV.out _).mono ?_))
   rintro e w2 ⟨rfl,hb⟩
   have HB2:=Lib.hid (bel_then (HB.out.alloc HB.out.size _) (Nat.le_refl _) hb)
   clear hb HB
   go_wp2_with fail
   go_roundw
   case rel => exact ⟨k + 1,by go_num,by omega,HB2⟩
   case measure => simp [intOf]; omega
  ·go_wp2_with fail
   have HBK:=Lib.hid (BldK.fresh w1)
   have HB2:=Lib.hid (HB.out.alloc HB.out.size (.cells #[.pointer none,.slice none 0 0] 71))
   go_loopw [20] (fun i wr => ∃ k : Nat,i = .int .i64 k ∧ k ≤ L.length ∧ Hid (BldK wr w1.heap.size w1.heap.size (textJ L k)) ∧ Hid (Below w1.heap.size w1 wr)) (fun i _ => L.length - (intOf i).toNat)
   case atStart => exact ⟨0,rfl,by omega,HBK,Lib.hid ((Below.refl _ _).alloc (Nat.le_refl _) _)⟩
   case round =>
    clear HBK HB2
    obtain ⟨j,rfl,hj,HK,HW⟩:=hrel
    obtain ⟨w3,rfl⟩ : ∃ y : World,y = wr:=⟨_,rfl⟩
    by_cases hlj : j < L.length
    ·obtain ⟨b,off,rfl,hcell⟩:=HT.out.at j hlj
     obtain ⟨t,ht⟩ : ∃ t,L[j] = t:=⟨_,rfl⟩
     have hff:=HF.out _ (List.getElem_mem hlj)
     have hsucc:=textJ_succ hlj
     rw [ht] at hff hcell hsucc
     have HS:=Lib.hid hsucc
     obtain ⟨c0,c1,c2,c3⟩:=hcell.below (HB.out.trans (HW.out.mono HB.out.size))
     have HFF:=Lib.hid hff
     clear hff hcell ht hsucc
     obtain ⟨tk,tn,ts,td⟩:=t
     simp only [tokV] at c0 c1 c2 c3
     have HTX:=Lib.hid (HTL.out j hj)
     have HAB:=Lib.hid (HW.out.alloc HW.out.size (tObj tk tn ts td))
     have HAK:=Lib.hid (HK.out.alloc (tObj tk tn ts td))
     have HBN : Hid (w3.heap.size ≠ w1.heap.size):=Lib.hid (by have:=HK.out.lt; omega)
     have HNL:=Lib.hid (heap_alloc_new w3 (tObj tk tn ts td))
     have HTZ : Hid (∀ w',Below w1.heap.size w1 w' → Tz16 w'):=Lib.hid (fun w' h => HZ.out.below (HB.out.trans (h.mono HB.out.size)) HZB.out)
     have HTOK : Hid (∀ w' l,BldK w' w1.heap.size w1.heap.size l → l.length ≤ 1000000000 → Below w1.heap.size w1 w' → Calls Tryz.prog 38 #[.pointer (some ⟨w1.heap.size,0,none⟩),.agg #[.int .i64 tk,.int .u64 tn,.string ⟨ts.toArray⟩,.int .i64 td]] w' (WrPost w' w1.heap.size w1.heap.size (l ++ fmtT ⟨tk,tn,ts,td⟩))):=Lib.hid (fun w' l h1 h2 h3 => wtok_any _ _ l ⟨tk,tn,ts,td⟩ w' h1 h2 HFF.out.1 HFF.out.2.1.1 HFF.out.2.1.2 HFF.out.2.2.1 (HTZ.out _ h3))
     obtain ⟨F,hF⟩ : ∃ F,fmtT ⟨tk,tn,ts,td⟩ = F:=⟨_,rfl⟩
     rw [hF] at HS HTOK
     obtain ⟨x,hx⟩ : ∃ x,textJ L j = x:=⟨_,rfl⟩
     rw [hx] at HS HTX HAK
     clear hF hx HFF HK HTZ
     by_cases h0 : 0 < j
     ·have HS2 : Hid (textJ L (j + 1) = x ++ [32] ++ F):=Lib.hid (by rw [HS.out]; cases j with
       | zero => omega
       | succ j => rfl)
      clear HS
      go_wp2_with fail
      ((with_reducible refine (blk_lit w1.heap.size w1.heap.size x 32 32 rfl _ HAK.out (by have:=HTX.out; omega)).mono ?_))
      rintro e w4 ⟨rfl,hb,hw,hkk⟩
      have HB4:=Lib.hid hb
      have HW4:=Lib.hid (HAB.out.trans hw)
      have HN4:=Lib.hid (hkk.blk HNL.out HBN.out (by decide))
      clear hb hw hkk HAK HAB HNL c0 c1 c2 c3
      obtain ⟨c0,c1,c2,c3⟩:=cells4 HN4.out
      go_wp2_with fail
      ((with_reducible refine (HTOK.out _ _ HB4.out (by rw [List.length_append]; have:=HTX.out; simp; omega) HW4.out).mono ?_))
      rintro e w5 ⟨rfl,hb,hw,hkk⟩
      have HB5:=Lib.hid hb
      have HW5:=Lib.hid (HW4.out.trans hw)
      clear hb hw hkk HB4 HW4 c0 c1 c2 c3
      go_wp2_with fail
      go_roundw
      case rel => exact ⟨j + 1,by go_num,by omega,by rw [HS2.out]; exact HB5,HW5⟩
      case measure => simp [intOf]; omega
     ·have hj0 : j = 0:=by omega
      have HS2 : Hid (textJ L (j + 1) = x ++ F):=Lib.hid (by rw [HS.out,hj0]; show x ++ [] ++ F = _; rw [List.append_nil])
      clear HS hj0
      go_wp2_with fail
      ((with_reducible refine (HTOK.out _ _ HAK.out (by have:=HTX.out; omega) HAB.out).mono ?_))
      rintro e w5 ⟨rfl,hb,hw,hkk⟩
      have HB5:=Lib.hid hb
      have HW5:=Lib.hid (HAB.out.trans hw)
      clear hb hw hkk HAK HAB c0 c1 c2 c3
      go_wp2_with fail
      go_roundw
      case rel => exact ⟨j + 1,by go_num,by omega,by rw [HS2.out]; exact HB5,HW5⟩
      case measure => simp [intOf]; omega
    ·have hjj : j = L.length:=by omega
     rw [hjj,HR.out] at HK
     clear hjj
     go_wp2_with fail
     ((with_reducible refine (blk_string w1.heap.size w1.heap.size X _ HK.out).mono ?_))
     rintro e w4 ⟨rfl,hw⟩
     have HW4:=Lib.hid (HW.out.trans hw)
     clear hw
     go_wp2_with fail
     go_ret
     exact ⟨rfl,HB.out.trans (HW4.out.mono HB.out.size)⟩
end
end Go.Proofs.YtoohondkpddmcaaGreatDoor
