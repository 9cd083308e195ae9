/- Tlm Tln Tlp Fi Ka -/
import Derived.Test.YtnicnfchkdmieaaGreatDoorXbd
import Derived.Test.YtnicnfchkdmieaaGreatDoorXbb
set_option linter.unusedVariables false
set_option linter.unusedSimpArgs false
namespace Go.Proofs.YtnicnfchkdmieaaGreatDoor
section
open Go.RowKit
attribute [local go_sem] ByteArray.mk_append_mk bs_get bs_cut bs_end
theorem cat0x (x : List UInt8) : (#[48,120] : Array UInt8) ++ x.toArray = (48 :: 120 :: x).toArray:=by simp
theorem up_low (d : Nat) (h : d < 16) : Lib.upperB (lowC (hexC d)) = hexC d ∧ (lowC (hexC d)).toNat < 128:=by
 have : ∀ d : Fin 16,Lib.upperB (lowC (hexC d.val)) = hexC d.val ∧ (lowC (hexC d.val)).toNat < 128:=by decide +kernel
 exact this ⟨d,h⟩
theorem hexP_dig : ∀ (n v : Nat),v ≤ n → ∀ c ∈ hexP v,∃ d,d < 16 ∧ c = hexC d
 | n,v,h,c,hc => by
   by_cases h0 : v = 0
   ·subst h0; rw [hexP_zero] at hc; cases hc
   ·rw [hexP_pos h0] at hc
    rcases List.mem_append.1 hc with hc | hc
    ·cases n with
     | zero => omega
     | succ n => exact hexP_dig n (v / 16) (by omega) c hc
    ·simp only [List.mem_cons,List.not_mem_nil,or_false] at hc
     exact ⟨v % 16,by omega,hc⟩
theorem hexU_dig (v : Nat) : ∀ c ∈ hexU v,∃ d,d < 16 ∧ c = hexC d:=by
 intro c hc
 unfold hexU at hc
 rcases List.mem_append.1 hc with hc | hc
 ·exact hexP_dig _ _ (Nat.le_refl _) c hc
 ·simp only [List.mem_cons,List.not_mem_nil,or_false] at hc
  exact ⟨v % 16,by omega,hc⟩
theorem upper_hexLo (v : Nat) : Lib.toUpperA (hexLo v) = hexU v:=by
 unfold Lib.toUpperA hexLo
 rw [List.map_map]
 conv => rhs; rw [← List.map_id (hexU v)]
 refine List.map_congr_left fun c hc => ?_
 obtain ⟨d,h,rfl⟩:=hexU_dig v c hc
 exact (up_low d h).1
theorem hexLo_ascii (v : Nat) : ∀ (j : Nat) (b : UInt8),(hexLo v)[j]? = some b → b.toNat < 128:=by
 intro j b h
 have hm:=List.mem_of_getElem? h
 unfold hexLo at hm
 obtain ⟨c,hc,rfl⟩:=List.mem_map.1 hm
 obtain ⟨d,h',rfl⟩:=hexU_dig v c hc
 exact (up_low d h').2
theorem upper_any (v : Nat) (hv : v ≤ 18446744073709551615) (w : World) : Calls Tryz.prog 151 #[.string ⟨(hexLo v).toArray⟩] w fun e w' => e = .returned (.string ⟨(hexU v).toArray⟩) ∧ Below w.heap.size w w':=by
 have hl : (hexLo v).length ≤ 16:=by unfold hexLo; rw [List.length_map]; exact hexU_len hv
 have:=Tryz.strings_ToUpper_ascii ⟨(hexLo v).toArray⟩ w (by rw [ByteArray.size_mk',List.size_toArray]; omega) (fun j b h => hexLo_ascii v j b (by simpa using h))
 refine this.mono fun e w' ⟨he,hb⟩ => ⟨?_,hb⟩
 rw [he]
 show Ending.returned (.string ⟨(Lib.toUpperA (hexLo v)).toArray⟩) = _
 rw [upper_hexLo]
abbrev BoxK (w : World) (B b : Nat) (l : List UInt8) : Prop:=∀ o,BldK (w.alloc o) B b l ∧ Below B w (w.alloc o) ∧ KeptK b w (w.alloc o)
theorem boxK {w : World} {B b : Nat} {l : List UInt8} (h : BldK w B b l) : BoxK w B b l:=fun o => ⟨h.alloc o,(Below.refl _ _).alloc h.2 o,KeptK.of ((Below.refl _ _).alloc (Nat.le_refl _) o)⟩
theorem wtok_word (B b : Nat) (l s : List UInt8) (k n d : Int) (hk : k = 1 ∨ k = 2) (w : World) (h : BldK w B b l) (hl : l.length ≤ 1000000000) (hs : s.length ≤ 1000000) :
  Calls Tryz.prog 125 #[.pointer (some ⟨b,0,none⟩),tokV k n s d] w (WrPost w B b (l ++ s)):=by
 have HB:=Lib.hid (boxK h)
 have HL : Hid (l.length + s.length ≤ 140737488355328):=Lib.hid (by omega)
 clear h hl hs
 unfold tokV
 rcases hk with rfl | rfl
 all_goals
  go_enter Tryz.func125,Tryz.ntmps125
  go_wp2_with fail
  ((with_reducible refine (blk_str B b l s _ (HB.out _).1 HL.out).mono ?_))
  rintro e w2 ⟨rfl,hb,hw,hk⟩
  have HB2:=Lib.hid hb
  have HW2:=Lib.hid (bel_next (HB.out _).2.1 hw)
  have HK2:=Lib.hid ((HB.out _).2.2.trans hk)
  clear hb hw hk HB
  go_wp2_with fail
  go_end0
  exact ⟨rfl,HB2.out,HW2.out,HK2.out⟩
theorem wtok_text (B b : Nat) (l s : List UInt8) (n d : Int) (w : World) (h : BldK w B b l) (hl : l.length ≤ 1000000000) (hs : s.length ≤ 1000000) :
  Calls Tryz.prog 125 #[.pointer (some ⟨b,0,none⟩),tokV 4 n s d] w (WrPost w B b (l ++ quoL s)):=by
 have HB:=Lib.hid (boxK h)
 have HL:=Lib.hid hl
 have HS:=Lib.hid hs
 clear h hl hs
 unfold tokV
 go_enter Tryz.func125,Tryz.ntmps125
 go_wp2_with fail
 ((with_reducible refine (wstr_any B b l s _ (HB.out _).1 HL.out HS.out).mono ?_))
 rintro e w2 ⟨rfl,hb,hw,hk⟩
 have HB2:=Lib.hid hb
 have HW2:=Lib.hid (bel_next (HB.out _).2.1 hw)
 have HK2:=Lib.hid ((HB.out _).2.2.trans hk)
 clear hb hw hk HB
 go_wp2_with fail
 go_end0
 exact ⟨rfl,HB2.out,HW2.out,HK2.out⟩
theorem wtok_sign (B b : Nat) (l s : List UInt8) (k n d : Int) (hk : k = 5 ∨ k = 6 ∨ k = 7 ∨ k = 8 ∨ k = 9) (w : World) (h : BldK w B b l) (hl : l.length ≤ 1000000000) :
  Calls Tryz.prog 125 #[.pointer (some ⟨b,0,none⟩),tokV k n s d] w (WrPost w B b (l ++ punC k)):=by
 have HB:=Lib.hid (boxK h)
 have HL : Hid (l.length + 1 ≤ 140737488355328):=Lib.hid (by omega)
 clear h hl
 unfold tokV
 rcases hk with rfl | rfl | rfl | rfl | rfl
 ·rw [show punC 5 = [40] from rfl]
  go_enter Tryz.func125,Tryz.ntmps125
  go_wp2_with fail
  ((with_reducible refine (blk_lit B b l 40 40 rfl _ (HB.out _).1 HL.out).mono ?_))
  rintro e w2 ⟨rfl,hb,hw,hk⟩
  have HB2:=Lib.hid hb
  have HW2:=Lib.hid (bel_next (HB.out _).2.1 hw)
  have HK2:=Lib.hid ((HB.out _).2.2.trans hk)
  clear hb hw hk HB
  go_wp2_with fail
  go_end0
  exact ⟨rfl,HB2.out,HW2.out,HK2.out⟩
 ·rw [show punC 6 = [41] from rfl]
  go_enter Tryz.func125,Tryz.ntmps125
  go_wp2_with fail
  ((with_reducible refine (blk_lit B b l 41 41 rfl _ (HB.out _).1 HL.out).mono ?_))
  rintro e w2 ⟨rfl,hb,hw,hk⟩
  have HB2:=Lib.hid hb
  have HW2:=Lib.hid (bel_next (HB.out _).2.1 hw)
  have HK2:=Lib.hid ((HB.out _).2.2.trans hk)
  clear hb hw hk HB
  go_wp2_with fail
  go_end0
  exact ⟨rfl,HB2.out,HW2.out,HK2.out⟩
 ·rw [show punC 7 = [123] from rfl]
  go_enter Tryz.func125,Tryz.ntmps125
  go_wp2_with fail
  ((with_reducible refine (blk_lit B b l 123 123 rfl _ (HB.out _).1 HL.out).mono ?_))
  rintro e w2 ⟨rfl,hb,hw,hk⟩
  have HB2:=Lib.hid hb
  have HW2:=Lib.hid (bel_next (HB.out _).2.1 hw)
  have HK2:=Lib.hid ((HB.out _).2.2.trans hk)
  clear hb hw hk HB
  go_wp2_with fail
  go_end0
  exact ⟨rfl,HB2.out,HW2.out,HK2.out⟩
 ·rw [show punC 8 = [125] from rfl]
  go_enter Tryz.func125,Tryz.ntmps125
  go_wp2_with fail
  ((with_reducible refine (blk_lit B b l 125 125 rfl _ (HB.out _).1 HL.out).mono ?_))
  rintro e w2 ⟨rfl,hb,hw,hk⟩
  have HB2:=Lib.hid hb
  have HW2:=Lib.hid (bel_next (HB.out _).2.1 hw)
  have HK2:=Lib.hid ((HB.out _).2.2.trans hk)
  clear hb hw hk HB
  go_wp2_with fail
  go_end0
  exact ⟨rfl,HB2.out,HW2.out,HK2.out⟩
 ·rw [show punC 9 = [44] from rfl]
  go_enter Tryz.func125,Tryz.ntmps125
  go_wp2_with fail
  ((with_reducible refine (blk_lit B b l 44 44 rfl _ (HB.out _).1 HL.out).mono ?_))
  rintro e w2 ⟨rfl,hb,hw,hk⟩
  have HB2:=Lib.hid hb
  have HW2:=Lib.hid (bel_next (HB.out _).2.1 hw)
  have HK2:=Lib.hid ((HB.out _).2.2.trans hk)
  clear hb hw hk HB
  go_wp2_with fail
  go_end0
  exact ⟨rfl,HB2.out,HW2.out,HK2.out⟩
theorem Tz16.below {B : Nat} {w w' : World} (h : Tz16 w) (hb : Below B w w') (hg : 7 < B) : Tz16 w':=(hb.cell (p:=⟨7,15,none⟩) hg).trans h
theorem wtok_int (B b : Nat) (l s : List UInt8) (n : Nat) (d : Int) (w : World) (h : BldK w B b l) (hl : l.length ≤ 1000000000) (hn : n ≤ 18446744073709551615) (hT : Tz16 w) :
  Calls Tryz.prog 125 #[.pointer (some ⟨b,0,none⟩),tokV 3 n s d] w (WrPost w B b (l ++ fmtI n)):=by
 have HB:=Lib.hid (boxK h)
 have HL : Hid (l.length + 20 ≤ 140737488355328):=Lib.hid (by omega)
 have HT : Hid (∀ o,Tz16 (w.alloc o)):=Lib.hid fun o => hT.below ((Below.refl _ _).alloc (Nat.le_refl _) o) (World.block_lt_of_cell? w _ hT)
 clear h hl hT
 unfold tokV
 by_cases h10 : (n : Int) < 10
 ·have hf : fmtI n = [hexC n]:=by unfold fmtI; rw [if_pos (by omega),hexU_small (by omega)]
  have hc : ((hexC n).toNat : Int) = (48 + n):=by rw [((hexC_val n (by omega)).2.2 (by omega)).2]; omega
  rw [hf]
  obtain ⟨c,hcc⟩ : ∃ c,hexC n = c:=⟨_,rfl⟩
  rw [hcc] at hc ⊢
  clear hf hcc HT
  go_enter Tryz.func125,Tryz.ntmps125
  go_wp2_with fail
  ((with_reducible refine (blk_lit B b l c _ hc _ (HB.out _).1 (by have:=HL.out; omega)).mono ?_))
  rintro e w2 ⟨rfl,hb,hw,hk⟩
  have HB2:=Lib.hid hb
  have HW2:=Lib.hid (bel_next (HB.out _).2.1 hw)
  have HK2:=Lib.hid ((HB.out _).2.2.trans hk)
  clear hb hw hk HB
  go_wp2_with fail
  go_end0
  exact ⟨rfl,HB2.out,HW2.out,HK2.out⟩
 ·have hf : fmtI n = 48 :: 120 :: hexU n:=by unfold fmtI; rw [if_neg (by omega)]
  have hul:=hexU_len hn
  rw [hf]
  have KF:=Lib.hid (fun w h => fmt16_any n w (Lib.hid hn) h)
  have KU:=Lib.hid (fun w => upper_any n hn w)
  obtain ⟨U,hU⟩ : ∃ U,hexU n = U:=⟨_,rfl⟩
  obtain ⟨V,hV⟩ : ∃ U,hexLo n = U:=⟨_,rfl⟩
  rw [hU] at KU hul ⊢
  rw [hV] at KF KU
  have HUL : Hid (U.length ≤ 16):=Lib.hid hul
  have hc:=cat0x U
  clear hf hU hV
  go_enter Tryz.func125,Tryz.ntmps125
  go_wp2_with fail
  ((with_reducible refine (KF.out _ (HT.out _)).mono ?_))
  rintro e w2 ⟨rfl,hb⟩
  have HB2:=Lib.hid ((HB.out _).1.below hb)
  have HW2:=Lib.hid (bel_next (HB.out _).2.1 (hb.mono (HB.out _).1.2))
  have HK2:=Lib.hid ((HB.out _).2.2.trans (KeptK.of hb))
  clear hb HB HT KF
  go_wp2_with fail
  ((with_reducible refine (KU.out _).mono ?_))
  rintro e w3 ⟨rfl,hb⟩
  have HB3:=Lib.hid (HB2.out.below hb)
  have HW3:=Lib.hid (bel_next HW2.out (hb.mono HB2.out.2))
  have HK3:=Lib.hid (HK2.out.trans (KeptK.of hb))
  clear hb HB2 HW2 HK2 KU
  go_wp2_with fail
  ((with_reducible refine (blk_str B b l (48 :: 120 :: U) _ HB3.out (by have:=HL.out; have:=HUL.out; simp only [List.length_cons]; omega)).mono ?_))
  rintro e w4 ⟨rfl,hb,hw,hk⟩
  have HB4:=Lib.hid hb
  have HW4:=Lib.hid (bel_next HW3.out hw)
  have HK4:=Lib.hid (HK3.out.trans hk)
  clear hb hw hk
  go_wp2_with fail
  go_end0
  exact ⟨rfl,HB4.out,HW4.out,HK4.out⟩
def ShrW (t : TokI) : Prop:=t.str.length ≤ 65536 ∨ t.kind ≠ 1 ∧ t.kind ≠ 2 ∧ t.kind ≠ 4
theorem wtok_any (B b : Nat) (l : List UInt8) (t : TokI) (w : World) (h : BldK w B b l) (hl : l.length ≤ 1000000000) (hv : validT t = true) (h0 : 0 ≤ t.num) (h1 : t.num ≤ 18446744073709551615) (hs : ShrW t) (hT : Tz16 w) :
  Calls Tryz.prog 125 #[.pointer (some ⟨b,0,none⟩),t.val] w (WrPost w B b (l ++ fmtT t)):=by
 obtain ⟨k,n,s,d⟩:=t
 unfold fmtT TokI.val
 unfold ShrW at hs
 simp only at h0 h1 hs ⊢
 by_cases h12 : k = 1 ∨ k = 2
 ·rw [if_pos h12]
  exact wtok_word B b l s k n d h12 w h hl (by rcases hs with h | ⟨a,b,c⟩ <;> omega)
 ·rw [if_neg h12]
  by_cases h3 : k = 3
  ·subst h3
   rw [if_pos rfl]
   have e : n = (n.toNat : Int):=by omega
   have:=wtok_int B b l s n.toNat d w h hl (by omega) hT
   rw [← e] at this
   exact this
  ·rw [if_neg h3]
   by_cases h4 : k = 4
   ·subst h4; rw [if_pos rfl]
    exact wtok_text B b l s n d w h hl (by rcases hs with h | ⟨a,b,c⟩ <;> omega)
   ·rw [if_neg h4]
    refine wtok_sign B b l s k n d ?_ w h hl
    unfold validT at hv
    simp only at hv
    rw [if_neg (fun e => h12 (.inl e)),if_neg (fun e => h12 (.inr e)),if_neg h4,decide_eq_true_eq] at hv
    omega
end
section
open Go.RowKit
attribute [local go_sem] ByteArray.mk_append_mk bs_get bs_cut bs_end
def sepK : Nat → List UInt8
 | 0 => []
 | _ + 1 => [32]
def textJ (L : List TokI) : Nat → List UInt8
 | 0 => []
 | k + 1 => textJ L k ++ sepK k ++ fmtT (L.getD k ⟨0,0,[],0⟩)
def FineW (t : TokI) : Prop:=validT t = true ∧ NumI t ∧ ShrW t ∧ t.str.length ≤ 9223372036854770000
def Fine (t : TokI) : Prop:=validT t = true ∧ NumI t ∧ Shrt t ∧ t.str.length ≤ 9223372036854770000
theorem Fine.w {t : TokI} (h : Fine t) : FineW t:=⟨h.1,h.2.1,h.2.2.1.imp (fun h => by omega) id,h.2.2.2⟩
theorem textJ_up (L : List TokI) (k : Nat) : ∀ m,(textJ L k).length ≤ (textJ L (k + m)).length
 | 0 => Nat.le_refl _
 | m + 1 => by
   have:=textJ_up L k m
   rw [show k + (m + 1) = (k + m) + 1 by omega,textJ,List.length_append,List.length_append]
   omega
theorem textJ_succ {L : List TokI} {k : Nat} (h : k < L.length) : textJ L (k + 1) = textJ L k ++ sepK k ++ fmtT L[k]:=by rw [textJ]; simp [List.getD,h]
set_option maxRecDepth 100000 in
set_option maxHeartbeats 4000000 in
theorem tformat_len (v : Value) (L : List TokI) (w : World) (h : TSl w v L) (hf : ∀ t ∈ L,FineW t) (hn : L.length ≤ 100000) (hlen : (textJ L L.length).length ≤ 900000000) (hT : Tz16 w) :
  Calls Tryz.prog 79 #[v] w fun e w' => e = .returned (.string ⟨(textJ L L.length).toArray⟩) ∧ Below w.heap.size w w':=by
 obtain ⟨a,c,rfl,hv⟩:=h
 have HT : Hid (TSl w (.slice a L.length c) L):=Lib.hid ⟨a,c,rfl,hv⟩
 have HF:=Lib.hid hf
 have HZ:=Lib.hid hT
 have HZB : Hid (7 < w.heap.size):=Lib.hid (World.block_lt_of_cell? w _ hT)
 have HTL : Hid (∀ j,j ≤ L.length → (textJ L j).length ≤ 900000000):=Lib.hid (fun j hj => by have:=textJ_up L j (L.length - j); rw [show j + (L.length - j) = L.length by omega] at this; omega)
 clear hlen
 obtain ⟨X,HR⟩ : ∃ X,Hid (textJ L L.length = X):=⟨_,Lib.hid rfl⟩
 rw [HR.out]
 clear hv hf hT
 go_enter Tryz.func79,Tryz.ntmps79
 go_wp2_with fail
 go_loopw [10] (fun i wr => ∃ k : Nat,i = .int .i64 k ∧ k ≤ L.length ∧ Hid (Below w.heap.size w wr)) (fun i _ => L.length - (intOf i).toNat)
 case atStart => exact ⟨0,rfl,by omega,Lib.hid (Below.refl _ _)⟩
 case round =>
  obtain ⟨k,rfl,hk,HB⟩:=hrel
  obtain ⟨w1,rfl⟩ : ∃ y : World,y = wr:=⟨_,rfl⟩
  by_cases hlt : k < L.length
  ·obtain ⟨b,off,rfl,hcell⟩:=HT.out.at k hlt
   obtain ⟨t,ht⟩ : ∃ t,L[k] = t:=⟨_,rfl⟩
   have hff:=HF.out _ (List.getElem_mem hlt)
   rw [ht] at hff hcell
   obtain ⟨c0,c1,c2,c3⟩:=hcell.below HB.out
   have KV:=Lib.hid (fun w => tvalid_any t w hff.2.2.2)
   rw [hff.1] at KV
   clear hff hcell ht
   obtain ⟨tk,tn,ts,td⟩:=t
   unfold TokI.val at KV
   simp only [tokV] at KV c0 c1 c2 c3
   go_wp2_with fail
   ((with_reducible refine (KV.out _).mono ?_))
   rintro e w2 ⟨rfl,hb⟩
   have HB2:=Lib.hid (bel_then (HB.out.alloc HB.out.size _) (Nat.le_refl _) hb)
   clear hb HB
   go_wp2_with fail
   go_roundw
   case rel => exact ⟨k + 1,by go_num,by omega,HB2⟩
   case measure => simp [intOf]; omega
  ·go_wp2_with fail
   have HBK:=Lib.hid (BldK.fresh w1)
   have HB2:=Lib.hid (HB.out.alloc HB.out.size (.cells #[.pointer none,.slice none 0 0] 75))
   go_loopw [20] (fun i wr => ∃ k : Nat,i = .int .i64 k ∧ k ≤ L.length ∧ Hid (BldK wr w1.heap.size w1.heap.size (textJ L k)) ∧ Hid (Below w1.heap.size w1 wr)) (fun i _ => L.length - (intOf i).toNat)
   case atStart => exact ⟨0,rfl,by omega,HBK,Lib.hid ((Below.refl _ _).alloc (Nat.le_refl _) _)⟩
   case round =>
    clear HBK HB2
    obtain ⟨j,rfl,hj,HK,HW⟩:=hrel
    obtain ⟨w3,rfl⟩ : ∃ y : World,y = wr:=⟨_,rfl⟩
    by_cases hlj : j < L.length
    ·obtain ⟨b,off,rfl,hcell⟩:=HT.out.at j hlj
     obtain ⟨t,ht⟩ : ∃ t,L[j] = t:=⟨_,rfl⟩
     have hff:=HF.out _ (List.getElem_mem hlj)
     have hsucc:=textJ_succ hlj
     rw [ht] at hff hcell hsucc
     have HS:=Lib.hid hsucc
     obtain ⟨c0,c1,c2,c3⟩:=hcell.below (HB.out.trans (HW.out.mono HB.out.size))
     have HFF:=Lib.hid hff
     clear hff hcell ht hsucc
     obtain ⟨tk,tn,ts,td⟩:=t
     simp only [tokV] at c0 c1 c2 c3
     have HTX:=Lib.hid (HTL.out j hj)
     have HAB:=Lib.hid (HW.out.alloc HW.out.size (tObj tk tn ts td))
     have HAK:=Lib.hid (HK.out.alloc (tObj tk tn ts td))
     have HBN : Hid (w3.heap.size ≠ w1.heap.size):=Lib.hid (by have:=HK.out.lt; omega)
     have HNL:=Lib.hid (heap_alloc_new w3 (tObj tk tn ts td))
     have HTZ : Hid (∀ w',Below w1.heap.size w1 w' → Tz16 w'):=Lib.hid (fun w' h => HZ.out.below (HB.out.trans (h.mono HB.out.size)) HZB.out)
     have HTOK : Hid (∀ w' l,BldK w' w1.heap.size w1.heap.size l → l.length ≤ 1000000000 → Below w1.heap.size w1 w' → Calls Tryz.prog 125 #[.pointer (some ⟨w1.heap.size,0,none⟩),.agg #[.int .i64 tk,.int .u64 tn,.string ⟨ts.toArray⟩,.int .i64 td]] w' (WrPost w' w1.heap.size w1.heap.size (l ++ fmtT ⟨tk,tn,ts,td⟩))):=Lib.hid (fun w' l h1 h2 h3 => wtok_any _ _ l ⟨tk,tn,ts,td⟩ w' h1 h2 HFF.out.1 HFF.out.2.1.1 HFF.out.2.1.2 HFF.out.2.2.1 (HTZ.out _ h3))
     obtain ⟨F,hF⟩ : ∃ F,fmtT ⟨tk,tn,ts,td⟩ = F:=⟨_,rfl⟩
     rw [hF] at HS HTOK
     obtain ⟨x,hx⟩ : ∃ x,textJ L j = x:=⟨_,rfl⟩
     rw [hx] at HS HTX HAK
     clear hF hx HFF HK HTZ
     by_cases h0 : 0 < j
     ·have HS2 : Hid (textJ L (j + 1) = x ++ [32] ++ F):=Lib.hid (by rw [HS.out]; cases j with
       | zero => omega
       | succ j => rfl)
      clear HS
      go_wp2_with fail
      ((with_reducible refine (blk_lit w1.heap.size w1.heap.size x 32 32 rfl _ HAK.out (by have:=HTX.out; omega)).mono ?_))
      rintro e w4 ⟨rfl,hb,hw,hkk⟩
      have HB4:=Lib.hid hb
      have HW4:=Lib.hid (HAB.out.trans hw)
      have HN4:=Lib.hid (hkk.blk HNL.out HBN.out (by decide))
      clear hb hw hkk HAK HAB HNL c0 c1 c2 c3
      obtain ⟨c0,c1,c2,c3⟩:=cells4 HN4.out
      go_wp2_with fail
      ((with_reducible refine (HTOK.out _ _ HB4.out (by rw [List.length_append]; have:=HTX.out; simp; omega) HW4.out).mono ?_))
      rintro e w5 ⟨rfl,hb,hw,hkk⟩
      have HB5:=Lib.hid hb
      have HW5:=Lib.hid (HW4.out.trans hw)
      clear hb hw hkk HB4 HW4 c0 c1 c2 c3
      go_wp2_with fail
      go_roundw
      case rel => exact ⟨j + 1,by go_num,by omega,by rw [HS2.out]; exact HB5,HW5⟩
      case measure => simp [intOf]; omega
     ·have hj0 : j = 0:=by omega
      have HS2 : Hid (textJ L (j + 1) = x ++ F):=Lib.hid (by rw [HS.out,hj0]; show x ++ [] ++ F = _; rw [List.append_nil])
      clear HS hj0
      go_wp2_with fail
      ((with_reducible refine (HTOK.out _ _ HAK.out (by have:=HTX.out; omega) HAB.out).mono ?_))
      rintro e w5 ⟨rfl,hb,hw,hkk⟩
      have HB5:=Lib.hid hb
      have HW5:=Lib.hid (HAB.out.trans hw)
      clear hb hw hkk HAK HAB c0 c1 c2 c3
      go_wp2_with fail
      go_roundw
      case rel => exact ⟨j + 1,by go_num,by omega,by rw [HS2.out]; exact HB5,HW5⟩
      case measure => simp [intOf]; omega
    ·have hjj : j = L.length:=by omega
     rw [hjj,HR.out] at HK
     clear hjj
     go_wp2_with fail
     ((with_reducible refine (blk_string w1.heap.size w1.heap.size X _ HK.out).mono ?_))
     rintro e w4 ⟨rfl,hw⟩
     have HW4:=Lib.hid (HW.out.trans hw)
     clear hw
     go_wp2_with fail
     go_ret
     exact ⟨rfl,HB.out.trans (HW4.out.mono HB.out.size)⟩
end
section
open Go.RowKit
end
section
open Go.RowKit
theorem bare_txt {t u : TokI} (h : bareT t = bareT u) : fmtT t = fmtT u:=by
 have hk:=bare_kind h
 unfold fmtT
 rw [hk]
 by_cases h12 : u.kind = 1 ∨ u.kind = 2
 ·rw [if_pos h12,if_pos h12,bare_str h (by omega)]
 rw [if_neg h12,if_neg h12]
 by_cases h3 : u.kind = 3
 ·rw [if_pos h3,if_pos h3,bare_num h h3]
 rw [if_neg h3,if_neg h3]
 by_cases h4 : u.kind = 4
 ·rw [if_pos h4,if_pos h4,bare_str h (by omega)]
 rw [if_neg h4,if_neg h4]
end
section
open Go.RowKit
def sep4 : List (List UInt8):=[[32],[10,9],[47,42,32,123,32,42,47],[32,47,47,32,41,10]]
def SepOk (s : List UInt8) : Prop:=Blank s ∧ ∀ D,Brk (s ++ D)
theorem sep4_ok : ∀ s ∈ sep4,SepOk s:=by
 intro s hs
 simp only [sep4,List.mem_cons,List.not_mem_nil,or_false] at hs
 rcases hs with rfl | rfl | rfl | rfl
 ·exact ⟨fun D => skipL_blank rfl,fun D => brk_cons rfl (by decide) (by decide)⟩
 ·exact ⟨fun D => (skipL_blank rfl).trans (skipL_blank rfl),fun D => brk_cons rfl (by decide) (by decide)⟩
 ·refine ⟨fun D => ?_,fun D => brk_cons rfl (by decide) (by decide)⟩
  show skipL (47 :: 42 :: 32 :: 123 :: 32 :: 42 :: 47 :: D) = skipL D
  rw [skipL_block (t:=D) rfl]
 ·refine ⟨fun D => (skipL_blank rfl).trans ((skipL_line (32 :: 41 :: 10 :: D)).trans ?_),fun D => brk_cons rfl (by decide) (by decide)⟩
  have e : (47 :: 47 :: 32 :: 41 :: 10 :: D : List UInt8).dropWhile (· != 10) = 10 :: D:=rfl
  rw [e]
  exact skipL_blank rfl
def sepX (sp : List UInt8) (i : Nat) : List UInt8:=if i < sp.length then sep4.getD ((sp.getD i 0).toNat % 4) [] else [32]
theorem sepX_ok (sp : List UInt8) (i : Nat) : SepOk (sepX sp i) ∧ (sepX sp i).length ≤ 7:=by
 unfold sepX
 split
 ·have h4 : ((sp.getD i 0).toNat % 4) < 4:=Nat.mod_lt _ (by decide)
  generalize (sp.getD i 0).toNat % 4 = q at h4
  have hm : sep4.getD q [] ∈ sep4:=by
   have : ∀ j : Fin 4,sep4.getD j.val [] ∈ sep4:=by decide
   exact this ⟨q,h4⟩
  refine ⟨sep4_ok _ hm,?_⟩
  have : ∀ s ∈ sep4,s.length ≤ 7:=by decide
  exact this _ hm
 ·exact ⟨sep4_ok [32] (by decide),by simp⟩
def zipX (sp : List UInt8) : List TokI → Nat → List (TokI × List UInt8)
 | [],_ => []
 | t :: r,i => (t,sepX sp i) :: zipX sp r (i + 1)
theorem zipX_len (sp : List UInt8) : ∀ (M : List TokI) (i : Nat),(zipX sp M i).length = M.length
 | [],i => rfl
 | t :: r,i => by rw [zipX,List.length_cons,zipX_len sp r,List.length_cons]
theorem zipX_at (sp : List UInt8) : ∀ (M : List TokI) (i k : Nat) (h : k < M.length),(zipX sp M i)[k]? = some (M[k],sepX sp (i + k))
 | t :: r,i,0,h => rfl
 | t :: r,i,k + 1,h => by
   rw [zipX,List.getElem?_cons_succ,zipX_at sp r (i + 1) k (by simpa using h),List.getElem_cons_succ]
   rw [show i + 1 + k = i + (k + 1) by omega]
theorem zipX_fst (sp : List UInt8) : ∀ (M : List TokI) (i : Nat),(zipX sp M i).map (·.1) = M
 | [],i => rfl
 | t :: r,i => by rw [zipX,List.map_cons,zipX_fst sp r]
theorem zipX_ok (sp : List UInt8) : ∀ (M : List TokI) (i : Nat),(∀ t ∈ M,OkT t) → ∀ z ∈ zipX sp M i,OkT z.1 ∧ SepOk z.2
 | [],i,h,z,hz => by cases hz
 | t :: r,i,h,z,hz => by
   rw [zipX] at hz
   rcases List.mem_cons.1 hz with rfl | hz
   ·exact ⟨h t (by simp),(sepX_ok sp i).1⟩
   ·exact zipX_ok sp r (i + 1) (fun x hx => h x (by simp [hx])) z hz
def catX (Z : List (TokI × List UInt8)) : List UInt8:=Z.flatMap fun z => fmtT z.1 ++ z.2
def txtX (M : List TokI) (sp : List UInt8) (k : Nat) : List UInt8:=catX ((zipX sp M 0).take k)
theorem txtX_succ {M : List TokI} {sp : List UInt8} {k : Nat} (h : k < M.length) : txtX M sp (k + 1) = txtX M sp k ++ (fmtT M[k] ++ sepX sp k):=by
 have h2 : k < (zipX sp M 0).length:=by rw [zipX_len]; exact h
 have h3:=zipX_at sp M 0 k h
 rw [List.getElem?_eq_getElem h2] at h3
 injection h3 with h3
 unfold txtX catX
 rw [List.take_succ_eq_append_getElem h2,List.flatMap_append,h3,Nat.zero_add]
 simp
def shiftP : List UInt8 → List (TokI × List UInt8) → PT
 | _,[] => []
 | pre,z :: r => (pre,z.1) :: shiftP z.2 r
def tailP : List UInt8 → List (TokI × List UInt8) → List UInt8
 | pre,[] => pre
 | _,z :: r => tailP z.2 r
theorem shift_text : ∀ (Z : List (TokI × List UInt8)) (pre : List UInt8),textP (shiftP pre Z) ++ tailP pre Z = pre ++ catX Z
 | [],pre => by simp [shiftP,tailP,textP_nil,catX]
 | z :: r,pre => by
   have ih:=shift_text r z.2
   rw [shiftP,tailP,textP_cons,List.append_assoc,List.append_assoc,ih]
   simp [catX]
theorem shift_snd : ∀ (Z : List (TokI × List UInt8)) (pre : List UInt8),(shiftP pre Z).map (·.2) = Z.map (·.1)
 | [],pre => rfl
 | z :: r,pre => by rw [shiftP,List.map_cons,List.map_cons,shift_snd r]
theorem shift_good : ∀ (Z : List (TokI × List UInt8)) (pre : List UInt8),Blank pre → (∀ z ∈ Z,OkT z.1 ∧ SepOk z.2) → GoodP (tailP pre Z) (shiftP pre Z)
 | [],pre,hb,h => by
   show skipL pre = ([],true)
   have:=hb []
   rw [List.append_nil] at this
   rw [this]; rfl
 | z :: r,pre,hb,h => by
   obtain ⟨h1,h2,h3⟩:=h z (by simp)
   refine ⟨hb,h1,.inr ?_,shift_good r z.2 h2 (fun x hx => h x (by simp [hx]))⟩
   rw [tailP,shift_text]
   exact h3 _
theorem map_bare {α : Type} {f : TokI → α} (hf : ∀ t u,bareT t = bareT u → f t = f u) : ∀ (M : List TokI) (P : List TokI),M.map bareT = P.map bareT → M.map f = P.map f
 | [],[],h => rfl
 | [],u :: P,h => by cases h
 | t :: M,[],h => by cases h
 | t :: M,u :: P,h => by
   rw [List.map_cons,List.map_cons] at h
   injection h with h1 h2
   rw [List.map_cons,List.map_cons,hf t u h1,map_bare hf M P h2]
def coreT (t : Tok) : Nat × Nat × List UInt8:=(t.kind,t.num,t.str)
def coreI (t : TokI) : Nat × Nat × List UInt8:=((itT t).1,(itT t).2.1,(itT t).2.2.1)
theorem toksP_core : ∀ (L : PT) (p : Nat),(toksP p L).map coreT = (L.map (·.2)).map coreI
 | [],p => rfl
 | x :: r,p => by rw [toksP,List.map_cons,toksP_core r]; rfl
theorem core_bare (t u : TokI) (h : bareT t = bareT u) : coreI t = coreI u:=by
 unfold coreI itT
 rw [bare_txt h]
theorem prog_seps (p : List Nd) (hp : NumsOk p) (hg : ∀ t ∈ p,NdG t) (hv : validL p = true) (hf : For6 p) (sp : List UInt8) : ∃ T : List Tok,scanL (fmtP p) = (T,0,0) ∧ (∀ t ∈ T.map Tok.toI,TV t) ∧ T.length ≤ 65536 ∧
  ((txtX (T.map Tok.toI) sp T.length).length ≤ 65536 → ∃ T2 : List Tok,scanL (txtX (T.map Tok.toI) sp T.length) = (T2,0,0) ∧ parseL (txtX (T.map Tok.toI) sp T.length) = (p,0,0) ∧ T2.map coreT = T.map coreT):=by
 have hl:=fmtP_ln6 p hg hv hf
 have hsc:=fmt_scan p hp hv hl
 have htv:=scan_tv p hp hv
 rw [hsc] at htv
 have htl:=scanL_len (fmtP p)
 rw [hsc] at htl
 refine ⟨_,hsc,htv,htl,fun hlen => ?_⟩
 obtain ⟨T,hT⟩ : ∃ T,toksP 0 (topE p p.length true 0) = T:=⟨_,rfl⟩
 have hbare : (T.map Tok.toI).map bareT = ((topE p p.length true 0).map (·.2)).map bareT:=by
  rw [← hT,List.map_map,List.map_map]
  exact toksP_bare _ 0 (top_ok p hp hv)
 have hcT : T.map coreT = ((topE p p.length true 0).map (·.2)).map coreI:=by rw [← hT]; exact toksP_core _ 0
 rw [hT] at hlen htv ⊢
 obtain ⟨M,hM⟩ : ∃ M,T.map Tok.toI = M:=⟨_,rfl⟩
 have hML : T.length = M.length:=by rw [← hM,List.length_map]
 rw [hM] at hbare hlen htv ⊢
 rw [hML] at hlen ⊢
 have hok:=zipX_ok sp M 0 (fun t ht => (htv t ht).1)
 have hgood:=shift_good (zipX sp M 0) [] (fun D => rfl) hok
 have htxt : txtX M sp M.length = textP (shiftP [] (zipX sp M 0)) ++ tailP [] (zipX sp M 0):=by
  rw [shift_text,List.nil_append]
  unfold txtX
  rw [List.take_of_length_le (by rw [zipX_len]; omega)]
 have hscan : scanL (txtX M sp M.length) = (toksP 0 (shiftP [] (zipX sp M 0)),0,0):=by
  rw [scanL_go (by omega),scan_pieces _ _ _ 0 [] hgood (by rw [List.drop_zero]; exact htxt) (by omega)]
  rfl
 have hsnd : (shiftP [] (zipX sp M 0)).map (·.2) = M:=by rw [shift_snd,zipX_fst]
 refine ⟨_,hscan,?_,?_⟩
 ·unfold parseL
  rw [hscan,if_neg (by simp)]
  refine toks_parse p hp hv _ _ ?_
  unfold BM
  rw [List.map_map]
  have h1:=toksP_bare (shiftP [] (zipX sp M 0)) 0 (fun x hx => by
   have : x.2 ∈ (shiftP [] (zipX sp M 0)).map (·.2):=List.mem_map_of_mem hx
   rw [hsnd] at this
   exact (htv _ this).1)
  have h2 : (shiftP [] (zipX sp M 0)).map (fun x => bareT x.2) = M.map bareT:=by
   conv => rhs; rw [← hsnd]
   rw [List.map_map]; rfl
  have h3 : (topE p p.length true 0).map (fun x => bareT x.2) = M.map bareT:=by
   rw [hbare,List.map_map]; rfl
  rw [h3,← h2]
  exact h1
 ·rw [toksP_core,hsnd,hcT]
  exact map_bare core_bare _ _ hbare
end
end Go.Proofs.YtnicnfchkdmieaaGreatDoor
