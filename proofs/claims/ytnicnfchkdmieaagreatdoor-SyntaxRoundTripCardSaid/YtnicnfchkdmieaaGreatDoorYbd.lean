/- Tlm Tln Tlp Jc -/
import Derived.Test.YtnicnfchkdmieaaGreatDoorYbc
import Derived.Test.YtnicnfchkdmieaaGreatDoorYav
import Derived.Test.YtnicnfchkdmieaaGreatDoorYba
import Derived.Test.YtnicnfchkdmieaaGreatDoorYau
set_option linter.unusedVariables false
set_option linter.unusedSimpArgs false
namespace Go.Proofs.YtnicnfchkdmieaaGreatDoor
section
open Go.RowKit
attribute [local go_sem] ByteArray.mk_append_mk bs_get bs_cut bs_end
theorem cat0x (x : List UInt8) : (#[48, 120] : Array UInt8) ++ x.toArray = (48 :: 120 :: x).toArray := by simp
theorem up_low (d : Nat) (h : d < 16) : Lib.upperB (lowC (hexC d)) = hexC d ∧ (lowC (hexC d)).toNat < 128 := by
 have : ∀ d : Fin 16, Lib.upperB (lowC (hexC d.val)) = hexC d.val ∧ (lowC (hexC d.val)).toNat < 128 := by decide +kernel
 exact this ⟨d, h⟩
theorem hexP_dig : ∀ (n v : Nat), v ≤ n → ∀ c ∈ hexP v, ∃ d, d < 16 ∧ c = hexC d
 | n, v, h, c, hc => by
   by_cases h0 : v = 0
   ·subst h0; rw [hexP_zero] at hc; cases hc
   ·rw [hexP_pos h0] at hc
    rcases List.mem_append.1 hc with hc | hc
    ·cases n with
     | zero => omega
     | succ n => exact hexP_dig n (v / 16) (by omega) c hc
    ·simp only [List.mem_cons, List.not_mem_nil, or_false] at hc
     exact ⟨v % 16, by omega, hc⟩
theorem hexU_dig (v : Nat) : ∀ c ∈ hexU v, ∃ d, d < 16 ∧ c = hexC d := by
 intro c hc
 unfold hexU at hc
 rcases List.mem_append.1 hc with hc | hc
 ·exact hexP_dig _ _ (Nat.le_refl _) c hc
 ·simp only [List.mem_cons, List.not_mem_nil, or_false] at hc
  exact ⟨v % 16, by omega, hc⟩
theorem upper_hexLo (v : Nat) : Lib.toUpperA (hexLo v) = hexU v := by
 unfold Lib.toUpperA hexLo
 rw [List.map_map]
 conv => rhs; rw [← List.map_id (hexU v)]
 refine List.map_congr_left fun c hc => ?_
 obtain ⟨d, h, rfl⟩ := hexU_dig v c hc
 exact (up_low d h).1
theorem hexLo_ascii (v : Nat) : ∀ (j : Nat) (b : UInt8), (hexLo v)[j]? = some b → b.toNat < 128 := by
 intro j b h
 have hm := List.mem_of_getElem? h
 unfold hexLo at hm
 obtain ⟨c, hc, rfl⟩ := List.mem_map.1 hm
 obtain ⟨d, h', rfl⟩ := hexU_dig v c hc
 exact (up_low d h').2
theorem upper_any (v : Nat) (hv : v ≤ 18446744073709551615) (w : World) : Calls Tryz.prog 151 #[.string ⟨(hexLo v).toArray⟩] w fun e w' => e = .returned (.string ⟨(hexU v).toArray⟩) ∧ Below w.heap.size w w' := by
 have hl : (hexLo v).length ≤ 16 := by unfold hexLo; rw [List.length_map]; exact hexU_len hv
 have := Tryz.strings_ToUpper_ascii ⟨(hexLo v).toArray⟩ w (by rw [ByteArray.size_mk', List.size_toArray]; omega) (fun j b h => hexLo_ascii v j b (by simpa using h))
 refine this.mono fun e w' ⟨he, hb⟩ => ⟨?_, hb⟩
 rw [he]
 show Ending.returned (.string ⟨(Lib.toUpperA (hexLo v)).toArray⟩) = _
 rw [upper_hexLo]
abbrev BoxK (w : World) (B b : Nat) (l : List UInt8) : Prop := ∀ o, BldK (w.alloc o) B b l ∧ Below B w (w.alloc o) ∧ KeptK b w (w.alloc o)
theorem boxK {w : World} {B b : Nat} {l : List UInt8} (h : BldK w B b l) : BoxK w B b l := fun o => ⟨h.alloc o, (Below.refl _ _).alloc h.2 o, KeptK.of ((Below.refl _ _).alloc (Nat.le_refl _) o)⟩
theorem wtok_word (B b : Nat) (l s : List UInt8) (k n d : Int) (hk : k = 1 ∨ k = 2) (w : World) (h : BldK w B b l) (hl : l.length ≤ 1000000000) (hs : s.length ≤ 1000000) :
  Calls Tryz.prog 125 #[.pointer (some ⟨b, 0, none⟩), tokV k n s d] w (WrPost w B b (l ++ s)) := by
 have HB := Lib.hid (boxK h)
 have HL : Hid (l.length + s.length ≤ 140737488355328) := Lib.hid (by omega)
 clear h hl hs
 unfold tokV
 rcases hk with rfl | rfl
 all_goals
  go_enter Tryz.func125, Tryz.ntmps125
  go_wp2_with fail
  ((with_reducible refine (blk_str B b l s _ (HB.out _).1 HL.out).mono ?_))
  rintro e w2 ⟨rfl, hb, hw, hk⟩
  have HB2 := Lib.hid hb
  have HW2 := Lib.hid (bel_next (HB.out _).2.1 hw)
  have HK2 := Lib.hid ((HB.out _).2.2.trans hk)
  clear hb hw hk HB
  go_wp2_with fail
  go_end0
  exact ⟨rfl, HB2.out, HW2.out, HK2.out⟩
theorem wtok_text (B b : Nat) (l s : List UInt8) (n d : Int) (w : World) (h : BldK w B b l) (hl : l.length ≤ 1000000000) (hs : s.length ≤ 1000000) :
  Calls Tryz.prog 125 #[.pointer (some ⟨b, 0, none⟩), tokV 4 n s d] w (WrPost w B b (l ++ quoL s)) := by
 have HB := Lib.hid (boxK h)
 have HL := Lib.hid hl
 have HS := Lib.hid hs
 clear h hl hs
 unfold tokV
 go_enter Tryz.func125, Tryz.ntmps125
 go_wp2_with fail
 ((with_reducible refine (wstr_any B b l s _ (HB.out _).1 HL.out HS.out).mono ?_))
 rintro e w2 ⟨rfl, hb, hw, hk⟩
 have HB2 := Lib.hid hb
 have HW2 := Lib.hid (bel_next (HB.out _).2.1 hw)
 have HK2 := Lib.hid ((HB.out _).2.2.trans hk)
 clear hb hw hk HB
 go_wp2_with fail
 go_end0
 exact ⟨rfl, HB2.out, HW2.out, HK2.out⟩
theorem wtok_sign (B b : Nat) (l s : List UInt8) (k n d : Int) (hk : k = 5 ∨ k = 6 ∨ k = 7 ∨ k = 8 ∨ k = 9) (w : World) (h : BldK w B b l) (hl : l.length ≤ 1000000000) :
  Calls Tryz.prog 125 #[.pointer (some ⟨b, 0, none⟩), tokV k n s d] w (WrPost w B b (l ++ punC k)) := by
 have HB := Lib.hid (boxK h)
 have HL : Hid (l.length + 1 ≤ 140737488355328) := Lib.hid (by omega)
 clear h hl
 unfold tokV
 rcases hk with rfl | rfl | rfl | rfl | rfl
 ·rw [show punC 5 = [40] from rfl]
  go_enter Tryz.func125, Tryz.ntmps125
  go_wp2_with fail
  ((with_reducible refine (blk_lit B b l 40 40 rfl _ (HB.out _).1 HL.out).mono ?_))
  rintro e w2 ⟨rfl, hb, hw, hk⟩
  have HB2 := Lib.hid hb
  have HW2 := Lib.hid (bel_next (HB.out _).2.1 hw)
  have HK2 := Lib.hid ((HB.out _).2.2.trans hk)
  clear hb hw hk HB
  go_wp2_with fail
  go_end0
  exact ⟨rfl, HB2.out, HW2.out, HK2.out⟩
 ·rw [show punC 6 = [41] from rfl]
  go_enter Tryz.func125, Tryz.ntmps125
  go_wp2_with fail
  ((with_reducible refine (blk_lit B b l 41 41 rfl _ (HB.out _).1 HL.out).mono ?_))
  rintro e w2 ⟨rfl, hb, hw, hk⟩
  have HB2 := Lib.hid hb
  have HW2 := Lib.hid (bel_next (HB.out _).2.1 hw)
  have HK2 := Lib.hid ((HB.out _).2.2.trans hk)
  clear hb hw hk HB
  go_wp2_with fail
  go_end0
  exact ⟨rfl, HB2.out, HW2.out, HK2.out⟩
 ·rw [show punC 7 = [123] from rfl]
  go_enter Tryz.func125, Tryz.ntmps125
  go_wp2_with fail
  ((with_reducible refine (blk_lit B b l 123 123 rfl _ (HB.out _).1 HL.out).mono ?_))
  rintro e w2 ⟨rfl, hb, hw, hk⟩
  have HB2 := Lib.hid hb
  have HW2 := Lib.hid (bel_next (HB.out _).2.1 hw)
  have HK2 := Lib.hid ((HB.out _).2.2.trans hk)
  clear hb hw hk HB
  go_wp2_with fail
  go_end0
  exact ⟨rfl, HB2.out, HW2.out, HK2.out⟩
 ·rw [show punC 8 = [125] from rfl]
  go_enter Tryz.func125, Tryz.ntmps125
  go_wp2_with fail
  ((with_reducible refine (blk_lit B b l 125 125 rfl _ (HB.out _).1 HL.out).mono ?_))
  rintro e w2 ⟨rfl, hb, hw, hk⟩
  have HB2 := Lib.hid hb
  have HW2 := Lib.hid (bel_next (HB.out _).2.1 hw)
  have HK2 := Lib.hid ((HB.out _).2.2.trans hk)
  clear hb hw hk HB
  go_wp2_with fail
  go_end0
  exact ⟨rfl, HB2.out, HW2.out, HK2.out⟩
 ·rw [show punC 9 = [44] from rfl]
  go_enter Tryz.func125, Tryz.ntmps125
  go_wp2_with fail
  ((with_reducible refine (blk_lit B b l 44 44 rfl _ (HB.out _).1 HL.out).mono ?_))
  rintro e w2 ⟨rfl, hb, hw, hk⟩
  have HB2 := Lib.hid hb
  have HW2 := Lib.hid (bel_next (HB.out _).2.1 hw)
  have HK2 := Lib.hid ((HB.out _).2.2.trans hk)
  clear hb hw hk HB
  go_wp2_with fail
  go_end0
  exact ⟨rfl, HB2.out, HW2.out, HK2.out⟩
theorem Tz16.below {B : Nat} {w w' : World} (h : Tz16 w) (hb : Below B w w') (hg : 7 < B) : Tz16 w' := (hb.cell (p := ⟨7, 15, none⟩) hg).trans h
theorem wtok_int (B b : Nat) (l s : List UInt8) (n : Nat) (d : Int) (w : World) (h : BldK w B b l) (hl : l.length ≤ 1000000000) (hn : n ≤ 18446744073709551615) (hT : Tz16 w) :
  Calls Tryz.prog 125 #[.pointer (some ⟨b, 0, none⟩), tokV 3 n s d] w (WrPost w B b (l ++ fmtI n)) := by
 have HB := Lib.hid (boxK h)
 have HL : Hid (l.length + 20 ≤ 140737488355328) := Lib.hid (by omega)
 have HT : Hid (∀ o, Tz16 (w.alloc o)) := Lib.hid fun o => hT.below ((Below.refl _ _).alloc (Nat.le_refl _) o) (World.block_lt_of_cell? w _ hT)
 clear h hl hT
 unfold tokV
 by_cases h10 : (n : Int) < 10
 ·have hf : fmtI n = [hexC n] := by unfold fmtI; rw [if_pos (by omega), hexU_small (by omega)]
  have hc : ((hexC n).toNat : Int) = (48 + n) := by rw [((hexC_val n (by omega)).2.2 (by omega)).2]; omega
  rw [hf]
  obtain ⟨c, hcc⟩ : ∃ c, hexC n = c := ⟨_, rfl⟩
  rw [hcc] at hc ⊢
  clear hf hcc HT
  go_enter Tryz.func125, Tryz.ntmps125
  go_wp2_with fail
  ((with_reducible refine (blk_lit B b l c _ hc _ (HB.out _).1 (by have := HL.out; omega)).mono ?_))
  rintro e w2 ⟨rfl, hb, hw, hk⟩
  have HB2 := Lib.hid hb
  have HW2 := Lib.hid (bel_next (HB.out _).2.1 hw)
  have HK2 := Lib.hid ((HB.out _).2.2.trans hk)
  clear hb hw hk HB
  go_wp2_with fail
  go_end0
  exact ⟨rfl, HB2.out, HW2.out, HK2.out⟩
 ·have hf : fmtI n = 48 :: 120 :: hexU n := by unfold fmtI; rw [if_neg (by omega)]
  have hul := hexU_len hn
  rw [hf]
  have KF := Lib.hid (fun w h => fmt16_any n w (Lib.hid hn) h)
  have KU := Lib.hid (fun w => upper_any n hn w)
  obtain ⟨U, hU⟩ : ∃ U, hexU n = U := ⟨_, rfl⟩
  obtain ⟨V, hV⟩ : ∃ U, hexLo n = U := ⟨_, rfl⟩
  rw [hU] at KU hul ⊢
  rw [hV] at KF KU
  have HUL : Hid (U.length ≤ 16) := Lib.hid hul
  have hc := cat0x U
  clear hf hU hV
  go_enter Tryz.func125, Tryz.ntmps125
  go_wp2_with fail
  ((with_reducible refine (KF.out _ (HT.out _)).mono ?_))
  rintro e w2 ⟨rfl, hb⟩
  have HB2 := Lib.hid ((HB.out _).1.below hb)
  have HW2 := Lib.hid (bel_next (HB.out _).2.1 (hb.mono (HB.out _).1.2))
  have HK2 := Lib.hid ((HB.out _).2.2.trans (KeptK.of hb))
  clear hb HB HT KF
  go_wp2_with fail
  ((with_reducible refine (KU.out _).mono ?_))
  rintro e w3 ⟨rfl, hb⟩
  have HB3 := Lib.hid (HB2.out.below hb)
  have HW3 := Lib.hid (bel_next HW2.out (hb.mono HB2.out.2))
  have HK3 := Lib.hid (HK2.out.trans (KeptK.of hb))
  clear hb HB2 HW2 HK2 KU
  go_wp2_with fail
  ((with_reducible refine (blk_str B b l (48 :: 120 :: U) _ HB3.out (by have := HL.out; have := HUL.out; simp only [List.length_cons]; omega)).mono ?_))
  rintro e w4 ⟨rfl, hb, hw, hk⟩
  have HB4 := Lib.hid hb
  have HW4 := Lib.hid (bel_next HW3.out hw)
  have HK4 := Lib.hid (HK3.out.trans hk)
  clear hb hw hk
  go_wp2_with fail
  go_end0
  exact ⟨rfl, HB4.out, HW4.out, HK4.out⟩
def ShrW (t : TokI) : Prop := t.str.length ≤ 65536 ∨ t.kind ≠ 1 ∧ t.kind ≠ 2 ∧ t.kind ≠ 4
theorem wtok_any (B b : Nat) (l : List UInt8) (t : TokI) (w : World) (h : BldK w B b l) (hl : l.length ≤ 1000000000) (hv : validT t = true) (h0 : 0 ≤ t.num) (h1 : t.num ≤ 18446744073709551615) (hs : ShrW t) (hT : Tz16 w) :
  Calls Tryz.prog 125 #[.pointer (some ⟨b, 0, none⟩), t.val] w (WrPost w B b (l ++ fmtT t)) := by
 obtain ⟨k, n, s, d⟩ := t
 unfold fmtT TokI.val
 unfold ShrW at hs
 simp only at h0 h1 hs ⊢
 by_cases h12 : k = 1 ∨ k = 2
 ·rw [if_pos h12]
  exact wtok_word B b l s k n d h12 w h hl (by rcases hs with h | ⟨a, b, c⟩ <;> omega)
 ·rw [if_neg h12]
  by_cases h3 : k = 3
  ·subst h3
   rw [if_pos rfl]
   have e : n = (n.toNat : Int) := by omega
   have := wtok_int B b l s n.toNat d w h hl (by omega) hT
   rw [← e] at this
   exact this
  ·rw [if_neg h3]
   by_cases h4 : k = 4
   ·subst h4; rw [if_pos rfl]
    exact wtok_text B b l s n d w h hl (by rcases hs with h | ⟨a, b, c⟩ <;> omega)
   ·rw [if_neg h4]
    refine wtok_sign B b l s k n d ?_ w h hl
    unfold validT at hv
    simp only at hv
    rw [if_neg (fun e => h12 (.inl e)), if_neg (fun e => h12 (.inr e)), if_neg h4, decide_eq_true_eq] at hv
    omega
end
section
open Go.RowKit
attribute [local go_sem] ByteArray.mk_append_mk bs_get bs_cut bs_end
def sepK : Nat → List UInt8
 | 0 => []
 | _ + 1 => [32]
def textJ (L : List TokI) : Nat → List UInt8
 | 0 => []
 | k + 1 => textJ L k ++ sepK k ++ fmtT (L.getD k ⟨0, 0, [], 0⟩)
def FineW (t : TokI) : Prop := validT t = true ∧ NumI t ∧ ShrW t ∧ t.str.length ≤ 9223372036854770000
def Fine (t : TokI) : Prop := validT t = true ∧ NumI t ∧ Shrt t ∧ t.str.length ≤ 9223372036854770000
theorem Fine.w {t : TokI} (h : Fine t) : FineW t := ⟨h.1, h.2.1, h.2.2.1.imp (fun h => by omega) id, h.2.2.2⟩
theorem textJ_up (L : List TokI) (k : Nat) : ∀ m, (textJ L k).length ≤ (textJ L (k + m)).length
 | 0 => Nat.le_refl _
 | m + 1 => by
   have := textJ_up L k m
   rw [show k + (m + 1) = (k + m) + 1 by omega, textJ, List.length_append, List.length_append]
   omega
theorem textJ_succ {L : List TokI} {k : Nat} (h : k < L.length) : textJ L (k + 1) = textJ L k ++ sepK k ++ fmtT L[k] := by rw [textJ]; simp [List.getD, h]
set_option maxRecDepth 100000 in
set_option maxHeartbeats 4000000 in
theorem tformat_len (v : Value) (L : List TokI) (w : World) (h : TSl w v L) (hf : ∀ t ∈ L, FineW t) (hn : L.length ≤ 100000) (hlen : (textJ L L.length).length ≤ 900000000) (hT : Tz16 w) :
  Calls Tryz.prog 79 #[v] w fun e w' => e = .returned (.string ⟨(textJ L L.length).toArray⟩) ∧ Below w.heap.size w w' := by
 obtain ⟨a, c, rfl, hv⟩ := h
 have HT : Hid (TSl w (.slice a L.length c) L) := Lib.hid ⟨a, c, rfl, hv⟩
 have HF := Lib.hid hf
 have HZ := Lib.hid hT
 have HZB : Hid (7 < w.heap.size) := Lib.hid (World.block_lt_of_cell? w _ hT)
 have HTL : Hid (∀ j, j ≤ L.length → (textJ L j).length ≤ 900000000) := Lib.hid (fun j hj => by have := textJ_up L j (L.length - j); rw [show j + (L.length - j) = L.length by omega] at this; omega)
 clear hlen
 obtain ⟨X, HR⟩ : ∃ X, Hid (textJ L L.length = X) := ⟨_, Lib.hid rfl⟩
 rw [HR.out]
 clear hv hf hT
 go_enter Tryz.func79, Tryz.ntmps79
 go_wp2_with fail
 go_loopw [10] (fun i wr => ∃ k : Nat, i = .int .i64 k ∧ k ≤ L.length ∧ Hid (Below w.heap.size w wr)) (fun i _ => L.length - (intOf i).toNat)
 case atStart => exact ⟨0, rfl, by omega, Lib.hid (Below.refl _ _)⟩
 case round =>
  obtain ⟨k, rfl, hk, HB⟩ := hrel
  obtain ⟨w1, rfl⟩ : ∃ y : World, y = wr := ⟨_, rfl⟩
  by_cases hlt : k < L.length
  ·obtain ⟨b, off, rfl, hcell⟩ := HT.out.at k hlt
   obtain ⟨t, ht⟩ : ∃ t, L[k] = t := ⟨_, rfl⟩
   have hff := HF.out _ (List.getElem_mem hlt)
   rw [ht] at hff hcell
   obtain ⟨c0, c1, c2, c3⟩ := hcell.below HB.out
   have KV := Lib.hid (fun w => tvalid_any t w hff.2.2.2)
   rw [hff.1] at KV
   clear hff hcell ht
   obtain ⟨tk, tn, ts, td⟩ := t
   unfold TokI.val at KV
   simp only [tokV] at KV c0 c1 c2 c3
   go_wp2_with fail
   ((with_reducible refine (KV.out _).mono ?_))
   rintro e w2 ⟨rfl, hb⟩
   have HB2 := Lib.hid (bel_then (HB.out.alloc HB.out.size _) (Nat.le_refl _) hb)
   clear hb HB
   go_wp2_with fail
   go_roundw
   case rel => exact ⟨k + 1, by go_num, by omega, HB2⟩
   case measure => simp [intOf]; omega
  ·go_wp2_with fail
   have HBK := Lib.hid (BldK.fresh w1)
   have HB2 := Lib.hid (HB.out.alloc HB.out.size (.cells #[.pointer none, .slice none 0 0] 75))
   go_loopw [20] (fun i wr => ∃ k : Nat, i = .int .i64 k ∧ k ≤ L.length ∧ Hid (BldK wr w1.heap.size w1.heap.size (textJ L k)) ∧ Hid (Below w1.heap.size w1 wr)) (fun i _ => L.length - (intOf i).toNat)
   case atStart => exact ⟨0, rfl, by omega, HBK, Lib.hid ((Below.refl _ _).alloc (Nat.le_refl _) _)⟩
   case round =>
    clear HBK HB2
    obtain ⟨j, rfl, hj, HK, HW⟩ := hrel
    obtain ⟨w3, rfl⟩ : ∃ y : World, y = wr := ⟨_, rfl⟩
    by_cases hlj : j < L.length
    ·obtain ⟨b, off, rfl, hcell⟩ := HT.out.at j hlj
     obtain ⟨t, ht⟩ : ∃ t, L[j] = t := ⟨_, rfl⟩
     have hff := HF.out _ (List.getElem_mem hlj)
     have hsucc := textJ_succ hlj
     rw [ht] at hff hcell hsucc
     have HS := Lib.hid hsucc
     obtain ⟨c0, c1, c2, c3⟩ := hcell.below (HB.out.trans (HW.out.mono HB.out.size))
     have HFF := Lib.hid hff
     clear hff hcell ht hsucc
     obtain ⟨tk, tn, ts, td⟩ := t
     simp only [tokV] at c0 c1 c2 c3
     have HTX := Lib.hid (HTL.out j hj)
     have HAB := Lib.hid (HW.out.alloc HW.out.size (tObj tk tn ts td))
     have HAK := Lib.hid (HK.out.alloc (tObj tk tn ts td))
     have HBN : Hid (w3.heap.size ≠ w1.heap.size) := Lib.hid (by have := HK.out.lt; omega)
     have HNL := Lib.hid (heap_alloc_new w3 (tObj tk tn ts td))
     have HTZ : Hid (∀ w', Below w1.heap.size w1 w' → Tz16 w') := Lib.hid (fun w' h => HZ.out.below (HB.out.trans (h.mono HB.out.size)) HZB.out)
     have HTOK : Hid (∀ w' l, BldK w' w1.heap.size w1.heap.size l → l.length ≤ 1000000000 → Below w1.heap.size w1 w' → Calls Tryz.prog 125 #[.pointer (some ⟨w1.heap.size, 0, none⟩), .agg #[.int .i64 tk, .int .u64 tn, .string ⟨ts.toArray⟩, .int .i64 td]] w' (WrPost w' w1.heap.size w1.heap.size (l ++ fmtT ⟨tk, tn, ts, td⟩))) := Lib.hid (fun w' l h1 h2 h3 => wtok_any _ _ l ⟨tk, tn, ts, td⟩ w' h1 h2 HFF.out.1 HFF.out.2.1.1 HFF.out.2.1.2 HFF.out.2.2.1 (HTZ.out _ h3))
     obtain ⟨F, hF⟩ : ∃ F, fmtT ⟨tk, tn, ts, td⟩ = F := ⟨_, rfl⟩
     rw [hF] at HS HTOK
     obtain ⟨x, hx⟩ : ∃ x, textJ L j = x := ⟨_, rfl⟩
     rw [hx] at HS HTX HAK
     clear hF hx HFF HK HTZ
     by_cases h0 : 0 < j
     ·have HS2 : Hid (textJ L (j + 1) = x ++ [32] ++ F) := Lib.hid (by rw [HS.out]; cases j with
       | zero => omega
       | succ j => rfl)
      clear HS
      go_wp2_with fail
      ((with_reducible refine (blk_lit w1.heap.size w1.heap.size x 32 32 rfl _ HAK.out (by have := HTX.out; omega)).mono ?_))
      rintro e w4 ⟨rfl, hb, hw, hkk⟩
      have HB4 := Lib.hid hb
      have HW4 := Lib.hid (HAB.out.trans hw)
      have HN4 := Lib.hid (hkk.blk HNL.out HBN.out (by decide))
      clear hb hw hkk HAK HAB HNL c0 c1 c2 c3
      obtain ⟨c0, c1, c2, c3⟩ := cells4 HN4.out
      go_wp2_with fail
      ((with_reducible refine (HTOK.out _ _ HB4.out (by rw [List.length_append]; have := HTX.out; simp; omega) HW4.out).mono ?_))
      rintro e w5 ⟨rfl, hb, hw, hkk⟩
      have HB5 := Lib.hid hb
      have HW5 := Lib.hid (HW4.out.trans hw)
      clear hb hw hkk HB4 HW4 c0 c1 c2 c3
      go_wp2_with fail
      go_roundw
      case rel => exact ⟨j + 1, by go_num, by omega, by rw [HS2.out]; exact HB5, HW5⟩
      case measure => simp [intOf]; omega
     ·have hj0 : j = 0 := by omega
      have HS2 : Hid (textJ L (j + 1) = x ++ F) := Lib.hid (by rw [HS.out, hj0]; show x ++ [] ++ F = _; rw [List.append_nil])
      clear HS hj0
      go_wp2_with fail
      ((with_reducible refine (HTOK.out _ _ HAK.out (by have := HTX.out; omega) HAB.out).mono ?_))
      rintro e w5 ⟨rfl, hb, hw, hkk⟩
      have HB5 := Lib.hid hb
      have HW5 := Lib.hid (HAB.out.trans hw)
      clear hb hw hkk HAK HAB c0 c1 c2 c3
      go_wp2_with fail
      go_roundw
      case rel => exact ⟨j + 1, by go_num, by omega, by rw [HS2.out]; exact HB5, HW5⟩
      case measure => simp [intOf]; omega
    ·have hjj : j = L.length := by omega
     rw [hjj, HR.out] at HK
     clear hjj
     go_wp2_with fail
     ((with_reducible refine (blk_string w1.heap.size w1.heap.size X _ HK.out).mono ?_))
     rintro e w4 ⟨rfl, hw⟩
     have HW4 := Lib.hid (HW.out.trans hw)
     clear hw
     go_wp2_with fail
     go_ret
     exact ⟨rfl, HB.out.trans (HW4.out.mono HB.out.size)⟩
end
section
open Go.RowKit
end
section
open Go.RowKit
attribute [local go_sem] ByteArray.mk_append_mk bs_get bs_cut bs_end
def PW (w : World) (B b : Nat) (v : Value) (p : List Nd) (m : Int) (s : List UInt8) : Prop :=
 Wr w B b v s ∧ NSl w v p ∧ (∀ g off n c, v = .slice (some ⟨g, off, none⟩) n c → p ≠ [] → g < B) ∧ SynG m w ∧ SynB B ∧ Tz16 w ∧ 7 < B
theorem NSl.belowB {w w' : World} {B : Nat} {v : Value} {p : List Nd} (h : NSl w v p) (hlt : ∀ g off n c, v = .slice (some ⟨g, off, none⟩) n c → p ≠ [] → g < B) (hb : Below B w w') : NSl w' v p := by
 obtain ⟨⟨a, cap, hv, hc⟩, hs⟩ := h
 refine ⟨⟨a, cap, hv, fun hn => ?_⟩, hs⟩
 obtain ⟨b, off, ha, hkk⟩ := hc hn
 have hbB := hlt b off _ _ (by rw [hv, ha]) hn
 refine ⟨b, off, ha, fun i hi => ?_⟩
 obtain ⟨c0, c1, c2, c3⟩ := hkk i hi
 exact ⟨(hb.cell (p := ⟨b, off + i * 4, none⟩) hbB).trans c0, (hb.cell (p := ⟨b, off + i * 4 + 1, none⟩) hbB).trans c1, (hb.cell (p := ⟨b, off + i * 4 + 2, none⟩) hbB).trans c2, (hb.cell (p := ⟨b, off + i * 4 + 3, none⟩) hbB).trans c3⟩
theorem PW.move {w w' : World} {B b : Nat} {v : Value} {p : List Nd} {m : Int} {s s' : List UInt8} (h : PW w B b v p m s) (hb : Below B w w') (hw : Wr w' B b v s') : PW w' B b v p m s' := by
 obtain ⟨h1, h2, h3, h4, h5, h6, h7⟩ := h
 exact ⟨hw, h2.belowB h3 hb, h3, h4.below hb h5, h5, h6.below hb h7, h7⟩
theorem PW.post {w w' : World} {B b : Nat} {v : Value} {p : List Nd} {m : Int} {s s' : List UInt8} (h : PW w B b v p m s) (hp : WrPo w B b v s' w') : PW w' B b v p m s' := h.move hp.2.1 hp.1
theorem PW.below {w w' : World} {B b : Nat} {v : Value} {p : List Nd} {m : Int} {s : List UInt8} (h : PW w B b v p m s) (hb : Below w.heap.size w w') : PW w' B b v p m s := h.move (hb.mono h.1.2) (h.1.below hb)
def KpW (B b : Nat) (w w' : World) : Prop := Below B w w' ∧ KeptW b w w'
theorem KpW.refl (B b : Nat) (w : World) : KpW B b w w := ⟨Below.refl _ _, KeptW.refl _ _⟩
theorem KpW.post {B b : Nat} {w0 w w' : World} {v : Value} {s : List UInt8} (h : KpW B b w0 w) (hp : WrPo w B b v s w') : KpW B b w0 w' := ⟨h.1.trans hp.2.1, h.2.trans hp.2.2⟩
theorem KpW.below {B b : Nat} {w0 w w' : World} (h : KpW B b w0 w) (hB : B ≤ w.heap.size) (hb : Below w.heap.size w w') : KpW B b w0 w' := ⟨h.1.trans (hb.mono hB), h.2.trans (KeptW.of hb)⟩
theorem KpW.fin {B b : Nat} {w0 w : World} {v : Value} {p : List Nd} {m : Int} {s : List UInt8} (h : KpW B b w0 w) (hp : PW w B b v p m s) : WrPo w0 B b v s w := ⟨hp.1, h.1, h.2⟩
theorem jlit_any (B b : Nat) (p : Value) (l : List UInt8) (c : UInt8) (n : Int) (hn : (c.toNat : Int) = n) (w : World) (h : Wr w B b p l) (hlen : l.length + 1 ≤ 140737488355328) :
  Calls Tryz.prog 45 #[.pointer (some ⟨b, 1, none⟩), .int .u8 n] w fun e w' => e = .returned .nilIface ∧ WrPo w B b p (l ++ [c]) w' := by
 subst hn; exact jbyte_any B b p l c w h hlen
set_option maxHeartbeats 2000000 in
theorem small8 (u : Nat) (hu : u < 8) (w : World) : Calls Tryz.prog 153 #[.int .i64 u] w fun e w' => e = .returned (.string ⟨#[UInt8.ofNat (48 + u)]⟩) ∧ w = w' := by
 match u, hu with
 | 0, _ | 1, _ | 2, _ | 3, _ | 4, _ | 5, _ | 6, _ | 7, _ =>
   go_enter Tryz.func153, Tryz.ntmps153
   go_wp2_with fail
   go_ret
   exact ⟨rfl, rfl⟩
theorem fmt8i_any (u : Nat) (hu : u < 8) (c : UInt8) (hc : Hid (UInt8.ofNat (48 + u) = c)) (w : World) : Calls Tryz.prog 126 #[.int .u64 u, .int .i64 10] w fun e w' => e = .returned (.string ⟨#[c]⟩) ∧ w = w' := by
 have HS := Lib.hid (fun w => small8 u hu w)
 rw [hc.out] at HS
 have h100 : (u : Int) < 100 := by omega
 go_enter Tryz.func126, Tryz.ntmps126
 go_wp2_with fail
 ((with_reducible refine (HS.out _).mono ?_))
 rintro e w' ⟨rfl, rfl⟩
 go_wp2_with fail
 go_ret
 exact ⟨rfl, rfl⟩
theorem fmt8_any (u : Nat) (hu : u < 8) (c : UInt8) (hc : Hid (UInt8.ofNat (48 + u) = c)) (w : World) : Calls Tryz.prog 80 #[.int .u64 u, .int .i64 10] w fun e w' => e = .returned (.string ⟨[c].toArray⟩) ∧ w = w' := by
 have KB := Lib.hid (fun w => fmt8i_any u hu c hc w)
 go_enter Tryz.func80, Tryz.ntmps80
 go_wp2_with fail
 ((with_reducible refine (KB.out _).mono ?_))
 rintro e w2 ⟨rfl, rfl⟩
 go_wp2_with fail
 go_ret
 exact ⟨rfl, rfl⟩
theorem tfmt_one (tk tn tp : Int) (ts : List UInt8) (g : Nat) (w : World) (hf : FineW ⟨tk, tn, ts, tp⟩) (hl : (fmtT ⟨tk, tn, ts, tp⟩).length ≤ 900000000) (hg : w.heap[g]? = some (tObj tk tn ts tp)) (hT : Tz16 w) :
  Calls Tryz.prog 79 #[.slice (some ⟨g, 0, none⟩) 1 1] w fun e w' => e = .returned (.string ⟨(fmtT ⟨tk, tn, ts, tp⟩).toArray⟩) ∧ Below w.heap.size w w' := by
 have hc : TAtK w g 0 ⟨tk, tn, ts, tp⟩ := ⟨cell_of_row w g 0 _ _ (0, 0) hg, cell_of_row w g 1 _ _ (0, 0) hg, cell_of_row w g 2 _ _ (0, 0) hg, cell_of_row w g 3 _ _ (0, 0) hg⟩
 have e : textJ [⟨tk, tn, ts, tp⟩] 1 = fmtT ⟨tk, tn, ts, tp⟩ := rfl
 have h := tformat_len (.slice (some ⟨g, 0, none⟩) 1 1) [⟨tk, tn, ts, tp⟩] w (TSl.single hc) (fun t ht => by
  simp only [List.mem_cons, List.not_mem_nil, or_false] at ht; subst ht; exact hf) (by simp) (by show (textJ [⟨tk, tn, ts, tp⟩] 1).length ≤ _; rw [e]; exact hl) hT
 have e2 : textJ [⟨tk, tn, ts, tp⟩] [(⟨tk, tn, ts, tp⟩ : TokI)].length = fmtT ⟨tk, tn, ts, tp⟩ := rfl
 rw [e2] at h
 exact h
theorem rep_ind (n : Nat) (w : World) (hn : n ≤ 1000) : Calls Tryz.prog 158 #[.string ⟨#[32, 32]⟩, .int .i64 n] w fun e w' => e = .returned (.string ⟨(indL n).toArray⟩) ∧ Below w.heap.size w w' := by
 refine (Tryz.strings_Repeat ⟨#[32, 32]⟩ n w (by omega) (by show 2 * n ≤ _; omega)).mono ?_
 rintro e w' ⟨he, hb⟩
 refine ⟨?_, hb⟩
 rw [he]
 have : ∀ n, Lib.repeatL [(32 : UInt8), 32] n = indL n := by
  intro n
  induction n with
  | zero => rfl
  | succ n ih =>
    unfold indL at ih ⊢
    rw [show 2 * (n + 1) = 2 + 2 * n by omega, ← List.replicate_append_replicate, ← ih]
    rfl
 exact congrArg (fun l : List UInt8 => Ending.returned (.string ⟨l.toArray⟩)) (this n)
end
end Go.Proofs.YtnicnfchkdmieaaGreatDoor
