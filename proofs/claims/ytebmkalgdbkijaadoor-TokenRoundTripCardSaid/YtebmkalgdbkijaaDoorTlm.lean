/- writeToken: the walk. -/
import Derived.Test.YtebmkalgdbkijaaDoorTll
import Derived.Test.YtebmkalgdbkijaaDoorTlo
namespace Go.Proofs.YtebmkalgdbkijaaDoor
open Go.RowKit
set_option linter.unusedVariables false
set_option linter.unusedSimpArgs false
attribute [local go_sem] ByteArray.mk_append_mk bs_get bs_cut bs_end

theorem cat0x (x : List UInt8) : (#[48, 120] : Array UInt8) ++ x.toArray = (48 :: 120 :: x).toArray := by simp
theorem up_low (d : Nat) (h : d < 16) : Lib.upperB (lowC (hexC d)) = hexC d ∧ (lowC (hexC d)).toNat < 128 := by
  have : ∀ d : Fin 16, Lib.upperB (lowC (hexC d.val)) = hexC d.val ∧ (lowC (hexC d.val)).toNat < 128 := by decide +kernel
  exact this ⟨d, h⟩
theorem hexP_dig : ∀ (n v : Nat), v ≤ n → ∀ c ∈ hexP v, ∃ d, d < 16 ∧ c = hexC d
  | n, v, h, c, hc => by
    by_cases h0 : v = 0
    · subst h0; rw [hexP_zero] at hc; cases hc
    · rw [hexP_pos h0] at hc
      rcases List.mem_append.1 hc with hc | hc
      · cases n with
        | zero => omega
        | succ n => exact hexP_dig n (v / 16) (by omega) c hc
      · simp only [List.mem_cons, List.not_mem_nil, or_false] at hc
        exact ⟨v % 16, by omega, hc⟩
theorem hexU_dig (v : Nat) : ∀ c ∈ hexU v, ∃ d, d < 16 ∧ c = hexC d := by
  intro c hc
  unfold hexU at hc
  rcases List.mem_append.1 hc with hc | hc
  · exact hexP_dig _ _ (Nat.le_refl _) c hc
  · simp only [List.mem_cons, List.not_mem_nil, or_false] at hc
    exact ⟨v % 16, by omega, hc⟩
theorem upper_hexLo (v : Nat) : Lib.toUpperA (hexLo v) = hexU v := by
  unfold Lib.toUpperA hexLo
  rw [List.map_map]
  conv => rhs; rw [← List.map_id (hexU v)]
  refine List.map_congr_left fun c hc => ?_
  obtain ⟨d, h, rfl⟩ := hexU_dig v c hc
  exact (up_low d h).1
theorem hexLo_ascii (v : Nat) : ∀ (j : Nat) (b : UInt8), (hexLo v)[j]? = some b → b.toNat < 128 := by
  intro j b h
  have hm := List.mem_of_getElem? h
  unfold hexLo at hm
  obtain ⟨c, hc, rfl⟩ := List.mem_map.1 hm
  obtain ⟨d, h', rfl⟩ := hexU_dig v c hc
  exact (up_low d h').2
theorem upper_any (v : Nat) (hv : v ≤ 18446744073709551615) (w : World) : Calls Tryd.prog 39 #[.string ⟨(hexLo v).toArray⟩] w fun e w' => e = .returned (.string ⟨(hexU v).toArray⟩) ∧ Below w.heap.size w w' := by
  have hl : (hexLo v).length ≤ 16 := by unfold hexLo; rw [List.length_map]; exact hexU_len hv
  have := Tryd.strings_ToUpper_ascii ⟨(hexLo v).toArray⟩ w (by rw [ByteArray.size_mk', List.size_toArray]; omega) (fun j b h => hexLo_ascii v j b (by simpa using h))
  refine this.mono fun e w' ⟨he, hb⟩ => ⟨?_, hb⟩
  rw [he]
  show Ending.returned (.string ⟨(Lib.toUpperA (hexLo v)).toArray⟩) = _
  rw [upper_hexLo]
abbrev BoxK (w : World) (B b : Nat) (l : List UInt8) : Prop := ∀ o, BldK (w.alloc o) B b l ∧ Below B w (w.alloc o) ∧ KeptK b w (w.alloc o)
theorem boxK {w : World} {B b : Nat} {l : List UInt8} (h : BldK w B b l) : BoxK w B b l := fun o => ⟨h.alloc o, (Below.refl _ _).alloc h.2 o, KeptK.of ((Below.refl _ _).alloc (Nat.le_refl _) o)⟩
theorem wtok_word (B b : Nat) (l s : List UInt8) (k n d : Int) (hk : k = 1 ∨ k = 2) (w : World) (h : BldK w B b l) (hl : l.length ≤ 1000000000) (hs : s.length ≤ 1000000) :
    Calls Tryd.prog 20 #[.pointer (some ⟨b, 0, none⟩), tokV k n s d] w (WrPost w B b (l ++ s)) := by
  have HB := Lib.hid (boxK h)
  have HL : Hid (l.length + s.length ≤ 140737488355328) := Lib.hid (by omega)
  clear h hl hs
  unfold tokV
  rcases hk with rfl | rfl
  all_goals
    go_enter Tryd.func20, Tryd.ntmps20
    go_wp2_with fail
    ((with_reducible refine (blk_str B b l s _ (HB.out _).1 HL.out).mono ?_))
    rintro e w2 ⟨rfl, hb, hw, hk⟩
    have HB2 := Lib.hid hb
    have HW2 := Lib.hid (bel_next (HB.out _).2.1 hw)
    have HK2 := Lib.hid ((HB.out _).2.2.trans hk)
    clear hb hw hk HB
    go_wp2_with fail
    go_end0
    exact ⟨rfl, HB2.out, HW2.out, HK2.out⟩
theorem wtok_text (B b : Nat) (l s : List UInt8) (n d : Int) (w : World) (h : BldK w B b l) (hl : l.length ≤ 1000000000) (hs : s.length ≤ 1000000) :
    Calls Tryd.prog 20 #[.pointer (some ⟨b, 0, none⟩), tokV 4 n s d] w (WrPost w B b (l ++ quoL s)) := by
  have HB := Lib.hid (boxK h)
  have HL := Lib.hid hl
  have HS := Lib.hid hs
  clear h hl hs
  unfold tokV
  go_enter Tryd.func20, Tryd.ntmps20
  go_wp2_with fail
  ((with_reducible refine (wstr_any B b l s _ (HB.out _).1 HL.out HS.out).mono ?_))
  rintro e w2 ⟨rfl, hb, hw, hk⟩
  have HB2 := Lib.hid hb
  have HW2 := Lib.hid (bel_next (HB.out _).2.1 hw)
  have HK2 := Lib.hid ((HB.out _).2.2.trans hk)
  clear hb hw hk HB
  go_wp2_with fail
  go_end0
  exact ⟨rfl, HB2.out, HW2.out, HK2.out⟩
theorem wtok_sign (B b : Nat) (l s : List UInt8) (k n d : Int) (hk : k = 5 ∨ k = 6 ∨ k = 7 ∨ k = 8 ∨ k = 9) (w : World) (h : BldK w B b l) (hl : l.length ≤ 1000000000) :
    Calls Tryd.prog 20 #[.pointer (some ⟨b, 0, none⟩), tokV k n s d] w (WrPost w B b (l ++ punC k)) := by
  have HB := Lib.hid (boxK h)
  have HL : Hid (l.length + 1 ≤ 140737488355328) := Lib.hid (by omega)
  clear h hl
  unfold tokV
  rcases hk with rfl | rfl | rfl | rfl | rfl
  · rw [show punC 5 = [40] from rfl]
    go_enter Tryd.func20, Tryd.ntmps20
    go_wp2_with fail
    ((with_reducible refine (blk_lit B b l 40 40 rfl _ (HB.out _).1 HL.out).mono ?_))
    rintro e w2 ⟨rfl, hb, hw, hk⟩
    have HB2 := Lib.hid hb
    have HW2 := Lib.hid (bel_next (HB.out _).2.1 hw)
    have HK2 := Lib.hid ((HB.out _).2.2.trans hk)
    clear hb hw hk HB
    go_wp2_with fail
    go_end0
    exact ⟨rfl, HB2.out, HW2.out, HK2.out⟩
  · rw [show punC 6 = [41] from rfl]
    go_enter Tryd.func20, Tryd.ntmps20
    go_wp2_with fail
    ((with_reducible refine (blk_lit B b l 41 41 rfl _ (HB.out _).1 HL.out).mono ?_))
    rintro e w2 ⟨rfl, hb, hw, hk⟩
    have HB2 := Lib.hid hb
    have HW2 := Lib.hid (bel_next (HB.out _).2.1 hw)
    have HK2 := Lib.hid ((HB.out _).2.2.trans hk)
    clear hb hw hk HB
    go_wp2_with fail
    go_end0
    exact ⟨rfl, HB2.out, HW2.out, HK2.out⟩
  · rw [show punC 7 = [123] from rfl]
    go_enter Tryd.func20, Tryd.ntmps20
    go_wp2_with fail
    ((with_reducible refine (blk_lit B b l 123 123 rfl _ (HB.out _).1 HL.out).mono ?_))
    rintro e w2 ⟨rfl, hb, hw, hk⟩
    have HB2 := Lib.hid hb
    have HW2 := Lib.hid (bel_next (HB.out _).2.1 hw)
    have HK2 := Lib.hid ((HB.out _).2.2.trans hk)
    clear hb hw hk HB
    go_wp2_with fail
    go_end0
    exact ⟨rfl, HB2.out, HW2.out, HK2.out⟩
  · rw [show punC 8 = [125] from rfl]
    go_enter Tryd.func20, Tryd.ntmps20
    go_wp2_with fail
    ((with_reducible refine (blk_lit B b l 125 125 rfl _ (HB.out _).1 HL.out).mono ?_))
    rintro e w2 ⟨rfl, hb, hw, hk⟩
    have HB2 := Lib.hid hb
    have HW2 := Lib.hid (bel_next (HB.out _).2.1 hw)
    have HK2 := Lib.hid ((HB.out _).2.2.trans hk)
    clear hb hw hk HB
    go_wp2_with fail
    go_end0
    exact ⟨rfl, HB2.out, HW2.out, HK2.out⟩
  · rw [show punC 9 = [44] from rfl]
    go_enter Tryd.func20, Tryd.ntmps20
    go_wp2_with fail
    ((with_reducible refine (blk_lit B b l 44 44 rfl _ (HB.out _).1 HL.out).mono ?_))
    rintro e w2 ⟨rfl, hb, hw, hk⟩
    have HB2 := Lib.hid hb
    have HW2 := Lib.hid (bel_next (HB.out _).2.1 hw)
    have HK2 := Lib.hid ((HB.out _).2.2.trans hk)
    clear hb hw hk HB
    go_wp2_with fail
    go_end0
    exact ⟨rfl, HB2.out, HW2.out, HK2.out⟩
theorem Tz16.below {B : Nat} {w w' : World} (h : Tz16 w) (hb : Below B w w') (hg : 6 < B) : Tz16 w' := (hb.cell (p := ⟨6, 15, none⟩) hg).trans h
theorem wtok_int (B b : Nat) (l s : List UInt8) (n : Nat) (d : Int) (w : World) (h : BldK w B b l) (hl : l.length ≤ 1000000000) (hn : n ≤ 18446744073709551615) (hT : Tz16 w) :
    Calls Tryd.prog 20 #[.pointer (some ⟨b, 0, none⟩), tokV 3 n s d] w (WrPost w B b (l ++ fmtI n)) := by
  have HB := Lib.hid (boxK h)
  have HL : Hid (l.length + 20 ≤ 140737488355328) := Lib.hid (by omega)
  have HT : Hid (∀ o, Tz16 (w.alloc o)) := Lib.hid fun o => hT.below ((Below.refl _ _).alloc (Nat.le_refl _) o) (World.block_lt_of_cell? w _ hT)
  clear h hl hT
  unfold tokV
  by_cases h10 : (n : Int) < 10
  · have hf : fmtI n = [hexC n] := by unfold fmtI; rw [if_pos (by omega), hexU_small (by omega)]
    have hc : ((hexC n).toNat : Int) = (48 + n) := by rw [((hexC_val n (by omega)).2.2 (by omega)).2]; omega
    rw [hf]
    obtain ⟨c, hcc⟩ : ∃ c, hexC n = c := ⟨_, rfl⟩
    rw [hcc] at hc ⊢
    clear hf hcc HT
    go_enter Tryd.func20, Tryd.ntmps20
    go_wp2_with fail
    ((with_reducible refine (blk_lit B b l c _ hc _ (HB.out _).1 (by have := HL.out; omega)).mono ?_))
    rintro e w2 ⟨rfl, hb, hw, hk⟩
    have HB2 := Lib.hid hb
    have HW2 := Lib.hid (bel_next (HB.out _).2.1 hw)
    have HK2 := Lib.hid ((HB.out _).2.2.trans hk)
    clear hb hw hk HB
    go_wp2_with fail
    go_end0
    exact ⟨rfl, HB2.out, HW2.out, HK2.out⟩
  · have hf : fmtI n = 48 :: 120 :: hexU n := by unfold fmtI; rw [if_neg (by omega)]
    have hul := hexU_len hn
    rw [hf]
    have KF := Lib.hid (fun w h => fmt16_any n w (Lib.hid hn) h)
    have KU := Lib.hid (fun w => upper_any n hn w)
    obtain ⟨U, hU⟩ : ∃ U, hexU n = U := ⟨_, rfl⟩
    obtain ⟨V, hV⟩ : ∃ U, hexLo n = U := ⟨_, rfl⟩
    rw [hU] at KU hul ⊢
    rw [hV] at KF KU
    have HUL : Hid (U.length ≤ 16) := Lib.hid hul
    have hc := cat0x U
    clear hf hU hV
    go_enter Tryd.func20, Tryd.ntmps20
    go_wp2_with fail
    ((with_reducible refine (KF.out _ (HT.out _)).mono ?_))
    rintro e w2 ⟨rfl, hb⟩
    have HB2 := Lib.hid ((HB.out _).1.below hb)
    have HW2 := Lib.hid (bel_next (HB.out _).2.1 (hb.mono (HB.out _).1.2))
    have HK2 := Lib.hid ((HB.out _).2.2.trans (KeptK.of hb))
    clear hb HB HT KF
    go_wp2_with fail
    ((with_reducible refine (KU.out _).mono ?_))
    rintro e w3 ⟨rfl, hb⟩
    have HB3 := Lib.hid (HB2.out.below hb)
    have HW3 := Lib.hid (bel_next HW2.out (hb.mono HB2.out.2))
    have HK3 := Lib.hid (HK2.out.trans (KeptK.of hb))
    clear hb HB2 HW2 HK2 KU
    go_wp2_with fail
    ((with_reducible refine (blk_str B b l (48 :: 120 :: U) _ HB3.out (by have := HL.out; have := HUL.out; simp only [List.length_cons]; omega)).mono ?_))
    rintro e w4 ⟨rfl, hb, hw, hk⟩
    have HB4 := Lib.hid hb
    have HW4 := Lib.hid (bel_next HW3.out hw)
    have HK4 := Lib.hid (HK3.out.trans hk)
    clear hb hw hk
    go_wp2_with fail
    go_end0
    exact ⟨rfl, HB4.out, HW4.out, HK4.out⟩
theorem wtok_any (B b : Nat) (l : List UInt8) (t : TokI) (w : World) (h : BldK w B b l) (hl : l.length ≤ 1000000000) (hv : validT t = true) (h0 : 0 ≤ t.num) (h1 : t.num ≤ 18446744073709551615) (hs : Shrt t) (hT : Tz16 w) :
    Calls Tryd.prog 20 #[.pointer (some ⟨b, 0, none⟩), t.val] w (WrPost w B b (l ++ fmtT t)) := by
  obtain ⟨k, n, s, d⟩ := t
  unfold fmtT TokI.val
  unfold Shrt at hs
  simp only at h0 h1 hs ⊢
  by_cases h12 : k = 1 ∨ k = 2
  · rw [if_pos h12]
    exact wtok_word B b l s k n d h12 w h hl (by rcases hs with h | ⟨a, b, c⟩ <;> omega)
  · rw [if_neg h12]
    by_cases h3 : k = 3
    · subst h3
      rw [if_pos rfl]
      have e : n = (n.toNat : Int) := by omega
      have := wtok_int B b l s n.toNat d w h hl (by omega) hT
      rw [← e] at this
      exact this
    · rw [if_neg h3]
      by_cases h4 : k = 4
      · subst h4; rw [if_pos rfl]
        exact wtok_text B b l s n d w h hl (by rcases hs with h | ⟨a, b, c⟩ <;> omega)
      · rw [if_neg h4]
        refine wtok_sign B b l s k n d ?_ w h hl
        unfold validT at hv
        simp only at hv
        rw [if_neg (fun e => h12 (.inl e)), if_neg (fun e => h12 (.inr e)), if_neg h4, decide_eq_true_eq] at hv
        omega
end Go.Proofs.YtebmkalgdbkijaaDoor
