/- Tkr -/
import Derived.Test.YtnicnfchkdmieaaGreatDoorZTkq
set_option linter.unusedVariables false
set_option linter.unusedSimpArgs false
namespace Go.Proofs.YtnicnfchkdmieaaGreatDoor
open Go.RowKit
attribute [local go_sem] ByteArray.mk_append_mk bs_get bs_cut bs_end
theorem Toks.alloc {w : World} {B : Nat} {v : Value} {l : List Tok} (h : Toks w B v l) (o : Obj) : Toks (w.alloc o) B v l := h.below ((Below.refl _ _).alloc (Nat.le_refl _) o)
theorem two_new (w : World) (o o' : Obj) : ((w.alloc o).alloc o').heap[w.heap.size + 1]? = some o' := by
 have := heap_alloc_new (w.alloc o) o'
 simpa using this
theorem bel_alloc2 {B : Nat} {w w2 : World} (h : Below B w w2) (o o' : Obj) (hB : B ≤ w.heap.size) : Below B w ((w2.alloc o).alloc o') := by
 have h1 := h.alloc (Nat.le_trans hB h.size) o
 exact h1.alloc (Nat.le_trans hB h1.size) o'
def ScanPost (w : World) (x : List Tok × Nat × Nat) (e : Ending) (w' : World) : Prop :=
 ∃ v, e = .returned (.tuple #[v, .int .i64 x.2.1, .int .i64 x.2.2]) ∧ Toks w' w.heap.size v x.1 ∧ Below w.heap.size w w'
set_option maxRecDepth 100000 in
set_option maxHeartbeats 4000000 in
theorem tScan_any (s : List UInt8) (m : Int) (w : World) (hs : s.length ≤ 4611686018427380000) (hm : w.cell? ⟨3, 0, none⟩ = some (.int .i64 m)) :
 Calls Tryz.prog 26 #[.string ⟨s.toArray⟩] w (ScanPost w (scanL s)) := by
 by_cases hl : (65536 : Int) < (s.length : Int)
 ·rw [scanL_long (by omega)]
  go_enter Tryz.func26, Tryz.ntmps26
  go_wp2_with fail
  go_ret3
  exact ⟨_, rfl, Toks.nil _ _, Below.refl _ _⟩
 ·rw [scanL_go (by omega)]
  have hl2 : s.length ≤ 65536 := by omega
  obtain ⟨X, hX⟩ : ∃ X, Hid (scanG s 0 [] = X) := ⟨_, Lib.hid rfl⟩
  rw [hX.out]
  have HM := Lib.hid hm
  clear hm
  have hlt := World.block_lt_of_cell? w _ HM.out
  have HBZ := Lib.hid hlt
  clear hlt
  go_enter Tryz.func26, Tryz.ntmps26
  go_wp2_with fail
  go_loopw [6, 5] (fun i v wr => ∃ (p : Nat) (l : List Tok), i = .int .i64 p ∧ p ≤ s.length ∧ l.length ≤ p ∧ Hid (X = scanG s p l) ∧ Hid (Toks wr w.heap.size v l) ∧ Hid (Below w.heap.size w wr)) (fun i _ _ => s.length - (intOf i).toNat)
  case atStart => exact ⟨0, [], rfl, by omega, by simp, Lib.hid hX.out.symm, Lib.hid (Toks.nil _ _), Lib.hid (Below.refl _ _)⟩
  case round =>
   obtain ⟨p, l, rfl, hp, hlp, HX, HO, HB⟩ := hrel
   obtain ⟨av, cv, hv⟩ := HO.out.form
   subst hv
   obtain ⟨w1, rfl⟩ : ∃ x : World, x = wr := ⟨_, rfl⟩
   have HM1 : Hid (w1.cell? ⟨3, 0, none⟩ = some (.int .i64 m)) := Lib.hid ((HB.out.cell (p := ⟨3, 0, none⟩) HBZ.out).trans HM.out)
   have HS := Lib.hid (tSkip_any s p m w1 hl2 hp HM1.out)
   obtain ⟨q, hq1, hq2, e1, e2⟩ := skip_place s p hp
   unfold skipTup at HS
   rw [e2] at HS
   obtain ⟨b, hb⟩ : ∃ b, Hid ((skipL (s.drop p)).2 = b) := ⟨_, Lib.hid rfl⟩
   rw [hb.out] at HS
   have E1 := Lib.hid e1
   have E2 := Lib.hid e2
   clear e1 e2
   cases b
   ·have HX2 : Hid (X = ([], q, 2)) := Lib.hid (by rw [HX.out]; exact scanG_open E2.out hb.out)
    clear HX
    go_wp2_with fail
    ((with_reducible refine HS.out.mono ?_))
    rintro e w2 ⟨rfl, rfl⟩
    go_wp2_with fail
    go_ret3
    exact ⟨_, by rw [HX2.out]; rfl, by rw [HX2.out]; exact Toks.nil _ _, HB.out⟩
   ·by_cases hql : q = s.length
    ·have hqb : ((q : Int) == (s.length : Int)) = true := by rw [beq_iff_eq]; omega
     have HX2 : Hid (X = (l, 0, 0)) := Lib.hid (by rw [HX.out]; exact scanG_done hb.out (by rw [E1.out]; exact List.drop_eq_nil_of_le (by omega)))
     clear hql HX
     go_wp2_with fail
     ((with_reducible refine HS.out.mono ?_))
     rintro e w2 ⟨rfl, rfl⟩
     go_wp2_with fail
     go_ret3
     exact ⟨_, by rw [HX2.out]; rfl, by rw [HX2.out]; exact HO.out, HB.out⟩
    ·have hqb : ((q : Int) == (s.length : Int)) = false := by rw [beq_eq_false_iff_ne]; omega
     have hqlt : q < s.length := by omega
     have HI := Lib.hid (fun w => tItem_any s q w (by omega) hqlt)
     obtain ⟨o, ho⟩ : ∃ o, Hid (itemL (s.drop q) = o) := ⟨_, Lib.hid rfl⟩
     rw [ho.out] at HI
     clear hql
     go_wp2_with fail
     ((with_reducible refine HS.out.mono ?_))
     rintro e w2 ⟨rfl, rfl⟩
     go_wp2_with fail
     ((with_reducible refine (HI.out _).mono ?_))
     rintro e w2 ⟨⟨a, b, d, n, c, rfl, HE⟩, hb2⟩
     have HO2 := Lib.hid (HO.out.below hb2)
     have HB2 := Lib.hid (bel_then HB.out (Nat.le_refl _) hb2)
     clear hb2 HS HI
     unfold tokV
     cases o with
     | none =>
       have HX2 : Hid (X = ([], q, 2)) := Lib.hid (by rw [HX.out]; exact scanG_bad E2.out hb.out E1.out hqlt ho.out)
       clear HX HE ho
       simp only [Option.isSome_none]
       go_wp2_with fail
       go_ret3
       refine ⟨_, by rw [HX2.out]; rfl, by rw [HX2.out]; exact Toks.nil _ _, ?_⟩
       exact HB2.out.alloc HB2.out.size _
     | some x =>
       obtain ⟨k, v, t, nn⟩ := x
       obtain ⟨rfl, rfl, rfl, rfl⟩ := HE _ rfl
       have hn : 1 ≤ nn ∧ nn ≤ (s.drop q).length := itemL_le ho.out
       rw [List.length_drop] at hn
       have HX2 : Hid (X = scanG s (q + nn) (l ++ [⟨k, v, c, q⟩])) := Lib.hid (by rw [HX.out]; exact scanG_next hq1 E2.out hb.out E1.out hqlt ho.out)
       clear HX HE ho
       simp only [Option.isSome_some]
       go_wp2_with (at_builtin; refine wpList_append_tok rfl _ _ rfl w.heap.size _ l rfl ((HO2.out.alloc _).alloc _) (w2.heap.size + 1) ⟨k, v, c, q⟩ rfl (two_new _ _ _) (by omega) (bel_alloc2 HB2.out _ _ (Nat.le_refl _)).size ?_; intro v3 w3 ho3 hg; have HO3 := Lib.hid ho3; have HB3 := Lib.hid (Toks.kept ((HO2.out.alloc _).alloc _) (bel_alloc2 HB2.out _ _ (Nat.le_refl _)) hg (bel_alloc2 HB2.out _ _ (Nat.le_refl _)).size (Nat.le_refl _)); clear ho3 hg)
       go_roundw
       case rel => exact ⟨q + nn, l ++ [⟨k, v, c, q⟩], by go_num, by omega, by rw [List.length_append]; simp; omega, HX2, HO3, HB3⟩
       case measure => simp [intOf]; omega
set_option maxRecDepth 100000 in
set_option maxHeartbeats 4000000 in
theorem rScan_any (s : List UInt8) (w : World) (hs : s.length ≤ 4611686018427380000) :
 Calls Tryz.prog 11 #[.string ⟨s.toArray⟩] w (ScanPost w (scanL s)) := by
 by_cases hl : (65536 : Int) < (s.length : Int)
 ·rw [scanL_long (by omega)]
  go_enter Tryz.func11, Tryz.ntmps11
  go_wp2_with fail
  go_ret3
  exact ⟨_, rfl, Toks.nil _ _, Below.refl _ _⟩
 ·rw [scanL_go (by omega)]
  have hl2 : s.length ≤ 65536 := by omega
  obtain ⟨X, hX⟩ : ∃ X, Hid (scanG s 0 [] = X) := ⟨_, Lib.hid rfl⟩
  rw [hX.out]
  go_enter Tryz.func11, Tryz.ntmps11
  go_wp2_with fail
  go_loopw [6, 5] (fun i v wr => ∃ (p : Nat) (l : List Tok), i = .int .i64 p ∧ p ≤ s.length ∧ l.length ≤ p ∧ Hid (X = scanG s p l) ∧ Hid (Toks wr w.heap.size v l) ∧ Hid (Below w.heap.size w wr)) (fun i _ _ => s.length - (intOf i).toNat)
  case atStart => exact ⟨0, [], rfl, by omega, by simp, Lib.hid hX.out.symm, Lib.hid (Toks.nil _ _), Lib.hid (Below.refl _ _)⟩
  case round =>
   obtain ⟨p, l, rfl, hp, hlp, HX, HO, HB⟩ := hrel
   obtain ⟨av, cv, hv⟩ := HO.out.form
   subst hv
   obtain ⟨w1, rfl⟩ : ∃ x : World, x = wr := ⟨_, rfl⟩
   have HS := Lib.hid (rSkip_any s p w1 (by omega) hp)
   obtain ⟨q, hq1, hq2, e1, e2⟩ := skip_place s p hp
   unfold skipTup at HS
   rw [e2] at HS
   obtain ⟨b, hb⟩ : ∃ b, Hid ((skipL (s.drop p)).2 = b) := ⟨_, Lib.hid rfl⟩
   rw [hb.out] at HS
   have E1 := Lib.hid e1
   have E2 := Lib.hid e2
   clear e1 e2
   cases b
   ·have HX2 : Hid (X = ([], q, 2)) := Lib.hid (by rw [HX.out]; exact scanG_open E2.out hb.out)
    clear HX
    go_wp2_with fail
    ((with_reducible refine HS.out.mono ?_))
    rintro e w2 ⟨rfl, rfl⟩
    go_wp2_with fail
    go_ret3
    exact ⟨_, by rw [HX2.out]; rfl, by rw [HX2.out]; exact Toks.nil _ _, HB.out⟩
   ·by_cases hql : q = s.length
    ·have hqb : ((q : Int) == (s.length : Int)) = true := by rw [beq_iff_eq]; omega
     have HX2 : Hid (X = (l, 0, 0)) := Lib.hid (by rw [HX.out]; exact scanG_done hb.out (by rw [E1.out]; exact List.drop_eq_nil_of_le (by omega)))
     clear hql HX
     go_wp2_with fail
     ((with_reducible refine HS.out.mono ?_))
     rintro e w2 ⟨rfl, rfl⟩
     go_wp2_with fail
     go_ret3
     exact ⟨_, by rw [HX2.out]; rfl, by rw [HX2.out]; exact HO.out, HB.out⟩
    ·have hqb : ((q : Int) == (s.length : Int)) = false := by rw [beq_eq_false_iff_ne]; omega
     have hqlt : q < s.length := by omega
     have HI := Lib.hid (fun w => rItem_any s q w (by omega) hqlt)
     obtain ⟨o, ho⟩ : ∃ o, Hid (itemL (s.drop q) = o) := ⟨_, Lib.hid rfl⟩
     rw [ho.out] at HI
     clear hql
     go_wp2_with fail
     ((with_reducible refine HS.out.mono ?_))
     rintro e w2 ⟨rfl, rfl⟩
     go_wp2_with fail
     ((with_reducible refine (HI.out _).mono ?_))
     rintro e w2 ⟨⟨a, b, d, n, c, rfl, HE0, HE⟩, hb2⟩
     have HO2 := Lib.hid (HO.out.below hb2)
     have HB2 := Lib.hid (bel_then HB.out (Nat.le_refl _) hb2)
     clear hb2 HS HI
     unfold tokV
     cases o with
     | none =>
       have HX2 : Hid (X = ([], q, 2)) := Lib.hid (by rw [HX.out]; exact scanG_bad E2.out hb.out E1.out hqlt ho.out)
       obtain rfl := HE0 rfl
       clear HX HE ho HE0
       go_wp2_with fail
       go_ret3
       refine ⟨_, by rw [HX2.out]; rfl, by rw [HX2.out]; exact Toks.nil _ _, ?_⟩
       exact HB2.out.alloc HB2.out.size _
     | some x =>
       obtain ⟨k, v, t, nn⟩ := x
       obtain ⟨rfl, rfl, rfl, rfl, rfl⟩ := HE _ rfl
       have hn : 1 ≤ nn ∧ nn ≤ (s.drop q).length := itemL_le ho.out
       rw [List.length_drop] at hn
       have HX2 : Hid (X = scanG s (q + nn) (l ++ [⟨k, v, c, q⟩])) := Lib.hid (by rw [HX.out]; exact scanG_next hq1 E2.out hb.out E1.out hqlt ho.out)
       clear HX HE ho HE0
       simp only []
       obtain ⟨z, hz⟩ : ∃ z, q + nn = z := ⟨_, rfl⟩
       rw [hz] at HX2 ⊢
       go_wp2_with (at_builtin; refine wpList_append_tok rfl _ _ rfl w.heap.size _ l rfl ((HO2.out.alloc _).alloc _) (w2.heap.size + 1) ⟨k, v, c, q⟩ rfl (two_new _ _ _) (by omega) (bel_alloc2 HB2.out _ _ (Nat.le_refl _)).size ?_; intro v3 w3 ho3 hg; have HO3 := Lib.hid ho3; have HB3 := Lib.hid (Toks.kept ((HO2.out.alloc _).alloc _) (bel_alloc2 HB2.out _ _ (Nat.le_refl _)) hg (bel_alloc2 HB2.out _ _ (Nat.le_refl _)).size (Nat.le_refl _)); clear ho3 hg)
       go_roundw
       case rel => exact ⟨z, l ++ [⟨k, v, c, q⟩], by go_num, by omega, by rw [List.length_append]; simp; omega, HX2, HO3, HB3⟩
       case measure => simp [intOf]; omega
end Go.Proofs.YtnicnfchkdmieaaGreatDoor
