/- Valid; what Scan's tokens are; Parse: the walks. -/
import Derived.Test.YtnicnfchkdmieaaDoorSn
namespace Go.Proofs.YtnicnfchkdmieaaDoor
open Go.RowKit
set_option linter.unusedVariables false
set_option linter.unusedSimpArgs false
attribute [local go_sem] ByteArray.mk_append_mk bs_get bs_cut bs_end

theorem valid_any (m : Int) (p : List Nd) (v : Value) (w : World) (hv : NSl w v p) (hm : SynG m w) (hl : p.length ≤ 9223372036854775000) :
    Calls Tryd.prog 7 #[v] w fun e w' => e = .returned (.bool (validL p)) ∧ Below w.heap.size w w' := by
  obtain ⟨X, hX⟩ : ∃ X, Hid (validL p = X) := ⟨_, Lib.hid rfl⟩
  have HV0 := Lib.hid hv
  have HG0 := Lib.hid hm
  have HB0 := Lib.hid (Below.refl w.heap.size w)
  obtain ⟨a, cap, rfl, hc⟩ := hv.1
  clear hc hv hm
  by_cases h2 : p.length ≤ 2048
  · have h2' : ¬ (2048 : Int) < (p.length : Int) := by omega
    have HX0 : Hid (vTop p p.length 0 = X) := Lib.hid (by rw [← hX.out]; unfold validL; rw [decide_eq_true h2, Bool.true_and])
    have HEL := Lib.hid (valid_ok m p (by omega) 32 1 (by omega) (by omega)).1
    obtain ⟨L, hL⟩ : ∃ L, p.length = L := ⟨_, rfl⟩
    have HL := Lib.hid hL
    rw [hL] at h2 h2' hl HV0 HX0 ⊢
    clear hL
    go_enter Tryd.func7, Tryd.ntmps7
    go_wp2_with fail
    go_loopw [3] (fun x wr => ∃ (f q : Nat), x = .int .i64 q ∧ q ≤ L ∧ L ≤ f + q ∧ Hid (vTop p f q = X) ∧ Hid (NSl wr (.slice a L cap) p) ∧ Hid (SynG m wr) ∧ Hid (Below w.heap.size w wr)) (fun x _ => L - (intOf x).toNat)
    case atStart => exact ⟨L, 0, rfl, by omega, by omega, HX0, HV0, HG0, HB0⟩
    case round =>
      clear HX0 HV0 HG0 HB0
      obtain ⟨f, q, rfl, hq, hf, HX, HV, HG, HB⟩ := hrel
      obtain ⟨w4, rfl⟩ : ∃ y : World, y = wr := ⟨_, rfl⟩
      by_cases hlt : q < L
      · have hlt' : (q : Int) < (L : Int) := by omega
        obtain ⟨f, rfl⟩ : ∃ g, f = g + 1 := ⟨f - 1, by omega⟩
        have HXK : Hid (X = match vAny p 32 false 68 q with | none => false | some j => vTop p f j) := Lib.hid (by rw [← HX.out, vTop, if_neg (by rw [HL.out]; omega)]; rfl)
        have HC : Hid (Calls Tryd.prog 11 #[.slice a L cap, .int .i64 q, .int .u8 68, .int .i64 1] w4 (VPost w4 (vAny p 32 false 68 q))) := Lib.hid (HEL.out 68 q _ w4 HV.out HG.out (by rw [HL.out]; exact hq))
        unfold VPost at HC
        cases hx : vAny p 32 false 68 q with
        | none =>
          rw [hx] at HC HXK
          have HX2 : Hid (X = false) := HXK
          clear hx HX HXK
          simp only [Option.isSome_none, Option.getD_none] at HC
          go_wp2_with fail
          ((with_reducible refine HC.out.mono ?_))
          rintro e w5 ⟨rfl, hb5⟩
          have HB5 : Hid (Below w.heap.size w w5) := Lib.hid (bel_then HB.out (Nat.le_refl _) hb5)
          clear hb5
          go_wp2_with fail
          go_ret
          rw [hX.out, HX2.out]
          exact ⟨rfl, HB5.out⟩
        | some z =>
          rw [hx] at HC HXK
          have hz := vAny_good p 32 false 68 q z hx
          rw [HL.out] at hz
          obtain ⟨hz1, hz2⟩ := hz
          have HX5 : Hid (vTop p f z = X) := Lib.hid HXK.out.symm
          clear hx HX HXK
          simp only [Option.isSome_some, Option.getD_some] at HC
          go_wp2_with fail
          ((with_reducible refine HC.out.mono ?_))
          rintro e w5 ⟨rfl, hb5⟩
          have HB5 : Hid (Below w.heap.size w w5) := Lib.hid (bel_then HB.out (Nat.le_refl _) hb5)
          have HV5 := Lib.hid (HV.out.below hb5)
          have HG5 := Lib.hid (HG.out.below hb5 HG.out.low)
          clear hb5 HC
          go_wp2_with fail
          go_roundw
          case rel => exact ⟨f, z, rfl, hz2, by omega, HX5, HV5, HG5, HB5⟩
          case measure => simp [intOf]; omega
      · have hlt' : ¬ (q : Int) < (L : Int) := by omega
        have HX5 : Hid (X = true) := Lib.hid (by
          rw [← HX.out]
          cases f with
          | zero => rw [vTop]; exact decide_eq_true (by rw [HL.out]; omega)
          | succ f => rw [vTop, if_pos (by rw [HL.out]; omega)])
        clear HX
        go_wp2_with fail
        go_ret
        rw [hX.out, HX5.out]
        exact ⟨rfl, HB.out⟩
  · have h2' : (2048 : Int) < (p.length : Int) := by omega
    have HX0 : Hid (X = false) := Lib.hid (by rw [← hX.out]; unfold validL; rw [decide_eq_false h2, Bool.false_and])
    go_enter Tryd.func7, Tryd.ntmps7
    go_wp2_with fail
    go_ret
    rw [hX.out, HX0.out]
    exact ⟨rfl, HB0.out⟩
theorem textF_255 (s v x r : List UInt8) (h : textF s v = some (x, r)) : x.length ≤ 255 := by
  fun_induction textF s v
  all_goals first
    | (cases h; done)
    | (rename_i ih; exact ih h)
    | (injection h with h; injection h with h1 h2; rw [← h1]; omega)
theorem item_good {d t : List UInt8} {k v n : Nat} (h : itemL d = some (k, v, t, n)) : (t.length ≤ d.length ∨ t.length ≤ 255) ∧ (k = 2 → t ≠ []) := by
  cases d with
  | nil => cases h
  | cons c r =>
    rw [itemL] at h
    split at h
    · obtain ⟨z, hz, e⟩ := Option.map_eq_some_iff.1 h
      injection e with e1 e2; injection e2 with e2 e3; injection e3 with e3 e4
      subst e1 e3
      exact ⟨.inl (by simp), fun h => by cases h⟩
    rename_i hd
    split at h
    · rename_i hlt
      split at h
      · split at h
        · injection h with e
          injection e with e1 e2; injection e2 with e2 e3; injection e3 with e3 e4
          subst e1 e3
          refine ⟨.inl (by rw [List.length_take]; omega), fun _ hn => ?_⟩
          have : 1 ≤ wordN (c :: r) := wordN_pos (by unfold idB; rw [hlt]; rfl)
          rw [List.take_eq_nil_iff] at hn
          rcases hn with hn | hn
          · omega
          · cases hn
        · cases h
      · obtain ⟨z, hz, e⟩ := Option.map_eq_some_iff.1 h
        injection e with e1 e2; injection e2 with e2 e3; injection e3 with e3 e4
        subst e1 e3
        exact ⟨.inl (by rw [List.length_take]; omega), fun h => by cases h⟩
    split at h
    · obtain ⟨z, hz, e⟩ := Option.map_eq_some_iff.1 h
      injection e with e1 e2; injection e2 with e2 e3; injection e3 with e3 e4
      subst e1 e3
      exact ⟨.inl (by rw [List.length_take]; omega), fun h => by cases h⟩
    split at h
    · obtain ⟨⟨x, y⟩, hz, e⟩ := Option.map_eq_some_iff.1 h
      injection e with e1 e2; injection e2 with e2 e3; injection e3 with e3 e4
      subst e1 e3
      exact ⟨.inr (textF_255 _ _ _ _ hz), fun h => by cases h⟩
    split at h
    · cases h
    · injection h with e
      injection e with e1 e2; injection e2 with e2 e3; injection e3 with e3 e4
      subst e3
      refine ⟨.inl (by simp), fun h => ?_⟩
      rw [← e1] at h
      have h9 : punctK c ≠ 2 := by
        unfold punctK
        repeat' split
        all_goals decide
      exact absurd h h9
end Go.Proofs.YtnicnfchkdmieaaDoor
