/- Parent of the reference: the walk. -/
import Derived.Test.YtkalnblbplaheaaDoorNsa
namespace Go.Proofs.YtkalnblbplaheaaDoor
open Go.RowKit
set_option linter.unusedVariables false
attribute [local go_sem] ByteArray.mk_append_mk bs_get bs_cut bs_end

theorem below_app {w w' : World} (hg : w.grownBy w' (Value.slice none 0 0).ownBlock) : Below w.heap.size w w' := Below.grown (Below.refl _ _) hg (Nat.le_refl _) (fun k h => by cases h)
theorem ret_rpar (tmps : Array Value) (w : World) (b : Nat) (c0 c1 c2 : Value) (h2 : tmps.getD 2 undef = .pointer (some ⟨b, 0, none⟩)) (hb : w.heap[b]? = some (.cells #[c0, c1, c2] 24 (0, 0))) :
    (results Tryd.f33 tmps).run Tryd.prog w = .ok (.tuple #[.agg #[c0, c1, c2], tmps.getD 3 undef]) w := by
  obtain ⟨e0, e1, e2⟩ := cells3 hb
  have h2' : tmps[2]?.getD undef = .pointer (some ⟨b, 0, none⟩) := by rw [← h2]; simp
  simp [results]
  go_simp
set_option maxHeartbeats 1000000 in
theorem rparent_no1 (p : Value) (root : Bool) (up : Int) (l : List (List UInt8)) (w : World) (hp : PathV w p root up l) (hx : ∀ x ∈ l, x.length ≤ 9223372036854775000) (hv : validB root up l = false) : Calls Tryd.prog 33 #[p] w (PPost w false 0 [] false) := by
  obtain ⟨v, rfl, hs⟩ := hp
  have HA := Lib.hid (PAt.start (root := root) (up := up) hs)
  have HX := Lib.hid hx
  clear hx
  obtain ⟨a, cap, rfl, hcap⟩ := hs.form
  clear hs
  have HV := Lib.hid hv
  clear hv
  have HN := Lib.hid (validPath_any _ root up l _ HA.out.1.pathV HX.out)
  obtain ⟨b0, b1, b2⟩ := HA.out.1.cells
  go_enter Tryd.func33, Tryd.ntmps33
  go_wp2_with fail
  ((with_reducible refine HN.out.mono ?_))
  rintro e w1 ⟨rfl, hb⟩
  have HA1 := Lib.hid (HA.out.below hb)
  clear hb HN HA b0 b1 b2
  rw [HV.out]
  obtain ⟨b0, b1, b2⟩ := HA1.out.1.cells
  have hn := HA1.out.2
  obtain ⟨c0, c1, c2⟩ := cells3 hn
  have f0 := free3 hn 0
  have f1 := free3 hn 1
  have f2 := free3 hn 2
  clear hn
  go_wp2_with fail
  exact bodyPost_ret (ret_rpar _ _ _ _ _ _ rfl (put3 HA1.out.2 _ _ _)) rfl ⟨_, rfl, own_nil _ _, bel3 HA1.out.1.2.2 (by omega) _ _ _⟩
set_option maxHeartbeats 1000000 in
theorem rparent_no2 (p : Value) (up : Int) (l : List (List UInt8)) (w : World) (hp : PathV w p false up l) (hx : ∀ x ∈ l, x.length ≤ 9223372036854775000) (hv : validB false up l = true) : Calls Tryd.prog 33 #[p] w (PPost w false 0 [] false) := by
  obtain ⟨v, rfl, hs⟩ := hp
  have HA := Lib.hid (PAt.start (root := false) (up := up) hs)
  have HX := Lib.hid hx
  clear hx
  obtain ⟨a, cap, rfl, hcap⟩ := hs.form
  clear hs
  have HV := Lib.hid hv
  clear hv
  have HN := Lib.hid (validPath_any _ false up l _ HA.out.1.pathV HX.out)
  obtain ⟨b0, b1, b2⟩ := HA.out.1.cells
  go_enter Tryd.func33, Tryd.ntmps33
  go_wp2_with fail
  ((with_reducible refine HN.out.mono ?_))
  rintro e w1 ⟨rfl, hb⟩
  have HA1 := Lib.hid (HA.out.below hb)
  clear hb HN HA b0 b1 b2
  rw [HV.out]
  obtain ⟨b0, b1, b2⟩ := HA1.out.1.cells
  have hn := HA1.out.2
  obtain ⟨c0, c1, c2⟩ := cells3 hn
  have f0 := free3 hn 0
  have f1 := free3 hn 1
  have f2 := free3 hn 2
  clear hn
  go_wp2_with fail
  exact bodyPost_ret (ret_rpar _ _ _ _ _ _ rfl (put3 HA1.out.2 _ _ _)) rfl ⟨_, rfl, own_nil _ _, bel3 HA1.out.1.2.2 (by omega) _ _ _⟩
set_option maxHeartbeats 1000000 in
theorem rparent_no3 (p : Value) (up : Int) (w : World) (hp : PathV w p true up []) (hv : validB true up [] = true) : Calls Tryd.prog 33 #[p] w (PPost w false 0 [] false) := by
  have hx : ∀ x ∈ ([] : List (List UInt8)), x.length ≤ 9223372036854775000 := by simp
  obtain ⟨l, hl⟩ : ∃ l : List (List UInt8), Hid (l = []) := ⟨_, Lib.hid rfl⟩
  rw [← hl.out] at hp hv hx
  obtain ⟨v, rfl, hs⟩ := hp
  have HA := Lib.hid (PAt.start (root := true) (up := up) hs)
  have HX := Lib.hid hx
  clear hx
  obtain ⟨a, cap, rfl, hcap⟩ := hs.form
  clear hs
  have HV := Lib.hid hv
  clear hv
  have HN := Lib.hid (validPath_any _ true up l _ HA.out.1.pathV HX.out)
  obtain ⟨b0, b1, b2⟩ := HA.out.1.cells
  go_enter Tryd.func33, Tryd.ntmps33
  go_wp2_with fail
  ((with_reducible refine HN.out.mono ?_))
  rintro e w1 ⟨rfl, hb⟩
  have HA1 := Lib.hid (HA.out.below hb)
  clear hb HN HA b0 b1 b2
  rw [HV.out]
  obtain ⟨b0, b1, b2⟩ := HA1.out.1.cells
  obtain rfl := hl.out
  have hn := HA1.out.2
  obtain ⟨c0, c1, c2⟩ := cells3 hn
  have f0 := free3 hn 0
  have f1 := free3 hn 1
  have f2 := free3 hn 2
  clear hn
  go_wp2_with fail
  exact bodyPost_ret (ret_rpar _ _ _ _ _ _ rfl (put3 HA1.out.2 _ _ _)) rfl ⟨_, rfl, own_nil _ _, bel3 HA1.out.1.2.2 (by omega) _ _ _⟩
set_option maxHeartbeats 1000000 in
theorem rparent_yes (p : Value) (up : Int) (l : List (List UInt8)) (w : World) (hp : PathV w p true up l) (hx : ∀ x ∈ l, x.length ≤ 9223372036854775000) (hv : validB true up l = true) (h0 : 0 < l.length) (h1 : l.length ≤ 32) : Calls Tryd.prog 33 #[p] w (PPost w true 0 (l.take (l.length - 1)) true) := by
  have hz : ((l.length : Int) == 0) = false := by rw [beq_eq_false_iff_ne]; omega
  obtain ⟨v, rfl, hs⟩ := hp
  have HA := Lib.hid (PAt.start (root := true) (up := up) hs)
  have HX := Lib.hid hx
  clear hx
  obtain ⟨a, cap, rfl, hcap⟩ := hs.form
  clear hs
  have HV := Lib.hid hv
  clear hv
  have HN := Lib.hid (validPath_any _ true up l _ HA.out.1.pathV HX.out)
  obtain ⟨b0, b1, b2⟩ := HA.out.1.cells
  go_enter Tryd.func33, Tryd.ntmps33
  go_wp2_with fail
  ((with_reducible refine HN.out.mono ?_))
  rintro e w1 ⟨rfl, hb⟩
  have HA1 := Lib.hid (HA.out.below hb)
  clear hb HN HA b0 b1 b2
  rw [HV.out]
  obtain ⟨b0, b1, b2⟩ := HA1.out.1.cells
  have hcap2 : (l.length : Int) - 1 ≤ (cap : Int) := by omega
  have h00 : (1 : Int) ≤ (l.length : Int) := by omega
  have HS := Lib.hid (HA1.out.1.2.1.front (l.length - 1) (by omega))
  have HL : Hid ((l.take (l.length - 1)).length ≤ 32) := Lib.hid (by rw [List.length_take]; omega)
  have HZ : Hid (w.heap.size + 1 < w1.heap.size) := Lib.hid (lt_of_block HA1.out.2)
  go_wp2_with (at_builtin; refine wpList_append_strs rfl _ _ rfl w1.heap.size (.slice none 0 0) [] rfl (own_nil _ _) (.slice a (l.length - 1) cap) (l.take (l.length - 1)) rfl HS.out (by have := HL.out; simp; omega) (Nat.le_refl _) ?_; intro v2 w2 ho hg; obtain ⟨a2, m2, c2, rfl⟩ := own_slice ho; have HO := Lib.hid ho; have HA2 := Lib.hid (HA1.out.below (below_app hg)); clear ho hg HA1 b0 b1 b2; have hn := HA2.out.2; obtain ⟨d0, d1, d2⟩ := cells3 hn; have f0 := free3 hn 0; have f1 := free3 hn 1; have f2 := free3 hn 2; clear hn)
  exact bodyPost_ret (ret_rpar _ _ _ _ _ _ rfl (put3 HA2.out.2 _ _ _)) rfl ⟨_, rfl, own_base (own_set3 HO.out _ _ _ _ HZ.out) (by have := HZ.out; omega), bel3 HA2.out.1.2.2 (by omega) _ _ _⟩
theorem rparent_any (p : Value) (root : Bool) (up : Int) (l : List (List UInt8)) (w : World) (hp : PathV w p root up l) (hx : ∀ x ∈ l, x.length ≤ 9223372036854775000) :
    Calls Tryd.prog 33 #[p] w (PPost w (parR root up l) 0 (if parR root up l = true then l.dropLast else []) (parR root up l)) := by
  unfold parR absB
  cases hv : validB root up l
  · rw [Bool.and_false]; exact rparent_no1 p root up l w hp hx hv
  · cases root
    · exact rparent_no2 p up l w hp hx hv
    · by_cases hn : l = []
      · subst hn; exact rparent_no3 p up w hp hv
      · have e : (true && true && decide (l ≠ [])) = true := by simp [hn]
        rw [e, if_pos rfl, List.dropLast_eq_take]
        exact rparent_yes p up l w hp hx hv (List.length_pos_iff.2 hn) (absB_len (root := true) (up := up) (by unfold absB; rw [hv]; rfl)).2.2.1
end Go.Proofs.YtkalnblbplaheaaDoor
