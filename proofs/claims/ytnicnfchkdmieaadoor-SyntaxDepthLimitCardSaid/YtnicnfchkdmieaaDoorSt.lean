/- awake; SyntaxDepthLimit: the walks. -/
import Derived.Test.YtnicnfchkdmieaaDoorSr
namespace Go.Proofs.YtnicnfchkdmieaaDoor
open Go.RowKit
set_option linter.unusedVariables false
set_option linter.unusedSimpArgs false
attribute [local go_sem] ByteArray.mk_append_mk bs_get bs_cut bs_end

theorem parse_is (s : List UInt8) (ns : List Nd) (pos er m : Int) (H : Hid (parseL s = (ns, pos, er))) (w : World) (hm : SynG m w) (hs : s.length ≤ 4611686018427380000) :
    Calls Tryd.prog 5 #[.string ⟨s.toArray⟩] w fun e w' => ∃ v, e = .returned (.tuple #[v, .int .i64 pos, .int .i64 er]) ∧ NodesI w' w.heap.size v ns ∧ Below w.heap.size w w' := by
  have := parse_syn s m w hm hs
  unfold ParsePost at this
  rw [H.out] at this
  exact this
theorem valid_is (m : Int) (p : List Nd) (b : Bool) (H : Hid (validL p = b)) (v : Value) (w : World) (hv : NSl w v p) (hm : SynG m w) (hl : p.length ≤ 9223372036854775000) :
    Calls Tryd.prog 7 #[v] w fun e w' => e = .returned (.bool b) ∧ Below w.heap.size w w' := by
  have := valid_any m p v w hv hm hl
  rw [H.out] at this
  exact this
theorem awP_nds : NdsOk awP := by
  intro t ht
  simp only [awP, List.mem_cons, List.not_mem_nil, or_false] at ht
  rcases ht with rfl | rfl | rfl <;> simp
abbrev awO : Obj := .cells #[.int .i64 13, .int .u64 0, .string ⟨#[]⟩, .int .i64 2, .int .i64 3, .int .u64 0, .string ⟨#[95, 65, 68, 82]⟩, .int .i64 0, .int .i64 1, .int .u64 16, .string ⟨#[]⟩, .int .i64 0] 41
theorem aw_lit (w : World) : NSl (w.alloc awO) (.slice (some ⟨w.heap.size, 0, none⟩) 3 3) awP := by
  rw [show awO = .cells (tcI awP).toArray 41 from rfl]
  refine ⟨⟨_, _, rfl, fun _ => ⟨w.heap.size, 0, rfl, fun i hi => ?_⟩⟩, awP_nds⟩
  obtain ⟨k0, k1, k2, k3⟩ := tcI_at awP i hi
  have h := heap_alloc_new w (.cells (tcI awP).toArray 41)
  rw [Nat.zero_add]
  refine ⟨?_, ?_, ?_, ?_⟩
  · rw [cell_of_row _ _ _ _ _ (0, 0) h]; simpa using k0
  · rw [cell_of_row _ _ _ _ _ (0, 0) h]; simpa using k1
  · rw [cell_of_row _ _ _ _ _ (0, 0) h]; simpa using k2
  · rw [cell_of_row _ _ _ _ _ (0, 0) h]; simpa using k3
set_option maxRecDepth 100000 in
set_option maxHeartbeats 4000000 in
theorem awake_any (m : Int) (w : World) (hm : SynG m w) : Calls Tryd.prog 6 #[] w fun e w' => e = .returned (.bool true) ∧ Below w.heap.size w w' := by
  have HP1 := Lib.hid (parse_is aw1 awP 0 0 m (Lib.hid aw1_is) w hm (by decide))
  have HG := Lib.hid hm
  unfold aw1 at HP1
  clear hm
  go_enter Tryd.func6, Tryd.ntmps6
  go_wp2_with fail
  ((with_reducible refine HP1.out.mono ?_))
  rintro e w1 ⟨v1, rfl, hv1, hb1⟩
  obtain ⟨a1, c1, rfl⟩ := hv1.form
  have HG1 := Lib.hid (HG.out.below hb1 HG.out.low)
  have HN1 := Lib.hid (hv1.sl awP_nds)
  have HB1 := Lib.hid hb1
  have HP2 := Lib.hid (parse_is aw2 [] 14 2 m (Lib.hid aw2_is) w1 HG1.out (by decide))
  unfold aw2 at HP2
  clear hv1 hb1 HP1 HG
  go_wp2_with fail
  ((with_reducible refine HP2.out.mono ?_))
  rintro e w2 ⟨v2, rfl, hv2, hb2⟩
  obtain ⟨a2, c2, rfl⟩ := hv2.form
  have HG2 := Lib.hid (HG1.out.below hb2 HG1.out.low)
  have HN2 := Lib.hid (HN1.out.below hb2)
  have HB2 : Hid (Below w.heap.size w w2) := Lib.hid (bel_then HB1.out (Nat.le_refl _) hb2)
  have HLT := Lib.hid (aw_lit w2)
  have hal : Below w2.heap.size w2 (w2.alloc awO) := (Below.refl _ _).alloc (Nat.le_refl _) _
  have HN3 := Lib.hid (HN2.out.below hal)
  have HG3 := Lib.hid (HG2.out.below hal HG2.out.low)
  have HB3 : Hid (Below w.heap.size w (w2.alloc awO)) := Lib.hid (bel_then HB2.out (Nat.le_refl _) hal)
  have HEQ := Lib.hid (equal_nodes _ _ awP _ HN3.out HLT.out (by decide))
  clear hv2 hb2 HP2 HG1 HN1 HB1 hal
  go_wp2_with fail
  ((with_reducible refine HEQ.out.mono ?_))
  rintro e w4 ⟨rfl, n, rfl⟩
  have hdr : Below (w2.alloc awO).heap.size (w2.alloc awO) ((w2.alloc awO).drewN n) := below_drewN (Below.refl _ _) n
  have HVA := Lib.hid (valid_is m awP true (Lib.hid awP_is) _ _ (HN3.out.below hdr) (HG3.out.below hdr HG3.out.low) (by decide))
  have HB4 : Hid (Below w.heap.size w ((w2.alloc awO).drewN n)) := Lib.hid (below_drewN HB3.out n)
  clear hdr
  go_wp2_with fail
  ((with_reducible refine HVA.out.mono ?_))
  rintro e w5 ⟨rfl, hb5⟩
  have HB5 : Hid (Below w.heap.size w w5) := Lib.hid (bel_then HB4.out (Nat.le_refl _) hb5)
  clear hb5
  go_wp2_with fail
  go_ret
  exact ⟨rfl, HB5.out⟩
end Go.Proofs.YtnicnfchkdmieaaDoor
