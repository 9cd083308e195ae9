/- Pa Pb Pc Pd -/
import Derived.Test.YtnicnfchkdmieaaGreatDoorZn
import Derived.Maps.AppendAt
set_option linter.unusedVariables false
set_option linter.unusedSimpArgs false
namespace Go.Proofs.YtnicnfchkdmieaaGreatDoor
section
open Go.RowKit
attribute [local go_sem] ByteArray.mk_append_mk bs_get bs_cut bs_end
def Keep (C : Nat) (w w' : World) : Prop := w.grownBy w' (some C)
theorem Keep.refl (C : Nat) (w : World) : Keep C w w := World.grownBy.refl w _
theorem Keep.trans {C : Nat} {a b c : World} (h : Keep C a b) (k : Keep C b c) : Keep C a c := World.grownBy.trans h k
theorem Keep.of {C : Nat} {w w' : World} (h : Below w.heap.size w w') : Keep C w w' := ⟨h.os, h.tape, h.output, h.size, fun k hk _ => h.block k hk⟩
theorem Keep.drewN {C : Nat} {a w : World} (h : Keep C a w) (n : Nat) : Keep C a (w.drewN n) := ⟨h.os, h.tape, h.output, h.size, h.block⟩
theorem Keep.setC {C : Nat} {a w : World} (h : Keep C a w) (j : Nat) (v : Value) : Keep C a (w.setCell ⟨C, j, none⟩ v) :=
 h.trans ⟨rfl, rfl, rfl, by simp [World.setCell], fun k hk hne => Below.heap_setCell _ _ _ _ (fun e => hne (by rw [e]))⟩
theorem Keep.below {C B : Nat} {w w' : World} (h : Keep C w w') (hB : B ≤ w.heap.size) (hC : B ≤ C) : Below B w w' :=
 ⟨h.os, h.tape, h.output, h.size, fun k hk => h.block k (by omega) (fun e => by injection e with e; omega)⟩
abbrev chObj (tv : Value) (i : Int) : Obj := .cells #[tv, .int .i64 i] 106 (0, 0)
theorem cells2 {w : World} {b t : Nat} {c0 c1 : Value} (h : w.heap[b]? = some (.cells #[c0, c1] t (0, 0))) : w.cell? ⟨b, 0, none⟩ = some c0 ∧ w.cell? ⟨b, 1, none⟩ = some c1 :=
 ⟨cell_of_row w b 0 _ _ (0, 0) h, cell_of_row w b 1 _ _ (0, 0) h⟩
def CSt (w : World) (C : Nat) : Prop := ∃ (a : Option Addr) (cap i : Nat) (l : List Int), w.heap[C]? = some (chObj (.slice a l.length cap) i) ∧ i ≤ l.length ∧ l.length ≤ 140737488351232 ∧
 (l ≠ [] → ∃ b off, a = some ⟨b, off, none⟩ ∧ b < C ∧ ∀ k (h : k < l.length), w.cell? ⟨b, off + k, none⟩ = some (.int .i64 l[k])) ∧ ∀ x ∈ l, -9223372036854775808 ≤ x ∧ x ≤ 9223372036854775807
theorem CSt.keep {w w' : World} {C : Nat} (h : CSt w C) (hk : Below w.heap.size w w') : CSt w' C := by
 obtain ⟨a, cap, i, l, h1, h2, h3, h4, h5⟩ := h
 refine ⟨a, cap, i, l, blk_below h1 hk, h2, h3, fun hn => ?_, h5⟩
 obtain ⟨b, off, ha, hb, hc⟩ := h4 hn
 exact ⟨b, off, ha, hb, fun k hkl => (hk.cell (p := ⟨b, off + k, none⟩) (World.block_lt_of_cell? w _ (hc k hkl))).trans (hc k hkl)⟩
theorem CSt.lt {w : World} {C : Nat} (h : CSt w C) : C < w.heap.size := by
 obtain ⟨a, cap, i, l, h1, _⟩ := h
 exact lt_of_block h1
theorem CSt.grown {w w' : World} {C : Nat} {row : Option Nat} (h : CSt w C) (hg : w.grownBy w' row) (hr : ∀ g, row = some g → C < g) : CSt w' C := by
 obtain ⟨a, cap, i, l, h1, h2, h3, h4, h5⟩ := h
 refine ⟨a, cap, i, l, blk_grown h1 hg (fun e => by have := hr C e.symm; omega), h2, h3, fun hn => ?_, h5⟩
 obtain ⟨b, off, ha, hb, hc⟩ := h4 hn
 exact ⟨b, off, ha, hb, fun k hkl => hg.cell (hc k hkl) (fun e => by have := hr b e.symm; omega)⟩
theorem Keep.grown {C : Nat} {w a b : World} {row : Option Nat} (h : Keep C w a) (hg : a.grownBy b row) (hr : ∀ g, row = some g → w.heap.size ≤ g) : Keep C w b :=
 ⟨hg.os.trans h.os, hg.tape.trans h.tape, hg.output.trans h.output, Nat.le_trans h.size hg.size, fun k hk hne => (hg.block k (Nat.lt_of_lt_of_le hk h.size) (fun e => by have := hr k e.symm; omega)).trans (h.block k hk hne)⟩
theorem cell_setC {w : World} {b C j : Nat} {p : Nat} {v u : Value} (h : w.cell? ⟨b, p, none⟩ = some v) (hb : b ≠ C) : (w.setCell ⟨C, j, none⟩ u).cell? ⟨b, p, none⟩ = some v :=
 (World.cell?_of_block (a := ⟨b, p, none⟩) (heap_setCell_other w ⟨C, j, none⟩ b u hb)).trans h
theorem quiet_sameP {P : Program} {f : FuncId} {args : Array Value} {w : World} {n : Nat} {v : Value}
 (h : Calls P f args (w.drewN n) fun e w' => e = .returned v ∧ w.drewN n = w') : Calls P f args (w.drewN n) fun e w'' => e = .returned v ∧ ∃ m, w'' = w.drewN m :=
 h.mono fun _ _ ⟨he, hm⟩ => ⟨he, n, hm.symm⟩
set_option maxHeartbeats 2000000 in
theorem next_any (C : Nat) (n : Int) (w : World) (h : CSt w C) (hn : 0 < n) (hn2 : n ≤ 9223372036854775807) :
 Calls Tryz.prog 32 #[.pointer (some ⟨C, 0, none⟩), .int .i64 n] w fun e w' => ∃ k : Nat, e = .returned (.int .i64 k) ∧ (k : Int) < n ∧ CSt w' C ∧ Keep C w w' := by
 have HC := Lib.hid h
 obtain ⟨a, cap, i, l, h1, h2, h3, h4, h5⟩ := h
 obtain ⟨c0, c1⟩ := cells2 h1
 by_cases hlt : i < l.length
 ·have hi1 : ¬ (i : Int) ≥ (l.length : Int) := by omega
  have hi2 : (i : Int) < (l.length : Int) := by omega
  obtain ⟨b, off, rfl, hbC, hc⟩ := h4 (by rintro rfl; simp at hlt)
  have hb : b ≠ C := by omega
  have k0 := hc i hlt
  have hx := h5 l[i] (List.getElem_mem hlt)
  have HST : Hid (∀ q, CSt ((w.drewN q).setCell ⟨C, 1, none⟩ (.int .i64 ((i : Int) + 1))) C) := Lib.hid (fun q => by
   refine ⟨some ⟨b, off, none⟩, cap, i + 1, l, ?_, by omega, h3, fun _ => ⟨b, off, rfl, hbC, fun k hk => ?_⟩, h5⟩
   ·have := heap_setCell_same (w.drewN q) _ 1 _ _ (.int .i64 ((i : Int) + 1)) h1
    rw [this]
    rfl
   ·exact cell_setC (w := w.drewN q) (hc k hk) hb)
  obtain ⟨x, hxe⟩ : ∃ x, l[i] = x := ⟨_, rfl⟩
  rw [hxe] at k0 hx
  have HMD := Lib.hid (fun w => mod_any x n w hn hn2)
  have hnn := modV_nonneg x n hn
  have hln := modV_lt x n hn
  obtain ⟨z, hz⟩ : ∃ z : Nat, modV x n = z := ⟨(modV x n).toNat, by omega⟩
  rw [hz] at HMD hln
  have f1 := free3 h1 1
  have d0 : ∀ q, ((w.drewN q).setCell ⟨C, 1, none⟩ (.int .i64 ((i : Int) + 1))).cell? ⟨C, 0, none⟩ = some (.slice (some ⟨b, off, none⟩) l.length cap) := fun q => by
   have := heap_setCell_same (w.drewN q) _ 1 _ _ (.int .i64 ((i : Int) + 1)) h1
   exact (cells2 (c0 := .slice (some ⟨b, off, none⟩) l.length cap) (c1 := .int .i64 ((i : Int) + 1)) (by rw [this] <;> rfl)).1
  have d1 : ∀ q, ((w.drewN q).setCell ⟨C, 1, none⟩ (.int .i64 ((i : Int) + 1))).cell? ⟨C, 1, none⟩ = some (.int .i64 ((i : Int) + 1)) := fun q => by
   have := heap_setCell_same (w.drewN q) _ 1 _ _ (.int .i64 ((i : Int) + 1)) h1
   exact (cells2 (c0 := .slice (some ⟨b, off, none⟩) l.length cap) (c1 := .int .i64 ((i : Int) + 1)) (by rw [this] <;> rfl)).2
  have d2 : ∀ q, ((w.drewN q).setCell ⟨C, 1, none⟩ (.int .i64 ((i : Int) + 1))).cell? ⟨b, off + i, none⟩ = some (.int .i64 x) := fun q => cell_setC (w := w.drewN q) k0 hb
  have HKP : Hid (∀ q, Keep C w ((w.drewN q).setCell ⟨C, 1, none⟩ (.int .i64 ((i : Int) + 1)))) := Lib.hid (fun q => ((Keep.refl C w).drewN q).setC 1 _)
  clear h1 h4 h5 hc hxe hz hnn
  go_enter Tryz.func32, Tryz.ntmps32
  go_upto_region 1 with fail
  go_quiet (fail)
  go_wp2_with fail
  go_upto_region 4 with fail
  have e0 := d0 nq
  have e1 := d1 nq
  have e2 := d2 nq
  have HS2 := Lib.hid (HST.out nq)
  have HK2 := Lib.hid (HKP.out nq)
  clear d0 d1 d2 HST HKP c0 c1 k0 f1
  generalize (w.drewN nq).setCell ⟨C, 1, none⟩ (.int .i64 ((i : Int) + 1)) = W at e0 e1 e2 HS2 HK2 ⊢
  have hwr : IntKind.i64.wrap (i : Int) = (i : Int) := by rw [IntKind.wrap_i64]; omega
  go_quiet ((go_at_call 14; with_reducible refine quiet_sameP (HMD.out _)))
  go_wp2_with fail
  go_ret
  exact ⟨z, rfl, hln, HS2.out.keep (below_drewN (Below.refl _ _) _), HK2.out.drewN _⟩
 ·have hi1 : (i : Int) ≥ (l.length : Int) := by omega
  clear h4 h5 h1
  go_enter Tryz.func32, Tryz.ntmps32
  go_upto_region 1 with fail
  go_quiet (fail)
  go_wp2_with fail
  go_ret
  exact ⟨0, rfl, by omega, HC.out.keep (below_drewN (Below.refl _ _) _), (Keep.refl C w).drewN _⟩
theorem left_any (C : Nat) (w : World) (h : CSt w C) :
 Calls Tryz.prog 33 #[.pointer (some ⟨C, 0, none⟩)] w fun e w' => ∃ b, e = .returned (.bool b) ∧ CSt w' C ∧ Keep C w w' := by
 have HC := Lib.hid h
 obtain ⟨a, cap, i, l, h1, h2, h3, h4, h5⟩ := h
 obtain ⟨c0, c1⟩ := cells2 h1
 clear h1 h4 h5
 go_enter Tryz.func33, Tryz.ntmps33
 go_upto_region 1 with fail
 go_quiet (fail)
 go_wp2_with fail
 go_ret
 exact ⟨_, rfl, HC.out.keep (below_drewN (Below.refl _ _) _), (Keep.refl C w).drewN _⟩
def IArg (w : World) (v : Value) (l : List Int) : Prop :=
 ∃ (a : Option Addr) (cap : Nat), v = .slice a l.length cap ∧ l.length ≤ 140737488351232 ∧ (l ≠ [] → ∃ b off, a = some ⟨b, off, none⟩ ∧ ∀ k (h : k < l.length), w.cell? ⟨b, off + k, none⟩ = some (.int .i64 l[k])) ∧ ∀ x ∈ l, -9223372036854775808 ≤ x ∧ x ≤ 9223372036854775807
theorem new_any (v : Value) (l : List Int) (w : World) (h : IArg w v l) :
 Calls Tryz.prog 31 #[v] w fun e w' => e = .returned (.pointer (some ⟨w.heap.size, 0, none⟩)) ∧ CSt w' w.heap.size ∧ Below w.heap.size w w' := by
 obtain ⟨a, cap, rfl, hl, hc, hx⟩ := h
 have HC : Hid (CSt (w.alloc (chObj (.slice a l.length cap) 0)) w.heap.size) := Lib.hid (by
  refine ⟨a, cap, 0, l, heap_alloc_new _ _, Nat.zero_le _, hl, fun hn => ?_, hx⟩
  obtain ⟨b, off, ha, hk⟩ := hc hn
  have hb : b < w.heap.size := World.block_lt_of_cell? w ⟨b, off + 0, none⟩ (hk 0 (List.length_pos_iff.2 hn))
  exact ⟨b, off, ha, hb, fun k hkl => (Below.cell ((Below.refl _ _).alloc (Nat.le_refl _) _) (p := ⟨b, off + k, none⟩) hb).trans (hk k hkl)⟩)
 have HB : Hid (Below w.heap.size w (w.alloc (chObj (.slice a l.length cap) 0))) := Lib.hid ((Below.refl _ _).alloc (Nat.le_refl _) _)
 clear hc hx
 go_enter Tryz.func31, Tryz.ntmps31
 go_wp2_with fail
 go_ret
 exact ⟨rfl, HC.out, HB.out⟩
abbrev segO : Obj := .cells #[.string ⟨#[65]⟩, .string ⟨#[66]⟩, .string ⟨#[67]⟩, .string ⟨#[68, 69, 86, 48]⟩, .string ⟨#[80, 87, 82, 48]⟩, .string ⟨#[95, 83, 84, 65]⟩, .string ⟨#[77, 84, 88]⟩, .string ⟨#[69, 86, 84]⟩, .string ⟨#[70, 49]⟩, .string ⟨#[77]⟩] 9
def segL : List (List UInt8) := [[65], [66], [67], [68, 69, 86, 48], [80, 87, 82, 48], [95, 83, 84, 65], [77, 84, 88], [69, 86, 84], [70, 49], [77]]
theorem seg_at : ∀ k : Fin 10, ∃ x ∈ segL, segL[k.val]? = some x ∧ x.length ≤ 4 := by decide +kernel
theorem seg_cell {w : World} {A : Nat} (h : w.heap[A]? = some segO) (k : Nat) (hk : k < 10) : ∃ x : List UInt8, x.length ≤ 4 ∧ w.cell? ⟨A, k, none⟩ = some (.string ⟨x.toArray⟩) := by
 obtain ⟨x, _, h1, h2⟩ := seg_at ⟨k, hk⟩
 refine ⟨x, h2, ?_⟩
 rw [cell_of_row w A k _ _ (0, 0) h]
 have e : (segL.map strV).toArray[k]? = some (strV x) := by
  have h1' : segL[k]? = some x := h1
  rw [List.getElem?_toArray, List.getElem?_map, h1']
  rfl
 exact e
theorem seg_any (n : Int) (w : World) :
 Calls Tryz.prog 64 #[.int .i64 n] w fun e w' => ∃ s : List UInt8, e = .returned (.string ⟨s.toArray⟩) ∧ s.length ≤ 4 ∧ Below w.heap.size w w' := by
 have hA : (w.alloc segO).heap[w.heap.size]? = some segO := heap_alloc_new _ _
 have HB : Hid (Below w.heap.size w (w.alloc segO)) := Lib.hid ((Below.refl _ _).alloc (Nat.le_refl _) _)
 have hnn := modV_nonneg n 10 (by omega)
 have hln := modV_lt n 10 (by omega)
 obtain ⟨z, hz⟩ : ∃ z : Nat, modV n 10 = z := ⟨(modV n 10).toNat, by omega⟩
 have HMD := Lib.hid (fun w => mod_any n 10 w (by omega) (by omega))
 rw [hz] at HMD hln
 obtain ⟨x, hx, c0⟩ := seg_cell hA z (by omega)
 have hz10 : (z : Int) < 10 := hln
 clear hA hnn hz
 go_enter Tryz.func64, Tryz.ntmps64
 go_upto_region 2 with fail
 obtain ⟨A, hAe⟩ : ∃ A, w.heap.size = A := ⟨_, rfl⟩
 have HAE := Lib.hid hAe
 rw [hAe] at c0
 (try simp only [hAe])
 clear hAe
 generalize w.alloc segO = W at c0 HB ⊢
 go_wp2_with fail
 ((with_reducible refine (HMD.out _).mono ?_))
 rintro e w1 ⟨rfl, rfl⟩
 go_wp2_with fail
 go_ret
 exact ⟨x, rfl, hx, HB.out⟩
end
section
open Go.RowKit
attribute [local go_sem] ByteArray.mk_append_mk bs_get bs_cut bs_end
def NdG (t : Nd) : Prop := t.str.length ≤ 65536 ∧ 0 ≤ t.num ∧ t.num ≤ 18446744073709551615
def NV (w : World) (B N : Nat) (v : Value) : Prop := ∃ ns : List Nd, NodesI w B v ns ∧ (∀ t ∈ ns, NdG t) ∧ ns.length ≤ N ∧ ns ≠ []
theorem NV.below {w w' : World} {B N : Nat} {v : Value} (h : NV w B N v) (hb : Below w.heap.size w w') : NV w' B N v := by
 obtain ⟨ns, h1, h2, h3⟩ := h
 exact ⟨ns, h1.below hb, h2, h3⟩
theorem NV.base {w : World} {B B' N : Nat} {v : Value} (h : NV w B N v) (hB : B' ≤ B) : NV w B' N v := by
 obtain ⟨ns, h1, h2, h3⟩ := h
 exact ⟨ns, own_base h1 hB, h2, h3⟩
theorem NV.more {w : World} {B N M : Nat} {v : Value} (h : NV w B N v) (hN : N ≤ M) : NV w B M v := by
 obtain ⟨ns, h1, h2, h3⟩ := h
 exact ⟨ns, h1, h2, by have := h3.1; omega, h3.2⟩
theorem own_ch {w : World} {B : Nat} {v : Value} {l : List Nd} (h : NodesI w B v l) {C : Nat} {tv : Value} {i : Int} (hb : w.heap[C]? = some (chObj tv i)) : v.ownBlock ≠ some C := by
 intro e
 obtain ⟨cur, hc⟩ := own_type h e
 rw [hb] at hc
 injection hc with hc
 injection hc with _ h2 _
 exact absurd h2 (by decide)
theorem NV.keep {w w' : World} {B N C : Nat} {v : Value} (h : NV w B N v) (hC : CSt w C) (hk : Keep C w w') : NV w' B N v := by
 obtain ⟨ns, h1, h2, h3⟩ := h
 obtain ⟨a, cap, i, l, hc, _⟩ := hC
 exact ⟨ns, own_grown h1 hk (fun g hg e => own_ch h1 hc (by rw [hg, e])), h2, h3⟩
def KSl (w : World) (kv : Value) (vs : List Value) : Prop :=
 ∃ (a : Option Addr) (cap : Nat), kv = .slice a vs.length cap ∧ (vs ≠ [] → ∃ b off, a = some ⟨b, off, none⟩ ∧ ∀ i (h : i < vs.length), w.cell? ⟨b, off + i, none⟩ = some vs[i])
theorem KSl.below {w w' : World} {kv : Value} {vs : List Value} (h : KSl w kv vs) (hb : Below w.heap.size w w') : KSl w' kv vs := by
 obtain ⟨a, cap, hv, hc⟩ := h
 refine ⟨a, cap, hv, fun hn => ?_⟩
 obtain ⟨b, off, ha, hk⟩ := hc hn
 exact ⟨b, off, ha, fun i hi => (hb.cell (p := ⟨b, off + i, none⟩) (World.block_lt_of_cell? w _ (hk i hi))).trans (hk i hi)⟩
theorem tcI_one : ∀ (l : List Nd) (u : Value), u ∈ tcI l → u.oneCell' = true
 | [], u, h => by cases h
 | t :: r, u, h => by
   simp only [tcI, List.mem_cons] at h
   rcases h with rfl | rfl | rfl | rfl | h
   ·rfl
   ·rfl
   ·rfl
   ·rfl
   ·exact tcI_one r u h
theorem wpList_append_nodes {w : World} {ops : Array Oper} {rest : List Oper} {o : Oper} {a : Act} {Q : Exit → Act → World → Prop} (hgd : o.guard = none) (s x : Operand)
 (ho : o.op = .call { callee := .builtin .append, args := #[s, x], argTypes := #[33, 33] })
 (B : Nat) (v : Value) (l1 : List Nd) (hs : a.eval s = v) (hown : NodesI w B v l1)
 (B2 : Nat) (y : Value) (l2 : List Nd) (hx : a.eval x = y) (hy : NodesI w B2 y l2) (hlen : l1.length + l2.length ≤ 1000000) (hB : B ≤ w.heap.size)
 (h : ∀ v' w', NodesI w' B v' (l1 ++ l2) → w.grownBy w' v.ownBlock → wpList Tryz.prog ops Q rest (a.put o.dst v') w') : wpList Tryz.prog ops Q (o :: rest) a w := by
 obtain ⟨i0, hi, hz0, hz1, hz2⟩ := info_parts infoNode
 rcases hy.2 with ⟨rfl, h0⟩ | ⟨g, cap, cur, rfl, hg, hb, hn, hm, hsz, ht⟩
 ·have hn : l2 = [] := List.eq_nil_of_length_eq_zero h0
  subst hn
  refine wpList_append_own_none hgd s x _ ho B 42 i0 4 Tryz.underlying33 hi v l1.length _ hs hown hx ?_
  exact h v w (by simpa using hown) (World.grownBy.refl _ _)
 ·refine wpList_append_own _ hgd s x _ ho B 42 i0 _ 4 40 Tryz.underlying33 hi hz0 hz1 hz2 rfl (by decide) v l1.length _ hs hown ⟨g, 0, none⟩ l2.length cap (tcI l2) hx (by rw [tcI_len]) ?_ ?_ (by unfold maxLen; omega) (by omega) hB ?_
  ·intro j z hj
   have e : (⟨g, 0, none⟩ : Addr).add j = ⟨g, j, none⟩ := by by_cases h : j = 0 <;> simp [Addr.add, h]
   have hjl : j < l2.length * 4 := by
    rcases Nat.lt_or_ge j (l2.length * 4) with h | h
    ·exact h
    ·rw [List.getElem?_eq_none (by rw [tcI_len]; omega)] at hj; cases hj
   rw [e, World.ownsRow.cellAt hy j hjl]
   exact hj
  ·intro z hz
   exact tcI_one l2 z hz
  ·intro v' w' h1 h2 _
   refine h v' w' ?_ h2
   unfold NodesI
   rw [List.length_append, tcI_app]
   exact h1
theorem sum_take : ∀ (l : List Nat) (k : Nat) (h : k < l.length), (l.take (k + 1)).sum = (l.take k).sum + l[k]
 | a :: r, 0, h => by simp
 | a :: r, k + 1, h => by
   have := sum_take r k (by simpa using h)
   simp only [List.take_succ_cons, List.sum_cons, List.getElem_cons_succ] at this ⊢
   omega
theorem sum_take_le : ∀ (l : List Nat) (k : Nat), (l.take k).sum ≤ l.sum
 | [], k => by simp
 | a :: r, 0 => by simp
 | a :: r, k + 1 => by
   have := sum_take_le r k
   simp only [List.take_succ_cons, List.sum_cons]
   omega
set_option maxRecDepth 100000 in
set_option maxHeartbeats 2000000 in
theorem gnode_any (op num : Int) (s : List UInt8) (kv : Value) (vs : List Value) (Ns : List Nat) (w : World) (hs : s.length ≤ 65536) (hn0 : 0 ≤ num ∧ num ≤ 18446744073709551615) (hk : KSl w kv vs) (hNl : Ns.length = vs.length) (hv : ∀ i (h : i < vs.length) (h2 : i < Ns.length), NV w 0 Ns[i] vs[i]) (hm : vs.length ≤ 10000) (h1 : 1 + Ns.sum ≤ 900000) :
 Calls Tryz.prog 112 #[.int .i64 op, .int .u64 num, .string ⟨s.toArray⟩, kv] w fun e w' => ∃ v, e = .returned v ∧ NV w' w.heap.size (1 + Ns.sum) v ∧ Below w.heap.size w w' := by
 have HKS := Lib.hid hk
 have HVS := Lib.hid hv
 obtain ⟨a, cap, rfl, hc⟩ := hk
 have HC := Lib.hid hc
 obtain ⟨P, hP⟩ : ∃ P, w.heap.size = P := ⟨_, rfl⟩
 have HPE := Lib.hid hP
 have HR0 : Hid (NodesI (w.alloc (nObj op num s vs.length)) P (.slice (some ⟨P, 0, none⟩) 1 1) [⟨op, num, s, vs.length⟩]) := Lib.hid (by rw [← hP]; exact World.ownsRow_lit w (tcI [⟨op, num, s, vs.length⟩]).toArray 1 (Nat.le_refl _) (by unfold maxLen; omega) rfl)
 have HB0 : Hid (Below P w (w.alloc (nObj op num s vs.length))) := Lib.hid ((Below.refl _ _).alloc (by omega) _)
 obtain ⟨M, hM⟩ : ∃ M, vs.length = M := ⟨_, rfl⟩
 have HM := Lib.hid hM
 have HNL := Lib.hid hNl
 rw [hM] at hm HR0 HB0 HKS
 rw [hP, hM]
 clear hv hc hNl
 go_enter Tryz.func112, Tryz.ntmps112
 go_upto_region 2 with fail
 (try simp only [hP])
 generalize w.alloc (nObj op num s M) = W0 at HR0 HB0 ⊢
 clear hP hM
 go_wp2_with fail
 go_loopw [9, 10] (fun x i wr => ∃ (v : Value) (k : Nat) (ns : List Nd), v = x ∧ i = .int .i64 k ∧ k ≤ M ∧ ns.length ≤ 1 + (Ns.take k).sum ∧ ns ≠ [] ∧ Hid (NodesI wr P v ns) ∧ Hid (∀ t ∈ ns, NdG t) ∧ Hid (Below P w wr)) (fun _ i _ => M - (intOf i).toNat)
 case atStart => exact ⟨_, 0, _, rfl, rfl, by omega, by simp, by simp, HR0, Lib.hid (by intro t ht; simp only [List.mem_cons, List.not_mem_nil, or_false] at ht; subst ht; exact ⟨hs, hn0⟩), HB0⟩
 case round =>
  clear HR0 HB0
  obtain ⟨v, k, ns, rfl, rfl, hkM, hnl, hne, HR, HG, HB⟩ := hrel
  obtain ⟨w3, rfl⟩ : ∃ y : World, y = wr := ⟨_, rfl⟩
  have hsz : P ≤ w3.heap.size := by have := HB.out.size; have := HPE.out; omega
  by_cases hlt : k < M
  ·have hlt' : (k : Int) < (M : Int) := by omega
   have hkl : k < vs.length := by rw [HM.out]; exact hlt
   obtain ⟨b, off, rfl, hcell⟩ := HC.out (by rintro rfl; simp at hkl)
   have c0 := hcell k hkl
   obtain ⟨y, hy⟩ : ∃ y, vs[k] = y := ⟨_, rfl⟩
   rw [hy] at c0
   have hbw : b < w.heap.size := World.block_lt_of_cell? w _ c0
   have d0 : w3.cell? ⟨b, off + k, none⟩ = some y := (HB.out.cell (p := ⟨b, off + k, none⟩) (by rw [← HPE.out]; exact hbw)).trans c0
   have hkN : k < Ns.length := by rw [HNL.out]; exact hkl
   have hvk := HVS.out k hkl hkN
   rw [hy] at hvk
   obtain ⟨l2, j1, j2, j3, _⟩ := hvk
   have HY : Hid (NodesI w3 0 y l2) := Lib.hid (j1.below (HB.out.mono (by rw [HPE.out]; exact Nat.le_refl _)))
   have HG2 := Lib.hid j2
   have hkk := sum_take Ns k hkN
   have hkb := sum_take_le Ns k
   have hkb2 := sum_take_le Ns (k + 1)
   obtain ⟨sk, hsk⟩ : ∃ z, (Ns.take k).sum = z := ⟨_, rfl⟩
   obtain ⟨sk1, hsk1⟩ : ∃ z, (Ns.take (k + 1)).sum = z := ⟨_, rfl⟩
   obtain ⟨nk, hnk⟩ : ∃ z, Ns[k] = z := ⟨_, rfl⟩
   rw [hsk] at hnl hkk hkb
   rw [hsk1, hnk] at hkk
   rw [hnk] at j3
   clear hcell c0 hy j1 j2
   go_wp2_with (at_builtin; refine wpList_append_nodes rfl _ _ rfl P v ns rfl HR.out 0 y l2 rfl HY.out (by omega) hsz ?_; intro v2 w2 ho hg; have HO := Lib.hid ho; have HGR := Lib.hid hg; clear ho hg)
   have HB5 : Hid (Below P w w2) := Lib.hid (HB.out.grown HGR.out hsz (fun j hj => own_row HR.out hj))
   have HG5 : Hid (∀ t ∈ ns ++ l2, NdG t) := Lib.hid (fun t ht => by
    rcases List.mem_append.1 ht with h | h
    ·exact HG.out t h
    ·exact HG2.out t h)
   have hln : (ns ++ l2).length ≤ 1 + (Ns.take (k + 1)).sum := by rw [List.length_append, hsk1]; omega
   clear HGR d0 HY HR
   go_wp2_with fail
   go_roundw
   case rel => first | exact ⟨k + 1, ns ++ l2, by go_num, by omega, hln, (fun e => hne (List.append_eq_nil_iff.1 e).1), HO, HG5, HB5⟩ | exact ⟨_, k + 1, ns ++ l2, rfl, by go_num, by omega, hln, (fun e => hne (List.append_eq_nil_iff.1 e).1), HO, HG5, HB5⟩
   case measure => simp [intOf]; omega
  ·have hlt' : ¬ (k : Int) < (M : Int) := by omega
   have hkM2 : k = M := by omega
   go_wp2_with fail
   go_ret
   exact ⟨_, rfl, ⟨ns, HR.out, HG.out, by rw [List.take_of_length_le (by rw [HNL.out, HM.out]; omega)] at hnl; exact hnl, hne⟩, HB.out⟩
theorem kNode_any (op : Int) (kv : Value) (vs : List Value) (Ns : List Nat) (w : World) (hk : KSl w kv vs) (hNl : Ns.length = vs.length) (hv : ∀ i (h : i < vs.length) (h2 : i < Ns.length), NV w 0 Ns[i] vs[i]) (hm : vs.length ≤ 10000) (h1 : 1 + Ns.sum ≤ 900000) :
 Calls Tryz.prog 65 #[.int .i64 op, kv] w fun e w' => ∃ v, e = .returned v ∧ NV w' w.heap.size (1 + Ns.sum) v ∧ Below w.heap.size w w' := by
 have HN := Lib.hid (gnode_any op 0 [] kv vs Ns w (by simp) (by omega) hk hNl hv hm h1)
 generalize 1 + Ns.sum = NN at HN ⊢
 clear hk hv hm h1 hNl
 go_enter Tryz.func65, Tryz.ntmps65
 go_wp2_with fail
 ((with_reducible refine HN.out.mono ?_))
 rintro e w1 ⟨v, rfl, hv, hb⟩
 have HV := Lib.hid hv
 have HB := Lib.hid hb
 clear hv hb
 go_wp2_with fail
 go_ret
 exact ⟨_, rfl, HV.out, HB.out⟩
theorem KSl.nil (w : World) : KSl w (.slice none 0 0) [] := ⟨none, 0, rfl, fun h => absurd rfl h⟩
theorem gInt_any (n : Int) (w : World) (hn : 0 ≤ n ∧ n ≤ 18446744073709551615) :
 Calls Tryz.prog 68 #[.int .u64 n] w fun e w' => ∃ v, e = .returned v ∧ NV w' w.heap.size 1 v ∧ Below w.heap.size w w' := by
 have HN := Lib.hid (gnode_any 1 n [] _ [] [] w (by simp) hn (KSl.nil w) rfl (fun i h => by cases h) (by simp) (by simp))
 simp only [List.sum_nil, Nat.add_zero] at HN
 go_enter Tryz.func68, Tryz.ntmps68
 go_wp2_with fail
 ((with_reducible refine HN.out.mono ?_))
 rintro e w1 ⟨v, rfl, hv, hb⟩
 have HV := Lib.hid hv
 have HB := Lib.hid hb
 clear hv hb
 go_wp2_with fail
 go_ret
 exact ⟨_, rfl, HV.out, HB.out⟩
theorem nameOf_any (s : List UInt8) (w : World) (hs : s.length ≤ 65536) :
 Calls Tryz.prog 66 #[.string ⟨s.toArray⟩] w fun e w' => ∃ v, e = .returned v ∧ NV w' w.heap.size 1 v ∧ Below w.heap.size w w' := by
 have HN := Lib.hid (gnode_any 3 0 s _ [] [] w hs (by omega) (KSl.nil w) rfl (fun i h => by cases h) (by simp) (by simp))
 simp only [List.sum_nil, Nat.add_zero] at HN
 clear hs
 go_enter Tryz.func66, Tryz.ntmps66
 go_wp2_with fail
 ((with_reducible refine HN.out.mono ?_))
 rintro e w1 ⟨v, rfl, hv, hb⟩
 have HV := Lib.hid hv
 have HB := Lib.hid hb
 clear hv hb
 go_wp2_with fail
 go_ret
 exact ⟨_, rfl, HV.out, HB.out⟩
end
section
open Go.RowKit
attribute [local go_sem] ByteArray.mk_append_mk bs_get bs_cut bs_end
theorem seg_keep (C : Nat) (n : Int) (w : World) (h : CSt w C) :
 Calls Tryz.prog 64 #[.int .i64 n] w fun e w' => ∃ s : List UInt8, e = .returned (.string ⟨s.toArray⟩) ∧ s.length ≤ 4 ∧ CSt w' C ∧ Keep C w w' :=
 (seg_any n w).mono fun e w' ⟨s, h1, h2, h3⟩ => ⟨s, h1, h2, h.keep h3, Keep.of h3⟩
theorem gname_any (C : Nat) (w : World) (h : CSt w C) :
 Calls Tryz.prog 114 #[.pointer (some ⟨C, 0, none⟩)] w fun e w' => ∃ s : List UInt8, e = .returned (.string ⟨s.toArray⟩) ∧ s.length ≤ 5 ∧ CSt w' C ∧ Keep C w w' := by
 have HN := Lib.hid (next_any C 6 w h (by omega) (by omega))
 clear h
 go_enter Tryz.func114, Tryz.ntmps114
 go_wp2_with fail
 ((with_reducible refine HN.out.mono ?_))
 rintro e w1 ⟨k, rfl, hk, hc1, hk1⟩
 have HN2 := Lib.hid (next_any C 10 w1 hc1 (by omega) (by omega))
 have HK1 := Lib.hid hk1
 have hcs : (((k : Int) == 4) = true) ∨ (((k : Int) == 4) = false ∧ ((k : Int) == 5) = true) ∨ (((k : Int) == 4) = false ∧ ((k : Int) == 5) = false) := by
  cases (k : Int) == 4 <;> cases (k : Int) == 5 <;> simp
 clear hc1 hk1 HN hk
 rcases hcs with t1 | ⟨t1, t2⟩ | ⟨t1, t2⟩
 all_goals
  go_wp2_with fail
  ((with_reducible refine HN2.out.mono ?_))
  rintro e w2 ⟨k2, rfl, hk2, hc2, hkk2⟩
  have HS := Lib.hid (seg_keep C k2 w2 hc2)
  have HK2 := Lib.hid (HK1.out.trans hkk2)
  clear hc2 hkk2 hk2
  go_wp2_with fail
  ((with_reducible refine HS.out.mono ?_))
  rintro e w3 ⟨s, rfl, hs, hc3, hk3⟩
  have HC3 := Lib.hid hc3
  have HK3 := Lib.hid (HK2.out.trans hk3)
  clear hc3 hk3
  go_wp2_with fail
  go_ret
  exact ⟨_, rfl, by first | omega | (simp only [List.length_append, List.length_cons, List.length_nil]; omega), HC3.out, HK3.out⟩
theorem gnumber_any (C : Nat) (w : World) (h : CSt w C) :
 Calls Tryz.prog 115 #[.pointer (some ⟨C, 0, none⟩)] w fun e w' => ∃ n : Int, e = .returned (.int .u64 n) ∧ (0 ≤ n ∧ n ≤ 18446744073709551615) ∧ CSt w' C ∧ Keep C w w' := by
 have HN := Lib.hid (next_any C 8 w h (by omega) (by omega))
 clear h
 go_enter Tryz.func115, Tryz.ntmps115
 go_wp2_with fail
 ((with_reducible refine HN.out.mono ?_))
 rintro e w1 ⟨k, rfl, hk, hc1, hk1⟩
 have HC1 := Lib.hid hc1
 have HN2 := Lib.hid (next_any C 9 w1 hc1 (by omega) (by omega))
 have HN3 := Lib.hid (next_any C 1073741824 w1 hc1 (by omega) (by omega))
 have HK1 := Lib.hid hk1
 have hcs : (((k : Int) == 6) = true) ∨ (((k : Int) == 6) = false ∧ ((k : Int) == 7) = true) ∨ (((k : Int) == 6) = false ∧ ((k : Int) == 7) = false) := by
  cases (k : Int) == 6 <;> cases (k : Int) == 7 <;> simp
 clear hc1 hk1 HN hk
 rcases hcs with t1 | ⟨t1, t2⟩ | ⟨t1, t2⟩
 ·go_wp2_with fail
  go_ret
  exact ⟨_, rfl, by omega, HC1.out, HK1.out⟩
 ·go_wp2_with fail
  ((with_reducible refine HN3.out.mono ?_))
  rintro e w2 ⟨k2, rfl, hk2, hc2, hkk2⟩
  have HC2 := Lib.hid hc2
  have HK2 := Lib.hid (HK1.out.trans hkk2)
  clear hc2 hkk2
  go_wp2_with fail
  go_ret
  exact ⟨_, rfl, by omega, HC2.out, HK2.out⟩
 ·go_wp2_with fail
  ((with_reducible refine HN2.out.mono ?_))
  rintro e w2 ⟨k2, rfl, hk2, hc2, hkk2⟩
  have HC2 := Lib.hid hc2
  have HK2 := Lib.hid (HK1.out.trans hkk2)
  clear hc2 hkk2
  go_wp2_with fail
  go_ret
  exact ⟨_, rfl, by omega, HC2.out, HK2.out⟩
def KRow (w : World) (B : Nat) (v : Value) (vs : List Value) : Prop := w.ownsRow B 33 1 v vs.length vs
theorem infoKids : (Tryz.prog.info? 33).map (fun i => (i.zero, i.size, i.bytes)) = some (some (.slice none 0 0), 1, 24) := by kernel_rfl
theorem KRow.form {w : World} {B : Nat} {v : Value} {vs : List Value} (h : KRow w B v vs) : ∃ a c, v = .slice a vs.length c := by
 rcases h.2 with ⟨rfl, h0⟩ | ⟨g, cap, cur, rfl, _⟩
 ·exact ⟨none, 0, by rw [h0]⟩
 ·exact ⟨_, cap, rfl⟩
theorem KRow.sl {w : World} {B : Nat} {v : Value} {vs : List Value} (h : KRow w B v vs) : KSl w v vs := by
 rcases h.2 with ⟨rfl, h0⟩ | ⟨g, cap, cur, rfl, _⟩
 ·exact ⟨none, 0, by rw [h0], fun hn => absurd (List.eq_nil_of_length_eq_zero h0) hn⟩
 ·exact ⟨_, cap, rfl, fun _ => ⟨g, 0, rfl, fun i hi => by rw [World.ownsRow.cellAt h (0 + i) (by omega), Nat.zero_add, List.getElem?_eq_getElem hi]⟩⟩
theorem KRow.below {w w' : World} {B : Nat} {v : Value} {vs : List Value} (h : KRow w B v vs) (hb : Below w.heap.size w w') : KRow w' B v vs := own_below h hb
theorem KRow.keep {w w' : World} {B C : Nat} {v : Value} {vs : List Value} (h : KRow w B v vs) (hC : CSt w C) (hk : Keep C w w') : KRow w' B v vs := by
 obtain ⟨a, cap, i, l, hc, _⟩ := hC
 refine own_grown h hk (fun g hg e => ?_)
 injection e with e
 obtain ⟨cur, hcur⟩ := own_type h hg
 rw [← e, hc] at hcur
 injection hcur with hcur
 injection hcur with _ h2 _
 exact absurd h2 (by decide)
theorem KRow.nil (w : World) (B : Nat) : KRow w B (.slice none 0 0) [] := ⟨rfl, .inl ⟨rfl, rfl⟩⟩
theorem wpList_append_kid {w : World} {ops : Array Oper} {rest : List Oper} {o : Oper} {a : Act} {Q : Exit → Act → World → Prop} (hgd : o.guard = none) (s x : Operand)
 (ho : o.op = .call { callee := .builtin .append, args := #[s, x], argTypes := #[137, 137] })
 (B : Nat) (v : Value) (vs : List Value) (hs : a.eval s = v) (hown : KRow w B v vs) (g : Nat) (t : Value) (ht : t.oneCell' = true)
 (hx : a.eval x = .slice (some ⟨g, 0, none⟩) 1 1) (hb : w.heap[g]? = some (.cells #[t] 33 (0, 0))) (hlen : vs.length ≤ 100000) (hB : B ≤ w.heap.size)
 (h : ∀ v' w', KRow w' B v' (vs ++ [t]) → w.grownBy w' v.ownBlock → wpList Tryz.prog ops Q rest (a.put o.dst v') w') : wpList Tryz.prog ops Q (o :: rest) a w := by
 obtain ⟨i0, hi, hz0, hz1, hz2⟩ := info_parts infoKids
 refine wpList_append_own _ hgd s x _ ho B 33 i0 _ 1 24 Tryz.underlying137 hi hz0 hz1 hz2 rfl (by decide) v vs.length _ hs hown ⟨g, 0, none⟩ 1 1 [t] hx rfl ?_ ?_ (by unfold maxLen; omega) (by omega) hB ?_
 ·intro j z hj
  match j, hj with
  | 0, hj => cases hj; exact cell_of_row w g 0 _ _ (0, 0) hb
 ·intro z hz
  simp only [List.mem_cons, List.not_mem_nil, or_false] at hz
  rw [hz]; exact ht
 ·intro v' w' h1 h2 _
  refine h v' w' ?_ h2
  unfold KRow
  rw [List.length_append]
  exact h1
def GPost (C N : Nat) (w : World) (e : Ending) (w' : World) : Prop := ∃ v, e = .returned v ∧ NV w' w.heap.size N v ∧ CSt w' C ∧ Keep C w w'
theorem GPost.more {C N M : Nat} {w w' : World} {e : Ending} (h : GPost C N w e w') (hN : N ≤ M) : GPost C M w e w' := by
 obtain ⟨v, h1, h2, h3, h4⟩ := h
 exact ⟨v, h1, h2.more hN, h3, h4⟩
theorem NV.one {w : World} {B N : Nat} {v : Value} (h : NV w B N v) : v.oneCell' = true := by
 obtain ⟨ns, h1, _⟩ := h
 obtain ⟨a, c, rfl⟩ := h1.form
 rfl
def NVs (w : World) (N : Nat) (vs : List Value) : Prop := ∀ v ∈ vs, NV w 0 N v
theorem NVs.keep {w w' : World} {N C : Nat} {vs : List Value} (h : NVs w N vs) (hC : CSt w C) (hk : Keep C w w') : NVs w' N vs := fun v hv => (h v hv).keep hC hk
theorem NVs.below {w w' : World} {N : Nat} {vs : List Value} (h : NVs w N vs) (hb : Below w.heap.size w w') : NVs w' N vs := fun v hv => (h v hv).below hb
theorem NVs.nil (w : World) (N : Nat) : NVs w N [] := fun v hv => by cases hv
theorem NVs.snoc {w : World} {N : Nat} {vs : List Value} {v : Value} (h : NVs w N vs) (hv : NV w 0 N v) : NVs w N (vs ++ [v]) := fun x hx => by
 rcases List.mem_append.1 hx with hx | hx
 ·exact h x hx
 ·simp only [List.mem_cons, List.not_mem_nil, or_false] at hx; subst hx; exact hv
theorem NV.grownRow {w w' : World} {B B2 N : Nat} {v kv : Value} {vs : List Value} (h : NV w B N v) (hk : KRow w B2 kv vs) (hg : w.grownBy w' kv.ownBlock) : NV w' B N v := by
 obtain ⟨ns, h1, h2, h3⟩ := h
 refine ⟨ns, own_grown h1 hg (fun g hv e => ?_), h2, h3⟩
 obtain ⟨cur, hc⟩ := own_type h1 hv
 obtain ⟨cur2, hc2⟩ := own_type hk e
 rw [hc] at hc2
 injection hc2 with hc2
 injection hc2 with _ h2 _
 exact absurd h2 (by decide)
theorem NVs.grownRow {w w' : World} {B2 N : Nat} {us vs : List Value} {kv : Value} (h : NVs w N us) (hk : KRow w B2 kv vs) (hg : w.grownBy w' kv.ownBlock) : NVs w' N us := fun v hv => (h v hv).grownRow hk hg
theorem NVs.each {w : World} {N : Nat} {vs : List Value} (h : NVs w N vs) : ∀ i (hi : i < vs.length) (h2 : i < (List.replicate vs.length N).length), NV w 0 (List.replicate vs.length N)[i] vs[i] := fun i hi h2 => by
 rw [List.getElem_replicate]; exact h _ (List.getElem_mem hi)
end
section
open Go.RowKit
attribute [local go_sem] ByteArray.mk_append_mk bs_get bs_cut bs_end
theorem NV.form {w : World} {B N : Nat} {v : Value} (h : NV w B N v) : ∃ a n c, v = .slice a n c := by
 obtain ⟨ns, h1, _⟩ := h
 obtain ⟨a, c, rfl⟩ := h1.form
 exact ⟨a, _, c, rfl⟩
theorem KSl.lit (w : World) (vs : List Value) (n : Nat) (hn : n = vs.length) : KSl (w.alloc (.cells vs.toArray 33)) (.slice (some ⟨w.heap.size, 0, none⟩) n n) vs := by
 subst hn
 refine ⟨_, _, rfl, fun _ => ⟨_, 0, rfl, fun i hi => ?_⟩⟩
 rw [cell_of_row _ _ _ _ _ (0, 0) (heap_alloc_new w (.cells vs.toArray 33)), Nat.zero_add]
 simp [hi]
abbrev dsO : Obj := .cells #[.string ⟨#[]⟩, .string ⟨#[120]⟩, .string ⟨#[48, 70]⟩, .string ⟨#[49, 50, 97, 98]⟩, .string ⟨#[0, 255, 34, 92]⟩] 9
def dsL : List (List UInt8) := [[], [120], [48, 70], [49, 50, 97, 98], [0, 255, 34, 92]]
theorem ds_at : ∀ k : Fin 5, ∃ x ∈ dsL, dsL[k.val]? = some x ∧ x.length ≤ 4 := by decide +kernel
theorem ds_cell {w : World} {A : Nat} (h : w.heap[A]? = some dsO) (k : Nat) (hk : k < 5) : ∃ x : List UInt8, x.length ≤ 4 ∧ w.cell? ⟨A, k, none⟩ = some (.string ⟨x.toArray⟩) := by
 obtain ⟨x, _, h1, h2⟩ := ds_at ⟨k, hk⟩
 refine ⟨x, h2, ?_⟩
 rw [cell_of_row w A k _ _ (0, 0) h]
 have e : (dsL.map strV).toArray[k]? = some (strV x) := by
  have h1' : dsL[k]? = some x := h1
  rw [List.getElem?_toArray, List.getElem?_map, h1']
  rfl
 exact e
theorem sum_rep (m K : Nat) : (List.replicate m K).sum = m * K := by
 induction m with
 | zero => simp
 | succ m ih => rw [List.replicate_succ, List.sum_cons, ih, Nat.add_mul]; omega
def dataN : Nat → Nat
 | 0 => 6
 | d + 1 => 3 + 3 * dataN d
theorem dataN_le (d : Nat) (h : d ≤ 5) : dataN d ≤ 3000 := by
 match d, h with
 | 0, _ => exact (by decide)
 | 1, _ => exact (by decide)
 | 2, _ => exact (by decide)
 | 3, _ => exact (by decide)
 | 4, _ => exact (by decide)
 | 5, _ => exact (by decide)
theorem dataN_pos : ∀ d, 6 ≤ dataN d
 | 0 => Nat.le_refl _
 | d + 1 => by have := dataN_pos d; unfold dataN; omega
def DataOk (C d : Nat) : Prop := ∀ w, CSt w C → Calls Tryz.prog 72 #[.pointer (some ⟨C, 0, none⟩), .int .i64 d] w (GPost C (dataN d) w)
set_option maxRecDepth 100000 in
set_option maxHeartbeats 8000000 in
theorem data_step (C d : Nat) (hd : d ≤ 5) (ih : ∀ d', d = d' + 1 → DataOk C d') : DataOk C d := by
 intro w hc
 have IH := Lib.hid ih
 have HN := Lib.hid (next_any C 5 w hc (by omega) (by omega))
 have HPOS := Lib.hid (dataN_pos d)
 have HCW := Lib.hid hc
 clear hc ih
 go_enter Tryz.func72, Tryz.ntmps72
 go_wp2_with fail
 ((with_reducible refine HN.out.mono ?_))
 rintro e w1 ⟨k, rfl, hk, hc1, hk1⟩
 have HC1 := Lib.hid hc1
 have HK1 := Lib.hid hk1
 clear hc1 hk1 HN
 by_cases c1 : k = 1
 ·subst c1
  have hA : (w1.alloc dsO).heap[w1.heap.size]? = some dsO := heap_alloc_new _ _
  have hB : Below w1.heap.size w1 (w1.alloc dsO) := (Below.refl _ _).alloc (Nat.le_refl _) _
  have HC2 := Lib.hid (HC1.out.keep hB)
  have HK2 : Hid (Keep C w (w1.alloc dsO)) := Lib.hid (HK1.out.trans (Keep.of hB))
  have hCA : C < w1.heap.size := HC1.out.lt
  have HA := Lib.hid hA
  have HNX := Lib.hid (next_any C 5 (w1.alloc dsO) HC2.out (by omega) (by omega))
  clear hA hB
  go_wp2_with fail
  ((with_reducible refine HNX.out.mono ?_))
  rintro e w2 ⟨k2, rfl, hk2, hc3, hk3⟩
  have hA2 : w2.heap[w1.heap.size]? = some dsO := (hk3.block _ (lt_of_block HA.out) (fun e => by injection e with e; omega)).trans HA.out
  obtain ⟨x, hx, e0⟩ := ds_cell hA2 k2 (by omega)
  have hk25 : (k2 : Int) < 5 := hk2
  have HK3 := Lib.hid (HK2.out.trans hk3)
  have HC3 := Lib.hid hc3
  have HG := Lib.hid (gnode_any 2 0 x _ [] [] w2 (by omega) (by omega) (KSl.nil w2) rfl (fun i h => by cases h) (by simp) (by simp))
  simp only [List.sum_nil, Nat.add_zero] at HG
  clear hc3 hk3 HNX HC2 HK2 hA2 HA
  go_wp2_with fail
  ((with_reducible refine HG.out.mono ?_))
  rintro e w3 ⟨v, rfl, hv, hb⟩
  have HV := Lib.hid ((hv.base (B' := w.heap.size) HK3.out.size).more (M := dataN d) (by have := HPOS.out; omega))
  have HC4 := Lib.hid (HC3.out.keep hb)
  have HK4 := Lib.hid (HK3.out.trans (Keep.of hb))
  clear hv hb
  go_wp2_with fail
  go_ret
  exact ⟨_, rfl, HV.out, HC4.out, HK4.out⟩
 have t1 : ((k : Int) == 1) = false := by rw [beq_eq_false_iff_ne]; omega
 by_cases c2 : k = 2
 ·subst c2
  have HNX := Lib.hid (next_any C 4 w1 HC1.out (by omega) (by omega))
  go_wp2_with fail
  ((with_reducible refine HNX.out.mono ?_))
  rintro e w2 ⟨k2, rfl, hk2, hc3, hk3⟩
  have HK3 := Lib.hid (HK1.out.trans hk3)
  have HC3 := Lib.hid hc3
  clear hc3 hk3 HNX
  go_wp2_with fail
  go_loopw [5, 6] (fun x i wr => ∃ (v : Value) (vs : List Value) (q : Nat), v = x ∧ i = .int .i64 q ∧ q + vs.length ≤ 3 ∧ Hid (KRow wr w.heap.size v vs) ∧ Hid (NVs wr 1 vs) ∧ Hid (CSt wr C) ∧ Hid (Keep C w wr)) (fun _ i _ => (intOf i).toNat)
  case atStart => exact ⟨_, [], k2, rfl, rfl, by simp; omega, Lib.hid (KRow.nil _ _), Lib.hid (NVs.nil _ _), HC3, HK3⟩
  case round =>
   clear HC3 HK3
   obtain ⟨v, vs, q, rfl, rfl, hq, HR, HV, HC, HK⟩ := hrel
   obtain ⟨w3, rfl⟩ : ∃ y : World, y = wr := ⟨_, rfl⟩
   by_cases hq0 : 0 < q
   ·have hq1 : (0 : Int) < (q : Int) := by omega
    have HNY := Lib.hid (next_any C 256 w3 HC.out (by omega) (by omega))
    go_wp2_with fail
    ((with_reducible refine HNY.out.mono ?_))
    rintro e w4 ⟨k4, rfl, hk4, hc4, hkk4⟩
    have HR4 := Lib.hid (HR.out.keep HC.out hkk4)
    have HV4 := Lib.hid (HV.out.keep HC.out hkk4)
    have HK4 := Lib.hid (HK.out.trans hkk4)
    have HC4 := Lib.hid hc4
    have HIN := Lib.hid (gInt_any k4 w4 (by omega))
    have hk4' : (k4 : Int) < 256 := hk4
    clear hc4 hkk4 HR HV HK HC HNY
    go_wp2_with fail
    ((with_reducible refine HIN.out.mono ?_))
    rintro e w5 ⟨v5, rfl, hv5, hb5⟩
    obtain ⟨a5, n5, c5, rfl⟩ := hv5.form
    have HR5 := Lib.hid (HR4.out.below hb5)
    have HV5 := Lib.hid (HV4.out.below hb5)
    have HC5 := Lib.hid (HC4.out.keep hb5)
    have HK5 := Lib.hid (HK4.out.trans (Keep.of hb5))
    have HT5 := Lib.hid hv5
    clear hv5 hb5 HR4 HV4 HC4 HK4
    have hal : Below w5.heap.size w5 (w5.alloc (.cells #[.slice a5 n5 c5] 33)) := (Below.refl _ _).alloc (Nat.le_refl _) _
    have HR6 := Lib.hid (HR5.out.below hal)
    have HV6 := Lib.hid ((HV5.out.below hal).snoc ((HT5.out.below hal).base (Nat.zero_le _)))
    have HC6 := Lib.hid (HC5.out.keep hal)
    have HK6 := Lib.hid (HK5.out.trans (Keep.of hal))
    have HNN : Hid ((w5.alloc (.cells #[.slice a5 n5 c5] 33)).heap[w5.heap.size]? = some (.cells #[.slice a5 n5 c5] 33 (0, 0))) := Lib.hid (heap_alloc_new _ _)
    have hone := HT5.out.one
    clear HR5 HV5 HC5 HK5 hal
    go_wp2_with (at_builtin; refine wpList_append_kid rfl _ _ rfl w.heap.size v vs rfl HR6.out w5.heap.size (.slice a5 n5 c5) hone rfl HNN.out (by omega) HK6.out.size ?_; intro v7 w7 ho hg; have HO := Lib.hid ho; have HG7 := Lib.hid hg; clear ho hg)
    have HV7 := Lib.hid (HV6.out.grownRow HR6.out HG7.out)
    have HC7 := Lib.hid (HC6.out.grown HG7.out (fun g h => by have := own_row HR6.out h; have := HCW.out.lt; omega))
    have HK7 := Lib.hid (HK6.out.grown HG7.out (fun g h => own_row HR6.out h))
    clear HR6 HV6 HC6 HK6 HNN HG7 hone HT5
    go_wp2_with fail
    go_roundw
    case rel => first | exact ⟨vs ++ [.slice a5 n5 c5], q - 1, by go_num, by rw [List.length_append, List.length_singleton]; omega, HO, HV7, HC7, HK7⟩ | exact ⟨_, vs ++ [.slice a5 n5 c5], q - 1, rfl, by go_num, by rw [List.length_append, List.length_singleton]; omega, HO, HV7, HC7, HK7⟩
    case measure => simp [intOf]; omega
   ·have hq1 : ¬ (0 : Int) < (q : Int) := by omega
    have hqz : q = 0 := by omega
    obtain ⟨a, cp, rfl⟩ := HR.out.form
    have HNY := Lib.hid (next_any C 3 w3 HC.out (by omega) (by omega))
    have HKF := Lib.hid (HR.out)
    go_wp2_with fail
    ((with_reducible refine HNY.out.mono ?_))
    rintro e w4 ⟨k4, rfl, hk4, hc4, hkk4⟩
    have HR4 := Lib.hid (HR.out.keep HC.out hkk4)
    have HV4 := Lib.hid (HV.out.keep HC.out hkk4)
    have HK4 := Lib.hid (HK.out.trans hkk4)
    have HC4 := Lib.hid hc4
    have HIN := Lib.hid (gInt_any ((vs.length : Int) + k4) w4 (by omega))
    have hk4' : (k4 : Int) < 3 := hk4
    clear hc4 hkk4 HR HV HK HC HNY HKF
    go_wp2_with fail
    ((with_reducible refine HIN.out.mono ?_))
    rintro e w5 ⟨v5, rfl, hv5, hb5⟩
    obtain ⟨a5, n5, c5, rfl⟩ := hv5.form
    have HKN := Lib.hid (kNode_any 4 _ vs (List.replicate vs.length 1) w5 (HR4.out.below hb5).sl (by simp) (HV4.out.below hb5).each (by omega) (by rw [sum_rep]; omega))
    rw [sum_rep] at HKN
    have HC5 := Lib.hid (HC4.out.keep hb5)
    have HK5 := Lib.hid (HK4.out.trans (Keep.of hb5))
    have HT5 := Lib.hid hv5
    clear hv5 hb5 HR4 HV4 HC4 HK4 HIN
    go_wp2_with fail
    ((with_reducible refine HKN.out.mono ?_))
    rintro e w6 ⟨v6, rfl, hv6, hb6⟩
    obtain ⟨a6, n6, c6, rfl⟩ := hv6.form
    have HT56 := Lib.hid (HT5.out.below hb6)
    have HC6 := Lib.hid (HC5.out.keep hb6)
    have HK6 := Lib.hid (HK5.out.trans (Keep.of hb6))
    have hal : Below w6.heap.size w6 (w6.alloc (.cells #[.slice a5 n5 c5, .slice a6 n6 c6] 33)) := (Below.refl _ _).alloc (Nat.le_refl _) _
    have HT57 := Lib.hid ((HT56.out.below hal).base (B' := 0) (Nat.zero_le _))
    have HT67 := Lib.hid ((hv6.below hal).base (B' := 0) (Nat.zero_le _))
    have HC7 := Lib.hid (HC6.out.keep hal)
    have HK7 := Lib.hid (HK6.out.trans (Keep.of hal))
    have HKL := Lib.hid (KSl.lit w6 [.slice a5 n5 c5, .slice a6 n6 c6] 2 rfl)
    have HN2 := Lib.hid (kNode_any 50 _ [.slice a5 n5 c5, .slice a6 n6 c6] [1, 1 + vs.length * 1] (w6.alloc (.cells #[.slice a5 n5 c5, .slice a6 n6 c6] 33)) HKL.out rfl (fun i h1 h2 => by
     match i, h1 with
     | 0, _ => exact HT57.out
     | 1, _ => exact HT67.out) (by simp) (by simp only [List.sum_cons, List.sum_nil]; omega))
    clear hv6 hb6 HC5 HK5 HT5 HT56 HC6 HK6 hal HKL HKN
    go_wp2_with fail
    ((with_reducible refine HN2.out.mono ?_))
    rintro e w8 ⟨v8, rfl, hv8, hb8⟩
    have HV8 := Lib.hid ((hv8.base (B' := w.heap.size) HK7.out.size).more (M := dataN d) (by simp only [List.sum_cons, List.sum_nil]; have := HPOS.out; omega))
    have HC8 := Lib.hid (HC7.out.keep hb8)
    have HK8 := Lib.hid (HK7.out.trans (Keep.of hb8))
    clear hv8 hb8
    go_wp2_with fail
    go_ret
    exact ⟨_, rfl, HV8.out, HC8.out, HK8.out⟩
 have t2 : ((k : Int) == 2) = false := by rw [beq_eq_false_iff_ne]; omega
 have HNU := Lib.hid (gnumber_any C w1 HC1.out)
 by_cases c3 : k = 3
 ·subst c3
  cases d with
  | zero =>
    go_wp2_with fail
    ((with_reducible refine HNU.out.mono ?_))
    rintro e w2 ⟨nu, rfl, hnu, hc2, hk2⟩
    have HC2 := Lib.hid hc2
    have HK2 := Lib.hid (HK1.out.trans hk2)
    have HIN := Lib.hid (gInt_any nu w2 hnu)
    clear hc2 hk2 HNU
    go_wp2_with fail
    ((with_reducible refine HIN.out.mono ?_))
    rintro e w3 ⟨v3, rfl, hv3, hb3⟩
    have HV3 := Lib.hid ((hv3.base (B' := w.heap.size) HK2.out.size).more (M := dataN 0) (by have := HPOS.out; omega))
    have HC3 := Lib.hid (HC2.out.keep hb3)
    have HK3 := Lib.hid (HK2.out.trans (Keep.of hb3))
    clear hv3 hb3
    go_wp2_with fail
    go_ret
    exact ⟨_, rfl, HV3.out, HC3.out, HK3.out⟩
  | succ d' =>
    have hd0 : (0 : Int) < ((d' + 1 : Nat) : Int) := by omega
    obtain ⟨K, hKe⟩ : ∃ K, dataN d' = K := ⟨_, rfl⟩
    have hK6 : 6 ≤ K := by rw [← hKe]; exact dataN_pos d'
    have hK3 : K ≤ 3000 := by rw [← hKe]; exact dataN_le d' (by omega)
    have HDK : Hid (dataN (d' + 1) = 3 + 3 * K) := Lib.hid (by rw [← hKe] <;> rfl)
    have HDA := Lib.hid (IH.out d' rfl)
    have HKE := Lib.hid hKe
    unfold DataOk at HDA
    rw [hKe] at HDA
    clear hKe HNU
    have HNX := Lib.hid (next_any C 4 w1 HC1.out (by omega) (by omega))
    go_wp2_with fail
    ((with_reducible refine HNX.out.mono ?_))
    rintro e w2 ⟨k2, rfl, hk2, hc3, hk3⟩
    have HK3 := Lib.hid (HK1.out.trans hk3)
    have HC3 := Lib.hid hc3
    clear hc3 hk3 HNX
    go_wp2_with fail
    go_loopw [7, 8] (fun x i wr => ∃ (v : Value) (vs : List Value) (q : Nat), v = x ∧ i = .int .i64 q ∧ q + vs.length ≤ 3 ∧ Hid (KRow wr w.heap.size v vs) ∧ Hid (NVs wr K vs) ∧ Hid (CSt wr C) ∧ Hid (Keep C w wr)) (fun _ i _ => (intOf i).toNat)
    case atStart => exact ⟨_, [], k2, rfl, rfl, by simp; omega, Lib.hid (KRow.nil _ _), Lib.hid (NVs.nil _ _), HC3, HK3⟩
    case round =>
     clear HC3 HK3
     obtain ⟨v, vs, q, rfl, rfl, hq, HR, HV, HC, HK⟩ := hrel
     obtain ⟨w3, rfl⟩ : ∃ y : World, y = wr := ⟨_, rfl⟩
     by_cases hq0 : 0 < q
     ·have hq1 : (0 : Int) < (q : Int) := by omega
      have HNY := Lib.hid (next_any C 3 w3 HC.out (by omega) (by omega))
      go_wp2_with fail
      ((with_reducible refine HNY.out.mono ?_))
      rintro e w4 ⟨k4, rfl, hk4, hc4, hkk4⟩
      have HR4 := Lib.hid (HR.out.keep HC.out hkk4)
      have HV4 := Lib.hid (HV.out.keep HC.out hkk4)
      have HK4 := Lib.hid (HK.out.trans hkk4)
      have HC4 := Lib.hid hc4
      clear hc4 hkk4 HR HV HK HC HNY
      cases h2 : (k4 : Int) == 2 with
      | true =>
        have HNM := Lib.hid (gname_any C w4 HC4.out)
        go_wp2_with fail
        ((with_reducible refine HNM.out.mono ?_))
        rintro e wn ⟨sn, rfl, hsn, hcn, hkn⟩
        have HRn := Lib.hid (HR4.out.keep HC4.out hkn)
        have HVn := Lib.hid (HV4.out.keep HC4.out hkn)
        have HKn := Lib.hid (HK4.out.trans hkn)
        have HCn := Lib.hid hcn
        have HNO := Lib.hid (nameOf_any sn wn (by omega))
        clear hcn hkn HR4 HV4 HK4 HC4 HNM
        go_wp2_with fail
        ((with_reducible refine HNO.out.mono ?_))
        rintro e w5 ⟨v5, rfl, hv51, hb5⟩
        have hv5 := hv51.more (M := K) (by omega)
        clear hv51
        have hk5 : Keep C wn w5 := Keep.of hb5
        have hc5 := HCn.out.keep hb5
        obtain ⟨a5, n5, c5, rfl⟩ := hv5.form
        have HR5 := Lib.hid (HRn.out.keep HCn.out hk5)
        have HV5 := Lib.hid (HVn.out.keep HCn.out hk5)
        have HC5 := Lib.hid hc5
        have HK5 := Lib.hid (HKn.out.trans hk5)
        have HT5 := Lib.hid hv5
        clear hv5 hc5 hk5 HRn HVn HCn HKn
        have hal : Below w5.heap.size w5 (w5.alloc (.cells #[.slice a5 n5 c5] 33)) := (Below.refl _ _).alloc (Nat.le_refl _) _
        have HR6 := Lib.hid (HR5.out.below hal)
        have HV6 := Lib.hid ((HV5.out.below hal).snoc ((HT5.out.below hal).base (Nat.zero_le _)))
        have HC6 := Lib.hid (HC5.out.keep hal)
        have HK6 := Lib.hid (HK5.out.trans (Keep.of hal))
        have HNN : Hid ((w5.alloc (.cells #[.slice a5 n5 c5] 33)).heap[w5.heap.size]? = some (.cells #[.slice a5 n5 c5] 33 (0, 0))) := Lib.hid (heap_alloc_new _ _)
        have hone := HT5.out.one
        clear HR5 HV5 HC5 HK5 hal
        go_wp2_with (at_builtin; refine wpList_append_kid rfl _ _ rfl w.heap.size v vs rfl HR6.out w5.heap.size (.slice a5 n5 c5) hone rfl HNN.out (by omega) HK6.out.size ?_; intro v7 w7 ho hg; have HO := Lib.hid ho; have HG7 := Lib.hid hg; clear ho hg)
        have HV7 := Lib.hid (HV6.out.grownRow HR6.out HG7.out)
        have HC7 := Lib.hid (HC6.out.grown HG7.out (fun g h => by have := own_row HR6.out h; have := HCW.out.lt; omega))
        have HK7 := Lib.hid (HK6.out.grown HG7.out (fun g h => own_row HR6.out h))
        clear HR6 HV6 HC6 HK6 HNN HG7 hone HT5
        go_wp2_with fail
        go_roundw
        case rel => first | exact ⟨vs ++ [.slice a5 n5 c5], q - 1, by go_num, by rw [List.length_append, List.length_singleton]; omega, HO, HV7, HC7, HK7⟩ | exact ⟨_, vs ++ [.slice a5 n5 c5], q - 1, rfl, by go_num, by rw [List.length_append, List.length_singleton]; omega, HO, HV7, HC7, HK7⟩
        case measure => simp [intOf]; omega
      | false =>
        have HDD := Lib.hid (HDA.out w4 HC4.out)
        unfold GPost at HDD
        have hdd : ((d' + 1 : Nat) : Int) - 1 = (d' : Int) := by omega
        go_wp2_with fail
        ((with_reducible refine HDD.out.mono ?_))
        rintro e w5 ⟨v5, rfl, hv5, hc5, hk5⟩
        obtain ⟨a5, n5, c5, rfl⟩ := hv5.form
        have HR5 := Lib.hid (HR4.out.keep HC4.out hk5)
        have HV5 := Lib.hid (HV4.out.keep HC4.out hk5)
        have HC5 := Lib.hid hc5
        have HK5 := Lib.hid (HK4.out.trans hk5)
        have HT5 := Lib.hid hv5
        clear hv5 hc5 hk5 HR4 HV4 HC4 HK4
        have hal : Below w5.heap.size w5 (w5.alloc (.cells #[.slice a5 n5 c5] 33)) := (Below.refl _ _).alloc (Nat.le_refl _) _
        have HR6 := Lib.hid (HR5.out.below hal)
        have HV6 := Lib.hid ((HV5.out.below hal).snoc ((HT5.out.below hal).base (Nat.zero_le _)))
        have HC6 := Lib.hid (HC5.out.keep hal)
        have HK6 := Lib.hid (HK5.out.trans (Keep.of hal))
        have HNN : Hid ((w5.alloc (.cells #[.slice a5 n5 c5] 33)).heap[w5.heap.size]? = some (.cells #[.slice a5 n5 c5] 33 (0, 0))) := Lib.hid (heap_alloc_new _ _)
        have hone := HT5.out.one
        clear HR5 HV5 HC5 HK5 hal
        go_wp2_with (at_builtin; refine wpList_append_kid rfl _ _ rfl w.heap.size v vs rfl HR6.out w5.heap.size (.slice a5 n5 c5) hone rfl HNN.out (by omega) HK6.out.size ?_; intro v7 w7 ho hg; have HO := Lib.hid ho; have HG7 := Lib.hid hg; clear ho hg)
        have HV7 := Lib.hid (HV6.out.grownRow HR6.out HG7.out)
        have HC7 := Lib.hid (HC6.out.grown HG7.out (fun g h => by have := own_row HR6.out h; have := HCW.out.lt; omega))
        have HK7 := Lib.hid (HK6.out.grown HG7.out (fun g h => own_row HR6.out h))
        clear HR6 HV6 HC6 HK6 HNN HG7 hone HT5
        go_wp2_with fail
        go_roundw
        case rel => first | exact ⟨vs ++ [.slice a5 n5 c5], q - 1, by go_num, by rw [List.length_append, List.length_singleton]; omega, HO, HV7, HC7, HK7⟩ | exact ⟨_, vs ++ [.slice a5 n5 c5], q - 1, rfl, by go_num, by rw [List.length_append, List.length_singleton]; omega, HO, HV7, HC7, HK7⟩
        case measure => simp [intOf]; omega
     ·have hq1 : ¬ (0 : Int) < (q : Int) := by omega
      have hqz : q = 0 := by omega
      have HMUL : Hid (vs.length * K ≤ 3 * K) := Lib.hid (Nat.mul_le_mul_right K (by omega))
      obtain ⟨a, cp, rfl⟩ := HR.out.form
      have HNY := Lib.hid (next_any C 3 w3 HC.out (by omega) (by omega))
      have HKF := Lib.hid (HR.out)
      go_wp2_with fail
      ((with_reducible refine HNY.out.mono ?_))
      rintro e w4 ⟨k4, rfl, hk4, hc4, hkk4⟩
      have HR4 := Lib.hid (HR.out.keep HC.out hkk4)
      have HV4 := Lib.hid (HV.out.keep HC.out hkk4)
      have HK4 := Lib.hid (HK.out.trans hkk4)
      have HC4 := Lib.hid hc4
      have HIN := Lib.hid (gInt_any ((vs.length : Int) + k4) w4 (by omega))
      have hk4' : (k4 : Int) < 3 := hk4
      clear hc4 hkk4 HR HV HK HC HNY HKF
      go_wp2_with fail
      ((with_reducible refine HIN.out.mono ?_))
      rintro e w5 ⟨v5, rfl, hv5, hb5⟩
      obtain ⟨a5, n5, c5, rfl⟩ := hv5.form
      have HKN := Lib.hid (kNode_any 4 _ vs (List.replicate vs.length K) w5 (HR4.out.below hb5).sl (by simp) (HV4.out.below hb5).each (by omega) (by rw [sum_rep]; (have := HMUL.out; omega)))
      rw [sum_rep] at HKN
      have HC5 := Lib.hid (HC4.out.keep hb5)
      have HK5 := Lib.hid (HK4.out.trans (Keep.of hb5))
      have HT5 := Lib.hid hv5
      clear hv5 hb5 HR4 HV4 HC4 HK4 HIN
      go_wp2_with fail
      ((with_reducible refine HKN.out.mono ?_))
      rintro e w6 ⟨v6, rfl, hv6, hb6⟩
      obtain ⟨a6, n6, c6, rfl⟩ := hv6.form
      have HT56 := Lib.hid (HT5.out.below hb6)
      have HC6 := Lib.hid (HC5.out.keep hb6)
      have HK6 := Lib.hid (HK5.out.trans (Keep.of hb6))
      have hal : Below w6.heap.size w6 (w6.alloc (.cells #[.slice a5 n5 c5, .slice a6 n6 c6] 33)) := (Below.refl _ _).alloc (Nat.le_refl _) _
      have HT57 := Lib.hid ((HT56.out.below hal).base (B' := 0) (Nat.zero_le _))
      have HT67 := Lib.hid ((hv6.below hal).base (B' := 0) (Nat.zero_le _))
      have HC7 := Lib.hid (HC6.out.keep hal)
      have HK7 := Lib.hid (HK6.out.trans (Keep.of hal))
      have HKL := Lib.hid (KSl.lit w6 [.slice a5 n5 c5, .slice a6 n6 c6] 2 rfl)
      have HN2 := Lib.hid (kNode_any 51 _ [.slice a5 n5 c5, .slice a6 n6 c6] [1, 1 + vs.length * K] (w6.alloc (.cells #[.slice a5 n5 c5, .slice a6 n6 c6] 33)) HKL.out rfl (fun i h1 h2 => by
       match i, h1 with
       | 0, _ => exact HT57.out
       | 1, _ => exact HT67.out) (by simp) (by simp only [List.sum_cons, List.sum_nil]; (have := HMUL.out; omega)))
      clear hv6 hb6 HC5 HK5 HT5 HT56 HC6 HK6 hal HKL HKN
      go_wp2_with fail
      ((with_reducible refine HN2.out.mono ?_))
      rintro e w8 ⟨v8, rfl, hv8, hb8⟩
      have HV8 := Lib.hid ((hv8.base (B' := w.heap.size) HK7.out.size).more (M := dataN (d' + 1)) (by simp only [List.sum_cons, List.sum_nil]; have := HMUL.out; have := HDK.out; omega))
      have HC8 := Lib.hid (HC7.out.keep hb8)
      have HK8 := Lib.hid (HK7.out.trans (Keep.of hb8))
      clear hv8 hb8
      go_wp2_with fail
      go_ret
      exact ⟨_, rfl, HV8.out, HC8.out, HK8.out⟩
 have t3 : ((k : Int) == 3) = false := by rw [beq_eq_false_iff_ne]; omega
 go_wp2_with fail
 ((with_reducible refine HNU.out.mono ?_))
 rintro e w2 ⟨nu, rfl, hnu, hc2, hk2⟩
 have HC2 := Lib.hid hc2
 have HK2 := Lib.hid (HK1.out.trans hk2)
 have HIN := Lib.hid (gInt_any nu w2 hnu)
 clear hc2 hk2 HNU
 go_wp2_with fail
 ((with_reducible refine HIN.out.mono ?_))
 rintro e w3 ⟨v3, rfl, hv3, hb3⟩
 have HV3 := Lib.hid ((hv3.base (B' := w.heap.size) HK2.out.size).more (M := dataN d) (by have := HPOS.out; omega))
 have HC3 := Lib.hid (HC2.out.keep hb3)
 have HK3 := Lib.hid (HK2.out.trans (Keep.of hb3))
 clear hv3 hb3
 go_wp2_with fail
 go_ret
 exact ⟨_, rfl, HV3.out, HC3.out, HK3.out⟩
theorem data_ok (C : Nat) : ∀ d, d ≤ 5 → DataOk C d
 | 0, h => data_step C 0 h (fun d' e => by omega)
 | d + 1, h => data_step C (d + 1) h (fun d' e => by
   have e2 : d = d' := by omega
   subst e2
   exact data_ok C d (by omega))
end
end Go.Proofs.YtnicnfchkdmieaaGreatDoor
