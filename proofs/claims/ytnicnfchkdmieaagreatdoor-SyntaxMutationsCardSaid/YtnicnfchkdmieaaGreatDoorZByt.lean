/- Byt -/
import Derived.Test.YtnicnfchkdmieaaGreatDoorZa
set_option linter.unusedVariables false
set_option linter.unusedSimpArgs false
namespace Go.Proofs.YtnicnfchkdmieaaGreatDoor
open Go.RowKit
attribute [local go_sem] ByteArray.mk_append_mk bs_get bs_cut bs_end
theorem by_conv1 (w : World) (x : Int) : Sem.run Tryz.prog (convert 22 9 (.slice (some ⟨w.heap.size, 0, none⟩) 1 1)) (w.alloc (.cells #[.int .u8 x] 5)) = .ok (.string ⟨[UInt8.ofNat x.toNat].toArray⟩) (w.alloc (.cells #[.int .u8 x] 5)) := by
 rw [run_convert_bytes_string _ 22 9 5 _ _ _ Tryz.underlying22 Tryz.underlying5 Tryz.underlying9]
 rw [run_bytesToString _ _ 1 1 [x] (by simp [loadCells, go_sem])]
 rfl
theorem by_info : (Tryz.prog.info? 5).map (fun i => (i.zero, i.size, i.bytes)) = some (some (.int .u8 0), 1, 1) := by kernel_rfl
def byV (l : List UInt8) : List Value := l.map fun b => .int .u8 b.toNat
theorem byV_len (l : List UInt8) : (byV l).length = l.length := by unfold byV; exact List.length_map _
theorem by_conv (w : World) (a : Addr) (n c : Nat) (l : List UInt8) (hn : l.length = n) (h : ∀ j v, (byV l)[j]? = some v → w.cell? (a.add j) = some v) :
 Sem.run Tryz.prog (convert 22 9 (.slice (some a) n c)) w = .ok (.string ⟨l.toArray⟩) w := by
 rw [run_convert_bytes_string _ 22 9 5 _ _ _ Tryz.underlying22 Tryz.underlying5 Tryz.underlying9]
 have hl := run_loadCells_list (P := Tryz.prog) w a ((l.map (fun b => (b.toNat : Int))).map (Value.int .u8)) (by
  intro j v hj; apply h; simpa [byV, List.map_map] using hj)
 rw [List.length_map, List.length_map, hn] at hl
 rw [run_bytesToString _ _ n c _ hl]
 have key : ∀ (l : List UInt8) (r : ByteArray), (l.map (fun b => (b.toNat : Int))).foldl (fun r n => r.push (UInt8.ofNat n.toNat)) r = r ++ ⟨l.toArray⟩ := by
  intro l
  induction l with
  | nil => intro r; simp; apply ByteArray.ext; simp [ByteArray.data_append]
  | cons x l ih =>
    intro r
    simp only [List.map_cons, List.foldl_cons, ih]
    apply ByteArray.ext
    simp [ByteArray.data_append, ByteArray.data_push]
 rw [key]
 congr 2
theorem by_convNil (w : World) : Sem.run Tryz.prog (convert 22 9 (.slice none 0 0)) w = .ok (.string ⟨([] : List UInt8).toArray⟩) w := by kernel_rfl
def Bytes (w : World) (B : Nat) (v : Value) (l : List UInt8) : Prop := w.ownsRow B 5 1 v l.length (byV l)
theorem Bytes.nil (w : World) (B : Nat) : Bytes w B (.slice none 0 0) [] := ⟨rfl, .inl ⟨rfl, rfl⟩⟩
theorem Bytes.form {w : World} {B : Nat} {v : Value} {l : List UInt8} (h : Bytes w B v l) : ∃ a c, v = .slice a l.length c := by
 rcases h.2 with ⟨rfl, h0⟩ | ⟨g, cap, cur, rfl, _⟩
 ·exact ⟨none, 0, by rw [h0]⟩
 ·exact ⟨_, cap, rfl⟩
theorem Bytes.conv {w : World} {B : Nat} {v : Value} {l : List UInt8} (h : Bytes w B v l) : Sem.run Tryz.prog (convert 22 9 v) w = .ok (.string ⟨l.toArray⟩) w := by
 have ho : w.ownsRow B 5 1 v l.length (byV l) := h
 rcases h.2 with ⟨rfl, h0⟩ | ⟨g, cap, cur, rfl, _⟩
 ·have : l = [] := List.eq_nil_of_length_eq_zero h0
  subst this
  exact by_convNil w
 ·refine by_conv w _ _ _ l rfl fun j u hj => ?_
  have hlt : j < l.length := by
   have := (List.getElem?_eq_some_iff.1 hj).1
   rwa [byV_len] at this
  have h1 := ho.cellAt j (by omega)
  rw [hj] at h1
  by_cases h0 : j = 0
  ·subst h0; simpa [Addr.add] using h1
  ·simpa [Addr.add, h0] using h1
theorem Bytes.below {w w' : World} {B : Nat} {v : Value} {l : List UInt8} (h : Bytes w B v l) (hb : Below w.heap.size w w') : Bytes w' B v l := own_below h hb
theorem wpList_append_byte {w : World} {ops : Array Oper} {rest : List Oper} {o : Oper} {a : Act} {Q : Exit → Act → World → Prop} (hgd : o.guard = none) (s x : Operand)
 (ho : o.op = .call { callee := .builtin .append, args := #[s, x], argTypes := #[22, 22] })
 (B : Nat) (v : Value) (l : List UInt8) (hs : a.eval s = v) (hown : Bytes w B v l) (c : UInt8) (g : Nat)
 (hx : a.eval x = .slice (some ⟨g, 0, none⟩) 1 1) (hb : w.heap[g]? = some (.cells #[.int .u8 c.toNat] 5 (0, 0))) (hlen : l.length ≤ 1000000) (hB : B ≤ w.heap.size)
 (h : ∀ v' w', Bytes w' B v' (l ++ [c]) → w.grownBy w' v.ownBlock → wpList Tryz.prog ops Q rest (a.put o.dst v') w') : wpList Tryz.prog ops Q (o :: rest) a w := by
 obtain ⟨i0, hi, hz0, hz1, hz2⟩ := info_parts by_info
 refine wpList_append_own _ hgd s x _ ho B 5 i0 (.int .u8 0) 1 1 Tryz.underlying22 hi hz0 hz1 hz2 rfl (by decide) v l.length _ hs hown ⟨g, 0, none⟩ 1 1 [.int .u8 c.toNat] hx rfl ?_ ?_ (by unfold maxLen; omega) (by omega) hB ?_
 ·intro j z hj
  match j, hj with
  | 0, hj => cases hj; exact (cell_of_row w _ 0 _ _ _ hb).trans rfl
 ·intro z hz
  simp only [List.mem_cons, List.not_mem_nil, or_false] at hz
  subst hz; rfl
 ·intro v' w' h1 h2 _
  refine h v' w' ?_ h2
  unfold Bytes
  rw [List.length_append]
  rw [show byV (l ++ [c]) = byV l ++ [.int .u8 c.toNat] from List.map_append]
  exact h1
theorem Bytes.kept {w w1 w2 : World} {B B0 : Nat} {v : Value} {l : List UInt8} (ho : Bytes w1 B v l) (h : Below B0 w w1) (hg : w1.grownBy w2 v.ownBlock) (hB : B0 ≤ w1.heap.size) (hB2 : B0 ≤ B) : Below B0 w w2 :=
 h.grown hg hB (fun k hk => Nat.le_trans hB2 (own_row ho hk))
def BArg (w : World) (v : Value) (l : List UInt8) : Prop :=
 ∃ (a : Option Addr) (cap : Nat), v = .slice a l.length cap ∧ l.length ≤ 140737488351232 ∧ (l ≠ [] → ∃ b off, a = some ⟨b, off, none⟩ ∧ ∀ k (h : k < l.length), w.cell? ⟨b, off + k, none⟩ = some (.int .u8 l[k].toNat))
theorem BArg.below {w w' : World} {v : Value} {l : List UInt8} (h : BArg w v l) (hb : Below w.heap.size w w') : BArg w' v l := by
 obtain ⟨a, cap, hv, hl, hc⟩ := h
 refine ⟨a, cap, hv, hl, fun hn => ?_⟩
 obtain ⟨b, off, ha, hk⟩ := hc hn
 have hp : 0 < l.length := List.length_pos_iff.2 hn
 have hlt : b < w.heap.size := World.block_lt_of_cell? w ⟨b, off + 0, none⟩ (hk 0 hp)
 refine ⟨b, off, ha, fun k h => ?_⟩
 rw [hb.cell (p := ⟨b, off + k, none⟩) hlt]
 exact hk k h
end Go.Proofs.YtnicnfchkdmieaaGreatDoor
