import Derived.Test.YtdgeocmcmcflfaaDoorRef2
import Derived.Deep.AppendLies
import Derived.Deep.RegionLaw
/- The reference block of events: NewBlock. -/
namespace Go.Proofs.YtdgeocmcmcflfaaDoor
open Go.RowKit
attribute [local go_sem] ByteArray.mk_append_mk cut_mk
theorem evCells_append (l r : List Ev) : evCells (l ++ r) = evCells l ++ evCells r := by
  induction l with
  | nil => rfl
  | cons a t ih => rw [List.cons_append, evCells, evCells, ih, List.append_assoc]
theorem evCells_step (bs : List Bool) (k : Nat) (h : k < bs.length) : evCells ((bs.take (k + 1)).map newEv) = evCells ((bs.take k).map newEv) ++ [.bool bs[k], .bool false, .bool false, .bool false, .bool false, .bool false] := by
  rw [List.take_add_one, List.getElem?_eq_getElem h, List.map_append, evCells_append]; rfl
theorem info60 : (Tryd.prog.info? 60).map (fun i => (i.zero, i.size, i.bytes)) = some (some (.agg #[.bool false, .bool false, .bool false, .bool false, .bool false, .bool false]), 6, 6) := by kernel_rfl
/-- Where the making of the reference block stands after k events. -/
def NewRel (B : Nat) (bs : List Bool) (k : Nat) (w w' : World) : Prop := ∃ v, w'.heap[B]? = some (.cells #[v] 58 (0, 0)) ∧ w'.ownsRow (B + 1) 60 6 v k (evCells ((bs.take k).map newEv)) ∧ Below B w w'
theorem base_alloc {w wr : World} (h : w.heap.size < wr.heap.size) (o : Obj) : w.heap.size + 1 ≤ (wr.alloc o).heap.size := by
  have : (wr.alloc o).heap.size = wr.heap.size + 1 := by show (Array.push _ _).size = _; exact Array.size_push _
  omega
theorem own_zero {w : World} {base : Nat} {e : TypeId} {size : Nat} {v : Value} {n : Nat} {xs : List Value} (h : w.ownsRow base e size v n xs) : w.ownsRow 0 e size v n xs := by
  refine ⟨h.1, h.2.imp id ?_⟩
  rintro ⟨g, cap, cur, h1, _, h3⟩
  exact ⟨g, cap, cur, h1, Nat.zero_le _, h3⟩
theorem alloc_kept {w : World} {B : Nat} {x : Obj} (h : w.heap[B]? = some x) (o : Obj) : (w.alloc o).heap[B]? = some x := by
  rw [heap_alloc_old _ _ (Array.getElem?_eq_some_iff.1 h).1, h]
theorem new_kept {w2 w1 : World} {B : Nat} {v : Value} {row : Option Nat} (hg : w2.grownBy w1 row) (hne : some B ≠ row) (h : w2.heap[B]? = some (.cells #[v] 58 (0, 0))) :
    w1.heap[B]? = some (.cells #[v] 58 (0, 0)) ∧ w1.cell? ⟨B, 0, none⟩ = some v ∧ w1.frozen? ⟨B, 0, none⟩ = false := by
  have h1 : w1.heap[B]? = some (.cells #[v] 58 (0, 0)) := by
    rw [hg.block B (Array.getElem?_eq_some_iff.1 h).1 hne]; exact h
  exact ⟨h1, (cell_of_row w1 _ 0 _ _ _ h1).trans rfl, frozen_of_row w1 _ 0 _ _ h1⟩
theorem new_step {B k g cp : Nat} {bs : List Bool} {w w1 w2 : World} {v : Value} (hk : k < bs.length) (ho : w1.ownsRow (B + 1) 60 6 (.slice (some ⟨g, 0, none⟩) (k + 1) cp) (k + 1) (evCells ((bs.take k).map newEv) ++ [.bool bs[k], .bool false, .bool false, .bool false, .bool false, .bool false]))
    (hb : w1.heap[B]? = some (.cells #[v] 58 (0, 0))) (hg : w2.grownBy w1 v.ownBlock) (hB : Below B w w2) (hBs : B ≤ w2.heap.size) (hv : ∀ r, v.ownBlock = some r → B ≤ r) : NewRel B bs (k + 1) w (w1.setCell ⟨B, 0, none⟩ (.slice (some ⟨g, 0, none⟩) (k + 1) cp)) := by
  refine ⟨_, (heap_setCell_same w1 B 0 _ _ _ hb).trans rfl, ?_, (hB.grown hg hBs hv).setCell (Nat.le_refl _) _⟩
  rw [evCells_step bs k hk]
  exact ownsRow_setCell_below ho (by simp) _
set_option maxHeartbeats 1000000 in
theorem rnew_yes (ab ao : Nat) (bs : List Bool) (cap : Nat) (w : World) (ha : BoolsAt w ab ao bs) (hab : ab < w.heap.size) (h1 : 1 ≤ bs.length) (h64 : bs.length ≤ 64) :
    Calls Tryd.prog 17 #[.slice (some ⟨ab, ao, none⟩) bs.length cap] w fun e w' => e = .returned (.pointer (some ⟨w.heap.size, 0, none⟩)) ∧ (∃ g, w.heap.size < g ∧ RefAt w' w.heap.size g (bs.map newEv)) ∧ Below w.heap.size w w' := by
  have HA := Lib.hid ha
  clear ha
  obtain ⟨i0, hi, hz0, hz1, hz2⟩ := info_parts info60
  go_enter Tryd.func17, Tryd.ntmps17
  go_wp2
  go_loopw [4] (fun i wr => ∃ k : Nat, k ≤ bs.length ∧ i = .int .i64 k ∧ NewRel w.heap.size bs k w wr) (fun i _ => bs.length - (intOf i).toNat)
  case atStart =>
    exact ⟨0, Nat.zero_le _, rfl, _, heap_alloc_new w _, ⟨rfl, .inl ⟨rfl, rfl⟩⟩, (Below.refl _ _).alloc (Nat.le_refl _) _⟩
  case round =>
    obtain ⟨k, hk, rfl, v, hb, ho, hB⟩ := hrel
    by_cases hlt : k < bs.length
    · have hcell : wr.cell? ⟨ab, ao + k, none⟩ = some (.bool bs[k]) := by rw [hB.cell hab]; exact HA.out k hlt
      have hv : wr.cell? ⟨w.heap.size, 0, none⟩ = some v := by rw [cell_of_row wr _ 0 _ _ _ hb]; rfl
      have hf : wr.frozen? ⟨w.heap.size, 0, none⟩ = false := frozen_of_row wr _ 0 _ _ hb
      have hBlt : w.heap.size < wr.heap.size := (Array.getElem?_eq_some_iff.1 hb).1
      have hne : some w.heap.size ≠ v.ownBlock := fun he => by have := (ho.lt _ he.symm).1; omega
      have hv2 : (wr.alloc (.cells #[.bool bs[k], .bool false, .bool false, .bool false, .bool false, .bool false] 60)).cell? ⟨w.heap.size, 0, none⟩ = some v := (cell_of_row _ _ 0 _ _ _ (alloc_kept hb _)).trans rfl
      have HO := Lib.hid ho
      have HB := Lib.hid hb
      have HBL := Lib.hid hB
      have HN := Lib.hid hne
      have HL := Lib.hid hBlt
      clear ho hb hB hne hBlt
      go_wp2
      go_region_law ((refine step_append_lies _ (by rfl) _ _ _ (by rfl) (w.heap.size + 1) 60 i0 _ 6 6 Tryd.underlying56 hi hz0 hz1 hz2 (by rfl) (by omega) v k _ (by rfl) (HO.out.alloc _) ⟨wr.heap.size, 0, none⟩ 1 1 [.bool bs[k], .bool false, .bool false, .bool false, .bool false, .bool false] (by rfl) (by rfl) (World.news_of_block (heap_alloc_new wr _)) (by intro u hu; simp at hu; rcases hu with rfl | rfl <;> rfl) (by omega) (by unfold maxLen; omega) (by omega) (base_alloc HL.out _) _ rfl ?_; intro g cp w1 hown hgrow hat hgl; obtain ⟨hb1, hv1, hf1⟩ := new_kept hgrow HN.out (alloc_kept HB.out _); have HO1 := Lib.hid hown; have HG1 := Lib.hid hgrow; have HA1 := Lib.hid hat; have HB1 := Lib.hid hb1; clear hown hgrow hat hb1))
      all_goals (try go_wp2)
      all_goals go_roundw
      all_goals first | (case rel => exact ⟨k + 1, by omega, by go_num, new_step hlt HO1.out HB1.out HG1.out ((HBL.out.alloc (Nat.le_of_lt HL.out) _).drew) (Nat.le_of_succ_le (base_alloc HL.out _)) (fun r hr => by have := (HO.out.lt r hr).1; omega)⟩) | (case measure => simp [intOf]; omega)
    · have hkk : k = bs.length := by omega
      subst hkk
      obtain ⟨g, cp, rfl, hg, hglt⟩ := ho.form (by omega)
      rw [List.take_length] at ho
      have HO := Lib.hid ho
      have HB := Lib.hid hb
      have HBL := Lib.hid hB
      clear ho hb hB
      go_wp2
      go_ret
      refine ⟨rfl, ⟨g, by omega, by omega, by rw [List.length_map]; exact h64, cp, by rw [List.length_map]; exact HB.out, by rw [List.length_map]; exact own_zero HO.out⟩, HBL.out⟩
end Go.Proofs.YtdgeocmcmcflfaaDoor
