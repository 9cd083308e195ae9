/- strings.Builder and strings.Repeat over lists of bytes. -/
import Derived.Test.YteifmjhkedhomaaDoorBs
import Derived.Test.YteifmjhkedhomaaDoorShelf
namespace Go.Proofs.YteifmjhkedhomaaDoor
open Go.RowKit

/-- Block b is a builder that holds these bytes; B: from where on it may write. -/
def Bld (w : World) (B b : Nat) (l : List UInt8) : Prop := Lib.IsBuilder 69 5 B b (Lib.byteCells l) w ∧ B ≤ w.heap.size
theorem Bld.fresh (w : World) : Bld (w.alloc (.cells #[.pointer none, .slice none 0 0] 69)) w.heap.size w.heap.size [] := ⟨Lib.fresh_isBuilder _ _ _, by simp⟩
theorem bld_at {T e B b : Nat} {p : Value} {bs : List Value} {w w' : World} (h : Lib.BuilderAt T e B b p bs w) (hb : Below w.heap.size w w') : Lib.BuilderAt T e B b p bs w' := by
  obtain ⟨h1, v, h2, h3, h4⟩ := h
  exact ⟨h1, v, blk_below h2 hb, own_below h3 hb, h4⟩
theorem Bld.below {w w' : World} {B b : Nat} {l : List UInt8} (h : Bld w B b l) (hb : Below w.heap.size w w') : Bld w' B b l := by
  obtain ⟨h1, h2⟩ := h
  exact ⟨h1.elim (fun h => .inl (bld_at h hb)) (fun h => .inr (bld_at h hb)), Nat.le_trans h2 hb.size⟩
theorem bld_str (B b : Nat) (l s : List UInt8) (w : World) (h : Bld w B b l) (hlen : l.length + s.length ≤ 140737488355328) :
    Calls Tryd.prog 48 #[.pointer (some ⟨b, 0, none⟩), .string ⟨s.toArray⟩] w fun e w' => e = .returned (.tuple #[.int .i64 s.length, .nilIface]) ∧ Bld w' B b (l ++ s) ∧ Below B w w' :=
  (Tryd.Builder_WriteString B b (Lib.byteCells l) ⟨s.toArray⟩ w h.1 (by rw [Lib.byteCells_length, ByteArray.size_mk', List.size_toArray]; exact hlen) h.2).mono fun e w' ⟨he, hb, hw⟩ => ⟨by rw [he, ByteArray.size_mk', List.size_toArray], ⟨.inr (by rw [Lib.byteCells_append]; exact hb), Nat.le_trans h.2 hw.size⟩, hw⟩
theorem bld_byte (B b : Nat) (l : List UInt8) (c : UInt8) (w : World) (h : Bld w B b l) (hlen : l.length + 1 ≤ 140737488355328) :
    Calls Tryd.prog 49 #[.pointer (some ⟨b, 0, none⟩), .int .u8 c.toNat] w fun e w' => e = .returned .nilIface ∧ Bld w' B b (l ++ [c]) ∧ Below B w w' :=
  (Tryd.Builder_WriteByte B b (Lib.byteCells l) c.toNat w h.1 (by rw [Lib.byteCells_length]; exact hlen) h.2).mono fun e w' ⟨he, hb, hw⟩ => ⟨he, ⟨.inr (by rw [Lib.byteCells_append]; exact hb), Nat.le_trans h.2 hw.size⟩, hw⟩
theorem bld_string (B b : Nat) (l : List UInt8) (w : World) (h : Bld w B b l) :
    Calls Tryd.prog 50 #[.pointer (some ⟨b, 0, none⟩)] w fun e w' => e = .returned (.string ⟨l.toArray⟩) ∧ Below B w w' :=
  Tryd.Builder_String_any B b l w h.1 h.2
theorem repeat_one (c : UInt8) : ∀ n, Lib.repeatL [c] n = List.replicate n c
  | 0 => rfl
  | n + 1 => by rw [Lib.repeatL, repeat_one c n]; rfl
end Go.Proofs.YteifmjhkedhomaaDoor
