/- strings.Builder over lists of bytes, with what it keeps beside itself. -/
import Derived.Test.YtebmkalgdbkijaaDoorBs
import Derived.Test.YtebmkalgdbkijaaDoorShelf
import Derived.Shelf.Strings.BuilderF
import Derived.Shelf.Strings.BuilderK
import Derived.Lib.OthersKept
namespace Go.Proofs.YtebmkalgdbkijaaDoor
open Go.RowKit
set_option linter.unusedVariables false

/-- Block b is a builder that holds these bytes; B: from where on it may write. -/
def BldK (w : World) (B b : Nat) (l : List UInt8) : Prop := Lib.IsBuilderF 46 5 B b (Lib.byteCells l) w ∧ B ≤ w.heap.size
/-- What stands beside a builder stands on. -/
def KeptK (b : Nat) (w w' : World) : Prop := Lib.OthersKept 5 (some b) w w'
theorem KeptK.blk {b : Nat} {w w' : World} (h : KeptK b w w') {k : Nat} {cs : Array Value} {t : Nat} (hk : w.heap[k]? = some (.cells cs t (0, 0))) (hb : k ≠ b) (ht : t ≠ 5) : w'.heap[k]? = some (.cells cs t (0, 0)) :=
  h k _ hk (fun e => hb (by injection e)) (fun c fz e => by injection e with _ e _; exact ht e)
theorem KeptK.trans {b : Nat} {w w' w'' : World} (h : KeptK b w w') (h' : KeptK b w' w'') : KeptK b w w'' := Lib.OthersKept.trans h h'
theorem KeptK.refl (b : Nat) (w : World) : KeptK b w w := Lib.OthersKept.refl _ _ _
theorem KeptK.of {b : Nat} {w w' : World} (h : Below w.heap.size w w') : KeptK b w w' := fun k o hk _ _ => (h.block k (lt_of_block hk)).trans hk
theorem BldK.fresh (w : World) : BldK (w.alloc (.cells #[.pointer none, .slice none 0 0] 46)) w.heap.size w.heap.size [] := ⟨Lib.IsBuilderF.of (Lib.fresh_isBuilder _ _ _), by simp⟩
theorem bldk_at {T e B b : Nat} {p : Value} {bs : List Value} {w w' : World} (h : Lib.BuilderAtF T e B b p bs w) (hb : Below w.heap.size w w') : Lib.BuilderAtF T e B b p bs w' := by
  obtain ⟨h1, v, h2, ⟨h3, h5⟩, h4⟩ := h
  refine ⟨h1, v, blk_below h2 hb, ⟨h3, ?_⟩, h4⟩
  rcases h5 with h5 | ⟨g, cap, cur, fz, k1, k2, k3, k4⟩
  · exact .inl h5
  · exact .inr ⟨g, cap, cur, fz, k1, k2, (hb.block g (lt_of_block k3)).trans k3, k4⟩
theorem BldK.below {w w' : World} {B b : Nat} {l : List UInt8} (h : BldK w B b l) (hb : Below w.heap.size w w') : BldK w' B b l := by
  obtain ⟨h1, h2⟩ := h
  exact ⟨h1.elim (fun h => .inl (bldk_at h hb)) (fun h => .inr (bldk_at h hb)), Nat.le_trans h2 hb.size⟩
theorem BldK.alloc {w : World} {B b : Nat} {l : List UInt8} (h : BldK w B b l) (o : Obj) : BldK (w.alloc o) B b l := h.below ((Below.refl _ _).alloc (Nat.le_refl _) o)
theorem BldK.lt {w : World} {B b : Nat} {l : List UInt8} (h : BldK w B b l) : b < w.heap.size := by
  rcases h.1 with h | h
  · exact h.lt
  · exact h.lt
theorem blk_str (B b : Nat) (l s : List UInt8) (w : World) (h : BldK w B b l) (hlen : l.length + s.length ≤ 140737488355328) :
    Calls Tryd.prog 38 #[.pointer (some ⟨b, 0, none⟩), .string ⟨s.toArray⟩] w fun e w' => e = .returned (.tuple #[.int .i64 s.length, .nilIface]) ∧ BldK w' B b (l ++ s) ∧ Below B w w' ∧ KeptK b w w' :=
  (Any.Builder_WriteString_k Tryd.lays166 Tryd.Builder_Extra_166 B b (Lib.byteCells l) ⟨s.toArray⟩ w h.1 (by rw [Lib.byteCells_length, ByteArray.size_mk', List.size_toArray]; exact hlen) h.2).mono fun e w' ⟨he, hb, hw, hk⟩ => ⟨by rw [he, ByteArray.size_mk', List.size_toArray], ⟨.inr (by rw [Lib.byteCells_append]; exact hb), Nat.le_trans h.2 hw.size⟩, hw, hk⟩
theorem blk_byte (B b : Nat) (l : List UInt8) (c : UInt8) (w : World) (h : BldK w B b l) (hlen : l.length + 1 ≤ 140737488355328) :
    Calls Tryd.prog 19 #[.pointer (some ⟨b, 0, none⟩), .int .u8 c.toNat] w fun e w' => e = .returned .nilIface ∧ BldK w' B b (l ++ [c]) ∧ Below B w w' ∧ KeptK b w w' :=
  (Any.Builder_WriteByte_k Tryd.lays167 Tryd.Builder_Extra_167 B b (Lib.byteCells l) c.toNat w h.1 (by rw [Lib.byteCells_length]; exact hlen) h.2).mono fun e w' ⟨he, hb, hw, hk⟩ => ⟨he, ⟨.inr (by rw [Lib.byteCells_append]; exact hb), Nat.le_trans h.2 hw.size⟩, hw, hk⟩
theorem blk_lit (B b : Nat) (l : List UInt8) (c : UInt8) (n : Int) (hn : (c.toNat : Int) = n) (w : World) (h : BldK w B b l) (hlen : l.length + 1 ≤ 140737488355328) :
    Calls Tryd.prog 19 #[.pointer (some ⟨b, 0, none⟩), .int .u8 n] w fun e w' => e = .returned .nilIface ∧ BldK w' B b (l ++ [c]) ∧ Below B w w' ∧ KeptK b w w' := by
  subst hn; exact blk_byte B b l c w h hlen
theorem blk_string (B b : Nat) (l : List UInt8) (w : World) (h : BldK w B b l) :
    Calls Tryd.prog 21 #[.pointer (some ⟨b, 0, none⟩)] w fun e w' => e = .returned (.string ⟨l.toArray⟩) ∧ Below B w w' :=
  (Any.Builder_String_any_k Tryd.lays169 Tryd.Builder_Extra_169 B b l w h.1 h.2).mono fun e w' ⟨he, _, hw, _⟩ => ⟨he, hw⟩
end Go.Proofs.YtebmkalgdbkijaaDoor
