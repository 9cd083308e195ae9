/- Regions that draw their order and hold calls that make memory: the class of worlds 'grown from w', for the guide's walk of the lexical order. -/
import Derived.WalkKit
import Derived.BigQuiet
namespace Go
open Go.RowKit

/-- The worlds that have at most new blocks and draws. -/
def Grows (w : World) (w' : World) : Prop := Below w.heap.size w w'

theorem Grows.refl (w : World) : Grows w w := Below.refl _ _
theorem Grows.some (w : World) : (∃ x, Grows w x) = True := by simp only [eq_iff_iff, iff_true]; exact ⟨w, Grows.refl w⟩
theorem Grows.all (w : World) (p : Prop) : (∀ x, Grows w x → p) = p := by
  rw [eq_iff_iff]; exact ⟨fun h => h w (Grows.refl w), fun h _ _ => h⟩
theorem Grows.trans {a b c : World} (h : Grows a b) (k : Below b.heap.size b c) : Grows a c :=
  Below.trans h (k.mono (Below.size h))

theorem wp_region_grows {P : Program} {id : Nat} {Q : Exit → Act → World → Prop} {a : Act} {w : World} {l : List Oper} (hm : P.follows .mixedOrders = true) (hB : Region.lexB .any l.toArray = true)
    (h : wpQuiet P l.toArray (Grows w) (fun a' => ∀ w', Grows w w' → Q .normal a' w') l a) : (Code.region id l.toArray true).wp P Q a w :=
  wp_region_quiet (C := Grows w) hm hB (Below.drew (Below.refl _ _)) (by simpa using h)

/-- A callee's contract inside such a region. -/
theorem Calls.grows_of {P : Program} {f : FuncId} {args : Array Value} {w w' : World} {v : Value} (hw : Grows w w')
    (h : Calls P f args w' fun e w'' => e = .returned v ∧ Below w'.heap.size w' w'') : Calls P f args w' fun e w'' => e = .returned v ∧ Grows w w'' :=
  h.mono fun _ _ ⟨he, hb⟩ => ⟨he, hw.trans hb⟩
theorem Calls.grows_of_same {P : Program} {f : FuncId} {args : Array Value} {w w' : World} {v : Value} (hw : Grows w w')
    (h : Calls P f args w' fun e w'' => e = .returned v ∧ w' = w'') : Calls P f args w' fun e w'' => e = .returned v ∧ Grows w w'' :=
  h.mono fun _ _ ⟨he, hb⟩ => ⟨he, hb ▸ hw⟩

attribute [go_sem] Grows.some Grows.all
end Go
