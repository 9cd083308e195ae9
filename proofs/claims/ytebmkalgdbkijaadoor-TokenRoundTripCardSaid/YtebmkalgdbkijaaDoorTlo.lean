/- Tokens of a list: small laws. -/
import Derived.Test.YtebmkalgdbkijaaDoorTle
import Derived.Test.YtebmkalgdbkijaaDoorTli
namespace Go.Proofs.YtebmkalgdbkijaaDoor
open Go.RowKit
set_option linter.unusedVariables false

/-- Whose text is short. -/
def Shrt (t : TokI) : Prop := t.str.length ≤ 255 ∨ t.kind ≠ 1 ∧ t.kind ≠ 2 ∧ t.kind ≠ 4
def NumI (t : TokI) : Prop := 0 ≤ t.num ∧ t.num ≤ 18446744073709551615
theorem names_len (L : List (List UInt8)) (h : ∀ x ∈ L, x.length ≤ 255) (j : Nat) : (L.getD j []).length ≤ 255 := by
  by_cases hj : j < L.length
  · have : L.getD j [] = L[j] := by simp [List.getD, hj]
    rw [this]; exact h _ (List.getElem_mem hj)
  · have : L.getD j [] = [] := by simp [List.getD, List.getElem?_eq_none (show L.length ≤ j by omega)]
    rw [this]; simp
theorem num0 {k : Int} {s : List UInt8} {p : Int} : NumI ⟨k, 0, s, p⟩ := ⟨Int.le_refl 0, show (0 : Int) ≤ 18446744073709551615 by decide⟩
theorem someT_ok (t : TokI) (h : NumI t) : NumI (someT t) ∧ Shrt (someT t) := by
  unfold someT
  split
  · exact ⟨num0, .inl (names_len _ (by decide) _)⟩
  · next m0 =>
    split
    · exact ⟨num0, .inl (names_len _ (by decide) _)⟩
    · next m1 =>
      split
      · exact ⟨h, .inl (by simp)⟩
      · next m2 =>
        split
        · exact ⟨num0, .inl (by simp only [List.length_take]; omega)⟩
        · next m3 =>
          split
          · exact ⟨num0, .inl (by simp)⟩
          · next m4 =>
            refine ⟨h, .inr ⟨?_, ?_, ?_⟩⟩
            · intro e; rw [e] at m1; exact m1 (by decide)
            · intro e; rw [e] at m2; exact m2 (by decide)
            · intro e; rw [e] at m4; exact m4 (by decide)
theorem ToksI.room {w : World} {B : Nat} {v : Value} {l : List TokI} (h : ToksI w B v l) : ∃ a c, v = .slice a l.length c ∧ l.length ≤ c := by
  rcases h.2 with ⟨rfl, h0⟩ | ⟨g, cap, cur, rfl, hb, hg, hn, _⟩
  · exact ⟨none, 0, by rw [h0], by omega⟩
  · exact ⟨_, cap, rfl, hn⟩
theorem TSl.at {w : World} {a : Option Addr} {n c : Nat} {l : List TokI} (h : TSl w (.slice a n c) l) (i : Nat) (hi : i < l.length) : ∃ b off, a = some ⟨b, off, none⟩ ∧ TAt w b (off + i * 4) l[i] := by
  obtain ⟨a', cap', hv, hc⟩ := h
  injection hv with e1 _ _
  subst e1
  obtain ⟨b, off, e, hk⟩ := hc (by rintro rfl; simp at hi)
  exact ⟨b, off, e, hk i hi⟩
theorem TSl.single {w : World} {b off cap : Nat} {t : TokI} (h : TAt w b off t) : TSl w (.slice (some ⟨b, off, none⟩) 1 cap) [t] :=
  ⟨_, _, rfl, fun _ => ⟨b, off, rfl, fun i hi => by have : i = 0 := by simp at hi; omega
                                                    subst this; simpa using h⟩⟩
end Go.Proofs.YtebmkalgdbkijaaDoor
