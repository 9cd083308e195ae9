/- The text of Format is scanned back: plain lists. -/
import Derived.Test.YtebmkalgdbkijaaDoorTln
namespace Go.Proofs.YtebmkalgdbkijaaDoor
open Go.RowKit
set_option linter.unusedVariables false

def textS : List TokI → List UInt8
  | [] => []
  | [t] => fmtT t
  | t :: u :: r => fmtT t ++ (32 :: textS (u :: r))
theorem textS_snoc : ∀ (A : List TokI) (t : TokI), textS (A ++ [t]) = textS A ++ sepK A.length ++ fmtT t
  | [], t => by simp [textS, sepK]
  | [a], t => by simp [textS, sepK]
  | a :: b :: r, t => by
    have ih := textS_snoc (b :: r) t
    simp only [List.cons_append] at ih ⊢
    rw [textS, textS, ih]
    simp [sepK]
theorem textJ_is (L : List TokI) : ∀ k, k ≤ L.length → textJ L k = textS (L.take k)
  | 0, _ => by simp [textJ, textS]
  | k + 1, h => by
    rw [textJ_succ (by omega), textJ_is L k (by omega), List.take_succ_eq_append_getElem (by omega), textS_snoc, List.length_take, Nat.min_eq_left (by omega)]
def toksS : Nat → List TokI → List Tok
  | _, [] => []
  | p, t :: r => tokOf t p :: toksS (p + (fmtT t).length + 1) r
theorem toksS_len : ∀ (L : List TokI) (p : Nat), (toksS p L).length = L.length
  | [], p => rfl
  | x :: r, p => by rw [toksS, List.length_cons, toksS_len r, List.length_cons]
theorem toksS_bare : ∀ (L : List TokI) (p : Nat), (∀ t ∈ L, Fine t) → (toksS p L).map (fun t => bareT t.toI) = L.map bareT
  | [], p, _ => rfl
  | x :: r, p, hg => by
    obtain ⟨h1, ⟨h2, h3⟩, h4⟩ := hg x (by simp)
    rw [toksS, List.map_cons, List.map_cons, (itT_is h1 h2 h3).2.2, toksS_bare r _ (fun y hy => hg y (by simp [hy]))]
theorem scan_fmt (s : List UInt8) : ∀ (L : List TokI) (p : Nat) (acc : List Tok), (∀ t ∈ L, Fine t) → s.drop p = textS L → p ≤ s.length → scanG s p acc = (acc ++ toksS p L, 0, 0)
  | [], p, acc, hg, hd, hp => by
    have hs : skipL (s.drop p) = ([], true) := by rw [hd]; rfl
    rw [scanG_done (by rw [hs]) (by rw [hs]), toksS, List.append_nil]
  | [x], p, acc, hg, hd, hp => by
    obtain ⟨h1, ⟨h2, h3⟩, h4⟩ := hg x (by simp)
    obtain ⟨hi, hf, hb⟩ := itT_is h1 h2 h3
    have hd' : s.drop p = fmtT x ++ [] := by rw [hd, textS, List.append_nil]
    have hlen := congrArg List.length hd'
    rw [List.length_drop, List.length_append, List.length_nil] at hlen
    have hfl : 1 ≤ (fmtT x).length := by obtain ⟨c, t, e, _⟩ := hf; rw [e]; simp
    have hsk : skipL (s.drop p) = (s.drop p, true) := by rw [hd']; exact fst_skip hf _
    have hit : itemL (s.drop p) = some ((itT x).1, (itT x).2.1, (itT x).2.2.1, (fmtT x).length) := by
      rw [hd', List.append_nil]
      exact hi
    rw [scanG_next (q := p) (Nat.le_refl _) (by rw [hsk, List.length_drop]; omega) (by rw [hsk]) (by rw [hsk]) (by omega) hit]
    have e1 := drop_more hd'
    have hs : skipL (s.drop (p + (fmtT x).length)) = ([], true) := by rw [e1]; rfl
    rw [scanG_done (by rw [hs]) (by rw [hs]), toksS, toksS]
    rfl
  | x :: y :: r, p, acc, hg, hd, hp => by
    obtain ⟨h1, ⟨h2, h3⟩, h4⟩ := hg x (by simp)
    obtain ⟨hi, hf, hb⟩ := itT_is h1 h2 h3
    have hd' : s.drop p = fmtT x ++ (32 :: textS (y :: r)) := by rw [hd, textS]
    have hlen := congrArg List.length hd'
    rw [List.length_drop, List.length_append, List.length_cons] at hlen
    have hfl : 1 ≤ (fmtT x).length := by obtain ⟨c, t, e, _⟩ := hf; rw [e]; simp
    have hsk : skipL (s.drop p) = (s.drop p, true) := by rw [hd']; exact fst_skip hf _
    have hit : itemL (s.drop p) = some ((itT x).1, (itT x).2.1, (itT x).2.2.1, (fmtT x).length) := by
      rw [hd']
      exact item_local (x := []) (by rw [List.append_nil]; exact hi) (Nat.le_refl _) (brk_cons rfl (by decide) (by decide))
    rw [scanG_next (q := p) (Nat.le_refl _) (by rw [hsk, List.length_drop]; omega) (by rw [hsk]) (by rw [hsk]) (by omega) hit]
    have e1 := drop_more hd'
    have e2 : s.drop (p + (fmtT x).length + 1) = textS (y :: r) := by
      rw [← List.drop_drop, e1]; rfl
    rw [scanG_same (p' := p + (fmtT x).length + 1) (by rw [e1, e2]; exact skipL_blank rfl)]
    rw [scan_fmt s (y :: r) (p + (fmtT x).length + 1) _ (fun z hz => hg z (by simp only [List.mem_cons] at hz ⊢; exact .inr hz)) e2 (by omega), toksS, List.append_assoc]
    rfl
/-- The valid ones of the first k. -/
def validK (M : List TokI) (k : Nat) : List TokI := (M.take k).filter validT
theorem validK_yes {M : List TokI} {k : Nat} (h : k < M.length) (hv : validT M[k] = true) : validK M (k + 1) = validK M k ++ [M[k]] := by
  unfold validK; rw [List.take_succ_eq_append_getElem h, List.filter_append]; simp [hv]
theorem validK_no {M : List TokI} {k : Nat} (h : k < M.length) (hv : validT M[k] = false) : validK M (k + 1) = validK M k := by
  unfold validK; rw [List.take_succ_eq_append_getElem h, List.filter_append]; simp [hv]
theorem validK_len (M : List TokI) (k : Nat) : (validK M k).length ≤ M.length := Nat.le_trans (List.length_filter_le _ _) (by rw [List.length_take]; omega)
theorem validK_fine {M : List TokI} (h1 : ∀ t ∈ M, NumI t ∧ Shrt t) (h2 : ∀ t ∈ M, t.str.length ≤ 9223372036854770000) (k : Nat) : ∀ t ∈ validK M k, Fine t := by
  intro t ht
  obtain ⟨hm, hv⟩ := List.mem_filter.1 ht
  have hm' := List.mem_of_mem_take hm
  exact ⟨hv, (h1 t hm').1, (h1 t hm').2, h2 t hm'⟩
theorem scan_format {L : List TokI} (h : ∀ t ∈ L, Fine t) (hl : L.length ≤ 40) : scanL (textJ L L.length) = (toksS 0 L, 0, 0) ∧ (textJ L L.length).length ≤ 41000 := by
  have := textJ_len h L.length (Nat.le_refl _)
  refine ⟨?_, by omega⟩
  rw [scanL_go (by omega), scan_fmt _ L 0 [] h (by rw [List.drop_zero, textJ_is L _ (Nat.le_refl _), List.take_length]) (by omega)]
  rfl
end Go.Proofs.YtebmkalgdbkijaaDoor
