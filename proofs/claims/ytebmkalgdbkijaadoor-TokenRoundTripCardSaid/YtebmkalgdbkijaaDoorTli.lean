/- Tokens with separators between them are scanned back: plain lists. -/
import Derived.Test.YtebmkalgdbkijaaDoorTlh
namespace Go.Proofs.YtebmkalgdbkijaaDoor
open Go.RowKit
set_option linter.unusedVariables false

def sepT : List (List UInt8) := [[32], [10], [9, 13, 10], [32, 47, 42, 32, 120, 32, 42, 32, 47, 32, 42, 47, 32], [47, 47, 32, 121, 10], [32, 47, 42, 42, 47]]
/-- A separator: what it is for what follows. -/
def Sep (s : List UInt8) : Prop := (∀ D, skipL (s ++ D) = skipL D) ∧ (∀ z, Brk (s ++ z)) ∧ s.length ≤ 13 ∧ 1 ≤ s.length
theorem brk_cons {c : UInt8} {r : List UInt8} (h : idB c = false) (h1 : c ≠ 46) (h2 : c ≠ 94) : Brk (c :: r) := fun d t e => by injection e with e _; subst e; exact ⟨h, h1, h2⟩
theorem sep_is (s : List UInt8) (h : s ∈ sepT) : Sep s := by
  simp only [sepT, List.mem_cons, List.not_mem_nil, or_false] at h
  rcases h with rfl | rfl | rfl | rfl | rfl | rfl
  · exact ⟨fun D => skipL_blank rfl, fun z => brk_cons rfl (by decide) (by decide), by decide, by decide⟩
  · exact ⟨fun D => skipL_blank rfl, fun z => brk_cons rfl (by decide) (by decide), by decide, by decide⟩
  · exact ⟨fun D => (skipL_blank rfl).trans ((skipL_blank rfl).trans (skipL_blank rfl)), fun z => brk_cons rfl (by decide) (by decide), by decide, by decide⟩
  · refine ⟨fun D => ?_, fun z => brk_cons rfl (by decide) (by decide), by decide, by decide⟩
    show skipL (32 :: 47 :: 42 :: 32 :: 120 :: 32 :: 42 :: 32 :: 47 :: 32 :: 42 :: 47 :: 32 :: D) = skipL D
    rw [skipL_blank rfl, skipL_block (t := 32 :: D) rfl, skipL_blank rfl]
  · refine ⟨fun D => (skipL_line (32 :: 121 :: 10 :: D)).trans ?_, fun z => brk_cons rfl (by decide) (by decide), by decide, by decide⟩
    have e : (47 :: 47 :: 32 :: 121 :: 10 :: D : List UInt8).dropWhile (· != 10) = 10 :: D := rfl
    rw [e]
    exact skipL_blank rfl
  · refine ⟨fun D => ?_, fun z => brk_cons rfl (by decide) (by decide), by decide, by decide⟩
    show skipL (32 :: 47 :: 42 :: 42 :: 47 :: D) = skipL D
    rw [skipL_blank rfl, skipL_block (t := D) rfl]
/-- A list of valid tokens and separators. -/
def Good (L : List (TokI × List UInt8)) : Prop := ∀ x ∈ L, validT x.1 = true ∧ 0 ≤ x.1.num ∧ x.1.num ≤ 18446744073709551615 ∧ x.2 ∈ sepT
def pieceT (x : TokI × List UInt8) : List UInt8 := fmtT x.1 ++ x.2
def textG (L : List (TokI × List UInt8)) : List UInt8 := L.flatMap pieceT
/-- The item of a token. -/
def itT (t : TokI) : Nat × Nat × List UInt8 × Nat := (itemL (fmtT t)).getD (0, 0, [], 0)
def tokOf (t : TokI) (p : Nat) : Tok := ⟨(itT t).1, (itT t).2.1, (itT t).2.2.1, p⟩
def toksG : Nat → List (TokI × List UInt8) → List Tok
  | _, [] => []
  | p, x :: r => tokOf x.1 p :: toksG (p + (pieceT x).length) r
theorem itT_is {t : TokI} (ht : validT t = true) (h0 : 0 ≤ t.num) (h1 : t.num ≤ 18446744073709551615) : itemL (fmtT t) = some ((itT t).1, (itT t).2.1, (itT t).2.2.1, (fmtT t).length) ∧ Fst (fmtT t) ∧ ∀ p : Nat, bareT (tokOf t p).toI = bareT t := by
  obtain ⟨k, v, str, h, hf, hb⟩ := fmtT_item ht h0 h1
  have e : itT t = (k, v, str, (fmtT t).length) := by unfold itT; rw [h]; rfl
  rw [e]
  refine ⟨h, hf, fun p => ?_⟩
  unfold tokOf Tok.toI
  rw [e]
  exact hb p
theorem fst_skip {s : List UInt8} (h : Fst s) (y : List UInt8) : skipL (s ++ y) = (s ++ y, true) := by
  obtain ⟨c, r, rfl, h1, h2⟩ := h
  exact skipL_stop h1 (fun e => absurd e h2)
theorem scanG_same {s : List UInt8} {p p' : Nat} {acc : List Tok} (h : skipL (s.drop p) = skipL (s.drop p')) : scanG s p acc = scanG s p' acc := by
  unfold scanG
  rw [scanF, scanF, h]
theorem drop_more {s x y : List UInt8} {p : Nat} (h : s.drop p = x ++ y) : s.drop (p + x.length) = y := by
  rw [← List.drop_drop, h, List.drop_left]
theorem scan_toks (s : List UInt8) : ∀ (L : List (TokI × List UInt8)) (p : Nat) (acc : List Tok), Good L → s.drop p = textG L → p ≤ s.length → scanG s p acc = (acc ++ toksG p L, 0, 0)
  | [], p, acc, hg, hd, hp => by
    have hs : skipL (s.drop p) = ([], true) := by rw [hd]; rfl
    rw [scanG_done (by rw [hs]) (by rw [hs]), toksG, List.append_nil]
  | x :: r, p, acc, hg, hd, hp => by
    obtain ⟨h1, h2, h3, h4⟩ := hg x (by simp)
    obtain ⟨hi, hf, hb⟩ := itT_is h1 h2 h3
    obtain ⟨s1, s2, s3, s4⟩ := sep_is _ h4
    have hd' : s.drop p = fmtT x.1 ++ (x.2 ++ textG r) := by rw [hd, textG, List.flatMap_cons, pieceT, List.append_assoc]; rfl
    have hlen := congrArg List.length hd'
    rw [List.length_drop, List.length_append, List.length_append] at hlen
    have hfl : 1 ≤ (fmtT x.1).length := by obtain ⟨c, t, e, _⟩ := hf; rw [e]; simp
    have hsk : skipL (s.drop p) = (s.drop p, true) := by rw [hd']; exact fst_skip hf _
    have hit : itemL (s.drop p) = some ((itT x.1).1, (itT x.1).2.1, (itT x.1).2.2.1, (fmtT x.1).length) := by
      rw [hd']
      exact item_local (x := []) (by rw [List.append_nil]; exact hi) (Nat.le_refl _) (s2 _)
    rw [scanG_next (q := p) (Nat.le_refl _) (by rw [hsk, List.length_drop]; omega) (by rw [hsk]) (by rw [hsk]) (by omega) hit]
    have e1 := drop_more hd'
    have e2 : s.drop (p + (pieceT x).length) = textG r := by
      have := drop_more e1
      rw [← this, pieceT, List.length_append, Nat.add_assoc]
    rw [scanG_same (p' := p + (pieceT x).length) (by rw [e1, e2]; exact s1 _)]
    rw [scan_toks s r (p + (pieceT x).length) _ (fun y hy => hg y (by simp [hy])) e2 (by rw [pieceT, List.length_append]; omega), toksG, List.append_assoc]
    rfl
theorem toksG_len : ∀ (L : List (TokI × List UInt8)) (p : Nat), (toksG p L).length = L.length
  | [], p => rfl
  | x :: r, p => by rw [toksG, List.length_cons, toksG_len r, List.length_cons]
theorem toksG_bare : ∀ (L : List (TokI × List UInt8)) (p : Nat), Good L → (toksG p L).map (fun t => bareT t.toI) = L.map (fun x => bareT x.1)
  | [], p, _ => rfl
  | x :: r, p, hg => by
    obtain ⟨h1, h2, h3, h4⟩ := hg x (by simp)
    rw [toksG, List.map_cons, List.map_cons, (itT_is h1 h2 h3).2.2, toksG_bare r _ (fun y hy => hg y (by simp [hy]))]
/-- The place of a token. -/
def posG (L : List (TokI × List UInt8)) (i : Nat) : Nat := (textG (L.take i)).length
theorem posG_zero (L : List (TokI × List UInt8)) : posG L 0 = 0 := rfl
theorem posG_succ {L : List (TokI × List UInt8)} {i : Nat} (h : i < L.length) : posG L (i + 1) = posG L i + (pieceT L[i]).length := by
  unfold posG textG
  rw [List.take_succ_eq_append_getElem h, List.flatMap_append, List.length_append]
  simp
theorem toksG_at : ∀ (L : List (TokI × List UInt8)) (p i : Nat) (h : i < L.length) (h' : i < (toksG p L).length), (toksG p L)[i] = tokOf L[i].1 (p + posG L i)
  | x :: r, p, 0, _, _ => rfl
  | x :: r, p, i + 1, h, h' => by
    have := toksG_at r (p + (pieceT x).length) i (by simpa using h) (by rw [toksG_len]; simpa using h)
    simp only [toksG, List.getElem_cons_succ]
    rw [this]
    congr 1
    unfold posG textG
    rw [List.take_succ_cons, List.flatMap_cons, List.length_append]
    omega
theorem textG_cut {L : List (TokI × List UInt8)} {i : Nat} (h : i < L.length) : ((textG L).drop (posG L i)).take (pieceT L[i]).length = pieceT L[i] := by
  have e : textG L = textG (L.take i) ++ (pieceT L[i] ++ textG (L.drop (i + 1))) := by
    conv => lhs; rw [← List.take_append_drop i L, List.drop_eq_getElem_cons h]
    unfold textG
    rw [List.flatMap_append, List.flatMap_cons]
  unfold posG
  rw [e, List.drop_left, List.take_left]
theorem posG_le {L : List (TokI × List UInt8)} {i : Nat} : posG L i ≤ (textG L).length := by
  unfold posG
  conv => rhs; rw [← List.take_append_drop i L]
  unfold textG
  rw [List.flatMap_append, List.length_append]
  omega
theorem posG_all (L : List (TokI × List UInt8)) : posG L L.length = (textG L).length := by unfold posG; rw [List.take_length]
/-- A token alone, with its separator. -/
theorem scan_one {x : TokI × List UInt8} (h : Good [x]) (hl : (pieceT x).length ≤ 65536) : scanL (pieceT x) = ([tokOf x.1 0], 0, 0) := by
  rw [scanL_go (by omega), scan_toks (pieceT x) [x] 0 [] h (by unfold textG; simp) (by omega)]
  rfl
theorem fmtT_len {t : TokI} (ht : validT t = true) (h1 : t.num ≤ 18446744073709551615) (hs : t.str.length ≤ 255) : (fmtT t).length ≤ 1022 := by
  unfold fmtT
  split
  · omega
  · split
    · have := fmtI_len (v := t.num.toNat) (by omega); omega
    · split
      · have : ∀ k : Nat, k ≤ t.str.length → (quoK t.str k).length ≤ 4 * k + 1 := by
          intro k
          induction k with
          | zero => intro _; simp [quoK]
          | succ k ih =>
            intro h
            rw [quoK_succ (by omega), List.length_append]
            have := ih (by omega)
            have := quoC_len4 t.str[k]
            omega
        have := this t.str.length (Nat.le_refl _)
        unfold quoL
        rw [List.length_append]
        simp; omega
      · unfold punC
        repeat' split
        all_goals simp
theorem textG_len : ∀ (L : List (TokI × List UInt8)), Good L → (∀ x ∈ L, x.1.str.length ≤ 255 ∨ x.1.kind ≠ 1 ∧ x.1.kind ≠ 2 ∧ x.1.kind ≠ 4) → (textG L).length ≤ 1035 * L.length
  | [], _, _ => by simp [textG]
  | x :: r, hg, hs => by
    obtain ⟨h1, h2, h3, h4⟩ := hg x (by simp)
    have ih := textG_len r (fun y hy => hg y (by simp [hy])) (fun y hy => hs y (by simp [hy]))
    have hl : (fmtT x.1).length ≤ 1022 := by
      rcases hs x (by simp) with h | ⟨k1, k2, k4⟩
      · exact fmtT_len h1 h3 h
      · unfold fmtT
        rw [if_neg (by rintro (h | h); exact k1 h; exact k2 h)]
        by_cases k3 : x.1.kind = 3
        · rw [if_pos k3]
          have := fmtI_len (v := x.1.num.toNat) (by omega); omega
        · rw [if_neg k3, if_neg k4]
          unfold punC
          repeat' split
          all_goals simp
    have := (sep_is _ h4).2.2.1
    unfold textG at ih ⊢
    rw [List.flatMap_cons, List.length_append, pieceT, List.length_append, List.length_cons]
    omega
end Go.Proofs.YtebmkalgdbkijaaDoor
