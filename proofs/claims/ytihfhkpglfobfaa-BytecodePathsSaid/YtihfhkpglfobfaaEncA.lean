/- An encoded path is decoded to itself: the plain law. -/
import Derived.Test.YtihfhkpglfobfaaApath
import Derived.Test.YtihfhkpglfobfaaRsegA
import Derived.Test.YtihfhkpglfobfaaIncA
namespace Go.Proofs.Ytihfhkpglfobfaa
open Go.RowKit

theorem upDB_ne {c : UInt8} (h : upDB c = true) : (c == 0) = false := by
  rw [beq_eq_false_iff_ne]
  rintro rfl
  rw [upDB_zero] at h; cases h
theorem pad_len {x : List UInt8} (h1 : 1 ≤ x.length) (h4 : x.length ≤ 4) : (pad4 x).length = 4 := by
  unfold pad4; rw [List.length_append, List.length_take]; simp; omega
theorem rdSeg_pad (x y : List UInt8) (h : segB x = true) : rdSeg (pad4 x ++ y) = (x, 0) := by
  rw [← refSeg_eq]
  obtain ⟨h1, h4⟩ := segB_size h
  have hl : 4 ≤ (pad4 x ++ y).length := by rw [List.length_append, pad_len h1 h4]; omega
  rw [refSeg, if_pos hl]
  match x, h1, h4, h with
  | [a], _, _, h =>
    rw [segB_eq] at h
    simp at h
    simp [pad4, findB, hitB, segB_eq, h]
  | [a, b], _, _, h =>
    rw [segB_eq] at h
    simp at h
    have hb := upDB_ne h.2
    simp [pad4, findB, hitB, segB_eq, h]
    simp at hb
    simp [hb]
  | [a, b, c], _, _, h =>
    rw [segB_eq] at h
    simp at h
    have hb := upDB_ne h.2.1
    have hc := upDB_ne h.2.2
    simp at hb hc
    simp [pad4, findB, hitB, segB_eq, h, hb, hc]
  | [a, b, c, d], _, _, h =>
    rw [segB_eq] at h
    simp at h
    have hb := upDB_ne h.2.1
    have hc := upDB_ne h.2.2.1
    have hd := upDB_ne h.2.2.2
    simp at hb hc hd
    simp [pad4, findB, hitB, segB_eq, h, hb, hc, hd]
  | a :: b :: c :: d :: e :: r, _, h4, _ => simp at h4
theorem segsGo_enc (s t : List UInt8) : ∀ (l : List (List UInt8)) (p : Nat) (acc : List (List UInt8)), (∀ x ∈ l, segB x = true) → s.drop p = l.flatMap pad4 ++ t → segsGo s l.length p acc = (acc ++ l, p + 4 * l.length, 0)
  | [], p, acc, _, _ => by simp [segsGo]
  | x :: r, p, acc, h, hd => by
    have hx := h x (by simp)
    obtain ⟨h1, h4⟩ := segB_size hx
    rw [List.flatMap_cons, List.append_assoc] at hd
    have hs : rdSeg (s.drop p) = (x, 0) := by rw [hd]; exact rdSeg_pad _ _ hx
    rw [List.length_cons, segsGo_ok hs]
    have hd2 : s.drop (p + 4) = r.flatMap pad4 ++ t := by
      rw [← List.drop_drop, hd, List.drop_append_of_le_length (by rw [pad_len h1 h4]; omega), List.drop_eq_nil_of_le (by rw [pad_len h1 h4]; omega), List.nil_append]
    rw [segsGo_enc s t r (p + 4) (acc ++ [x]) (fun y hy => h y (by simp [hy])) hd2]
    simp; omega
theorem upB_hd {x : List UInt8} (h : segB x = true) : ∃ c r, x = c :: r ∧ upB c = true := by
  match x, h with
  | c :: r, h => rw [segB_eq] at h; simp at h; exact ⟨c, r, rfl, h.1.2⟩
/-- What stands behind the prefix begins with neither of its bytes. -/
theorem rest_hd (l : List (List UInt8)) (t : List UInt8) (h : ∀ x ∈ l, segB x = true) : ∃ c r, cntBytes l.length ++ (l.flatMap pad4 ++ t) = c :: r ∧ c.toNat ≠ 92 ∧ c.toNat ≠ 94 := by
  match l, h with
  | [], _ => exact ⟨0, t, rfl, by decide, by decide⟩
  | [x], h =>
    obtain ⟨c, r, rfl, hc⟩ := upB_hd (h x (by simp))
    unfold upB segOk at hc
    have := of_decide_eq_true hc
    exact ⟨c, _, rfl, by omega, by omega⟩
  | [x, y], h => exact ⟨46, _, rfl, by decide, by decide⟩
  | x :: y :: z :: r, h => exact ⟨47, _, rfl, by decide, by decide⟩
theorem carets_rep (u : Nat) (c : UInt8) (r : List UInt8) (h : c.toNat ≠ 94) : carets (List.replicate u 94 ++ (c :: r)) = u := by
  induction u with
  | zero => simp [carets, h]
  | succ n ih =>
    rw [List.replicate_succ, List.cons_append, carets, ih, if_pos (by decide)]
theorem rdCnt_enc (l : List (List UInt8)) (t : List UInt8) (up pos : Nat) (h : ∀ x ∈ l, segB x = true) (hn : l.length + up ≤ 32) (hp : l.length = 0 → 0 < pos) :
    rdCnt (cntBytes l.length ++ (l.flatMap pad4 ++ t)) (32 - up) (decide (0 < pos)) = ((l.length : Int), ((cntBytes l.length).length : Int), 0) := by
  match l, h, hn, hp with
  | [], _, _, hp =>
    show rdCnt (0 :: t) _ _ = _
    rw [rdCnt, if_pos (by decide), if_pos (by simpa using hp rfl)]; rfl
  | [x], h, hn, _ =>
    obtain ⟨c, r, rfl, hc⟩ := upB_hd (h x (by simp))
    unfold upB segOk at hc
    have hc' := of_decide_eq_true hc
    have e : cntBytes [c :: r].length ++ ([c :: r].flatMap pad4 ++ t) = c :: (r ++ (List.take (4 - (c :: r).length) [0, 0, 0] ++ ([] ++ t))) := by simp [cntBytes, pad4]
    rw [e, rdCnt, if_neg (by omega), if_neg (by omega), if_neg (by omega), if_neg (by simp at hn; omega)]; rfl
  | [x, y], h, hn, _ =>
    show rdCnt (46 :: _) _ _ = _
    rw [rdCnt, if_neg (by decide), if_pos (by decide), if_neg (by simp at hn; omega)]; rfl
  | x :: y :: z :: r, h, hn, _ =>
    have hl : (x :: y :: z :: r).length ≤ 32 := by omega
    have h3 : 3 ≤ (x :: y :: z :: r).length := by simp
    generalize hq : (x :: y :: z :: r) = q at *
    have hc : cntBytes q.length = [47, UInt8.ofNat q.length] := by
      rw [cntBytes, if_neg (by omega), if_neg (by omega), if_pos (by omega)]
      show 47 :: [UInt8.ofNat (q.length % 256)] = _
      rw [Nat.mod_eq_of_lt (by omega)]
    have ht : (UInt8.ofNat q.length).toNat = q.length := by rw [UInt8.toNat_ofNat']; omega
    rw [hc]
    show rdCnt (47 :: UInt8.ofNat q.length :: _) _ _ = _
    rw [rdCnt_many _ _ _ (by omega), rdMany, ht, if_neg (by omega), if_neg (by omega)]; rfl
theorem rdPath_enc (root : Bool) (up : Nat) (l : List (List UInt8)) (t : List UInt8) (hv : validB root up l = true) : rdPath (encPath root up l ++ t) = ⟨root, up, l, (encPath root up l).length, 0⟩ := by
  unfold validB preB at hv
  rw [Bool.and_eq_true, decide_eq_true_eq, List.all_eq_true] at hv
  obtain ⟨⟨h0, h32, hr, hn, hne⟩, hall⟩ := hv
  have hall' : ∀ x ∈ l, segB x = true := hall
  obtain ⟨c, r, hcr, c92, c94⟩ := rest_hd l t hall'
  have hpre : ∀ (pos : Nat) (s : List UInt8), s.drop pos = cntBytes l.length ++ (l.flatMap pad4 ++ t) → pos ≤ s.length → (l.length = 0 → 0 < pos) → pathRest s root up pos = ⟨root, up, l, pos + (cntBytes l.length).length + 4 * l.length, 0⟩ := by
    intro pos s hd hps hz
    have h1 := rdCnt_enc l t up pos hall' (by omega) hz
    rw [← hd] at h1
    rw [rest_ok (by omega) h1]
    have h2 := segsGo_enc s t l (pos + (cntBytes l.length).length) [] hall' (by rw [← List.drop_drop, hd, List.drop_append_of_le_length (Nat.le_refl _), List.drop_length, List.nil_append])
    rw [Int.toNat_natCast, Int.toNat_natCast, h2]
    simp
  have hlen : (l.flatMap pad4).length = 4 * l.length := by
    clear hcr hpre hn hne
    induction l with
    | nil => rfl
    | cons x q ih =>
      obtain ⟨h1, h4⟩ := segB_size (hall' x (by simp))
      rw [List.flatMap_cons, List.length_append, pad_len h1 h4, ih (fun y hy => hall y (by simp [hy])) (fun y hy => hall' y (by simp [hy])), List.length_cons]; omega
  cases root with
  | true =>
    have hu : up = 0 := by have := hr rfl; omega
    subst hu
    have e : encPath true 0 l ++ t = 92 :: (cntBytes l.length ++ (l.flatMap pad4 ++ t)) := by simp [encPath, headBytes]
    have e2 : (encPath true 0 l).length = 1 + (cntBytes l.length).length + 4 * l.length := by simp [encPath, headBytes, hlen]; omega
    rw [e2, e]
    rw [rdPath, if_pos (show rootOf (92 :: (cntBytes l.length ++ (l.flatMap pad4 ++ t))) = true from rfl)]
    exact hpre 1 _ rfl (by simp) (fun _ => by omega)
  | false =>
    have e : encPath false up l ++ t = List.replicate up 94 ++ (cntBytes l.length ++ (l.flatMap pad4 ++ t)) := by simp [encPath, headBytes]
    have e2 : (encPath false up l).length = up + (cntBytes l.length).length + 4 * l.length := by simp [encPath, headBytes, hlen]; omega
    rw [e2, e]
    have hrt : rootOf (List.replicate up 94 ++ (cntBytes l.length ++ (l.flatMap pad4 ++ t))) = false := by
      rw [hcr]
      cases up with
      | zero => show (c == 92) = false; rw [beq_eq_false_iff_ne]; rintro rfl; exact c92 rfl
      | succ n => rfl
    have hca : carets (List.replicate up 94 ++ (cntBytes l.length ++ (l.flatMap pad4 ++ t))) = up := by rw [hcr]; exact carets_rep up c r c94
    rw [rdPath, hrt, hca, if_neg (by decide)]
    refine hpre up _ ?_ (by simp) (fun h => ?_)
    · rw [List.drop_append_of_le_length (by simp), List.drop_eq_nil_of_le (by simp), List.nil_append]
    · rcases hne with hx | hx | hx
      · cases hx
      · omega
      · omega
end Go.Proofs.Ytihfhkpglfobfaa
