/- Fd Hb -/
import Derived.Test.YtnicnfchkdmieaaGreatDoorZk
import Derived.Test.YtnicnfchkdmieaaGreatDoorZn
import Derived.Test.YtnicnfchkdmieaaGreatDoorZm
import Derived.Test.YtnicnfchkdmieaaGreatDoorZw
set_option linter.unusedVariables false
set_option linter.unusedSimpArgs false
namespace Go.Proofs.YtnicnfchkdmieaaGreatDoor
section
open Go.RowKit
def BM (T : List TokI) (L : PT) : Prop := T.map bareT = L.map fun x => bareT x.2
theorem BM.app {T : List TokI} {A B : PT} (h : BM T (A ++ B)) : ∃ T1 T2, T = T1 ++ T2 ∧ BM T1 A ∧ BM T2 B := by
 unfold BM at h
 rw [List.map_append] at h
 obtain ⟨T1, T2, e, h1, h2⟩ := List.map_eq_append_iff.1 h
 exact ⟨T1, T2, e, h1, h2⟩
theorem BM.cons {T : List TokI} {x : List UInt8 × TokI} {B : PT} (h : BM T (x :: B)) : ∃ t T', T = t :: T' ∧ bareT t = bareT x.2 ∧ BM T' B := by
 cases T with
 | nil => cases h
 | cons t T' =>
   unfold BM at h
   rw [List.map_cons, List.map_cons] at h
   injection h with h1 h2
   exact ⟨t, T', rfl, h1, h2⟩
theorem BM.nil {T : List TokI} (h : BM T []) : T = [] := by
 cases T with
 | nil => rfl
 | cons t T' => cases h
theorem BM.one {T : List TokI} {x : List UInt8 × TokI} (h : BM T [x]) : ∃ t, T = [t] ∧ bareT t = bareT x.2 := by
 obtain ⟨t, T', rfl, h1, h2⟩ := h.cons
 exact ⟨t, by rw [h2.nil], h1⟩
theorem bareT_kind (t : TokI) : (bareT t).kind = t.kind := by
 unfold bareT
 split
 ·rfl
 ·split <;> rfl
theorem bare_kind {t u : TokI} (h : bareT t = bareT u) : t.kind = u.kind := by
 have := congrArg TokI.kind h
 rwa [bareT_kind, bareT_kind] at this
theorem bare_str {t u : TokI} (h : bareT t = bareT u) (hk : u.kind = 1 ∨ u.kind = 2 ∨ u.kind = 4) : t.str = u.str := by
 have hk' : t.kind = 1 ∨ t.kind = 2 ∨ t.kind = 4 := by rw [bare_kind h]; exact hk
 unfold bareT at h
 rw [if_pos hk, if_pos hk'] at h
 injection h
section
variable (p : List Nd) (d : Nat)
end
end
section
open Go.RowKit
attribute [local go_sem] ByteArray.mk_append_mk bs_get bs_cut bs_end
def TV (t : TokI) : Prop := OkT t ∧ t.str.length ≤ 65536
theorem itT_num {t : TokI} (h : OkT t) : (itT t).2.1 ≤ 18446744073709551615 := by
 obtain ⟨ht, h0, h1⟩ := h
 obtain ⟨k, n, s, p⟩ := t
 simp only at h0 h1
 have key : ∀ k' v str len, itemL (fmtT ⟨k, n, s, p⟩) = some (k', v, str, len) → v ≤ 18446744073709551615 → (itT ⟨k, n, s, p⟩).2.1 ≤ 18446744073709551615 := by
  intro k' v str len h hv
  unfold itT
  rw [h]
  exact hv
 unfold validT at ht
 simp only at ht
 by_cases e1 : k = 1
 ·subst e1; have hs : nmB s = true := by simpa using ht
  unfold fmtT at key; exact key 1 0 s s.length (name_item hs).1 (by omega)
 rw [if_neg e1] at ht
 by_cases e2 : k = 2
 ·subst e2; have hs : kwB s = true := by simpa using ht
  unfold fmtT at key; exact key 2 0 s s.length (word_item hs).1 (by omega)
 rw [if_neg e2] at ht
 by_cases e4 : k = 4
 ·subst e4; exact key 4 0 s _ (quo_item (by simpa using ht)).1 (by omega)
 rw [if_neg e4, decide_eq_true_eq] at ht
 by_cases e3 : k = 3
 ·subst e3
  obtain ⟨N, rfl⟩ := Int.eq_ofNat_of_zero_le h0
  refine key 3 N [] (fmtI N).length ?_ (by omega)
  have := (fmtI_item N (by omega)).1
  unfold fmtT
  simp only [Int.toNat_natCast]
  exact this
 rcases (by omega : k = 5 ∨ k = 6 ∨ k = 7 ∨ k = 8 ∨ k = 9) with rfl | rfl | rfl | rfl | rfl
 ·exact key 5 0 [] 1 rfl (by omega)
 ·exact key 6 0 [] 1 rfl (by omega)
 ·exact key 7 0 [] 1 rfl (by omega)
 ·exact key 8 0 [] 1 rfl (by omega)
 ·exact key 9 0 [] 1 rfl (by omega)
theorem okT_bare {t u : TokI} (h : bareT t = bareT u) (hu : OkT u) (h0 : 0 ≤ t.num ∧ t.num ≤ 18446744073709551615) : OkT t := by
 refine ⟨?_, h0⟩
 have hk := bare_kind h
 have hv := hu.1
 unfold validT at hv ⊢
 rw [hk]
 by_cases h3 : u.kind = 1 ∨ u.kind = 2 ∨ u.kind = 4
 ·rw [bare_str h h3]; exact hv
 ·rw [if_neg (by omega), if_neg (by omega), if_neg (by omega)] at hv ⊢
  exact hv
theorem toksP_ok : ∀ (L : PT) (p : Nat), (∀ x ∈ L, OkT x.2) → ∀ t ∈ (toksP p L).map Tok.toI, OkT t
 | [], p, h, t, ht => by cases ht
 | x :: r, p, h, t, ht => by
   rw [toksP, List.map_cons] at ht
   rcases List.mem_cons.1 ht with rfl | ht
   ·have hx := h x (by simp)
    refine okT_bare ((itT_is hx.1 hx.2.1 hx.2.2).2.2 _) hx ⟨?_, ?_⟩
    ·show (0 : Int) ≤ (((itT x.2).2.1 : Nat) : Int); omega
    ·show (((itT x.2).2.1 : Nat) : Int) ≤ _
     have := itT_num hx
     omega
   ·exact toksP_ok r _ (fun y hy => h y (by simp [hy])) t ht
theorem scan_tv (p : List Nd) (hp : NumsOk p) (hv : validL p = true) : ∀ t ∈ (scanL (fmtP p)).1.map Tok.toI, TV t := by
 intro t ht
 have h2 : t.str.length ≤ 65536 := by
  obtain ⟨x, hx, rfl⟩ := List.mem_map.1 ht
  exact (scanL_ok (fmtP p) x hx).1
 refine ⟨?_, h2⟩
 by_cases hl : (fmtP p).length ≤ 65536
 ·rw [fmt_scan p hp hv hl] at ht
  exact toksP_ok _ 0 (top_ok p hp hv) t ht
 ·unfold scanL at ht
  rw [if_pos (by omega)] at ht
  cases ht
abbrev mutO : Obj := .cells #[.int .i64 1, .int .u64 0, .string ⟨#[65]⟩, .int .i64 0, .int .i64 2, .int .u64 0, .string ⟨#[69, 108, 115, 101]⟩, .int .i64 0, .int .i64 2, .int .u64 0, .string ⟨#[76, 111, 99, 97, 108, 49]⟩, .int .i64 0, .int .i64 3, .int .u64 3, .string ⟨#[]⟩, .int .i64 0, .int .i64 4, .int .u64 0, .string ⟨#[115]⟩, .int .i64 0, .int .i64 5, .int .u64 0, .string ⟨#[]⟩, .int .i64 0, .int .i64 6, .int .u64 0, .string ⟨#[]⟩, .int .i64 0, .int .i64 7, .int .u64 0, .string ⟨#[]⟩, .int .i64 0, .int .i64 8, .int .u64 0, .string ⟨#[]⟩, .int .i64 0, .int .i64 9, .int .u64 0, .string ⟨#[]⟩, .int .i64 0, .int .i64 2, .int .u64 0, .string ⟨#[66, 114, 101, 97, 107]⟩, .int .i64 0] 37
def mutT : List TokI := [⟨1, 0, [65], 0⟩, ⟨2, 0, [69, 108, 115, 101], 0⟩, ⟨2, 0, [76, 111, 99, 97, 108, 49], 0⟩, ⟨3, 3, [], 0⟩, ⟨4, 0, [115], 0⟩, ⟨5, 0, [], 0⟩, ⟨6, 0, [], 0⟩, ⟨7, 0, [], 0⟩, ⟨8, 0, [], 0⟩, ⟨9, 0, [], 0⟩, ⟨2, 0, [66, 114, 101, 97, 107], 0⟩]
theorem mut_tv : ∀ t ∈ mutT, TV t := by
 have h : ∀ t ∈ mutT, validT t = true ∧ 0 ≤ t.num ∧ t.num ≤ 18446744073709551615 ∧ t.str.length ≤ 65536 := by decide +kernel
 intro t ht
 obtain ⟨a, b, c, d⟩ := h t ht
 exact ⟨⟨a, b, c⟩, d⟩
theorem mut_cell {w : World} {A : Nat} (h : w.heap[A]? = some mutO) (k : Nat) (hk : k < 11) : ∃ t, TV t ∧ TAtK w A (k * 4) t := by
 obtain ⟨t, ht⟩ : ∃ t, mutT[k]'(by simpa [mutT] using hk) = t := ⟨_, rfl⟩
 refine ⟨t, mut_tv t (by rw [← ht]; exact List.getElem_mem _), ?_⟩
 have hh : w.heap[A]? = some (.cells (tcK mutT).toArray 37) := h
 obtain ⟨k0, k1, k2, k3⟩ := tcK_at mutT k (by simpa [mutT] using hk)
 rw [ht] at k0 k1 k2 k3
 refine ⟨?_, ?_, ?_, ?_⟩
 ·rw [cell_of_row w A _ _ _ (0, 0) hh]; simpa using k0
 ·rw [cell_of_row w A _ _ _ (0, 0) hh]; simpa using k1
 ·rw [cell_of_row w A _ _ _ (0, 0) hh]; simpa using k2
 ·rw [cell_of_row w A _ _ _ (0, 0) hh]; simpa using k3
theorem tcK_len : ∀ l : List TokI, (tcK l).length = l.length * 4
 | [] => rfl
 | t :: r => by rw [tcK, List.length_cons, List.length_cons, List.length_cons, List.length_cons, List.length_cons, tcK_len r]; omega
theorem tcK_one : ∀ (l : List TokI) (u : Value), u ∈ tcK l → u.oneCell' = true
 | [], u, h => by cases h
 | t :: r, u, h => by
   simp only [tcK, List.mem_cons] at h
   rcases h with rfl | rfl | rfl | rfl | h
   ·rfl
   ·rfl
   ·rfl
   ·rfl
   ·exact tcK_one r u h
theorem wpList_append_tl {w : World} {ops : Array Oper} {rest : List Oper} {o : Oper} {a : Act} {Q : Exit → Act → World → Prop} (hgd : o.guard = none) (s x : Operand)
 (ho : o.op = .call { callee := .builtin .append, args := #[s, x], argTypes := #[28, 28] })
 (B : Nat) (v : Value) (l1 : List TokI) (hs : a.eval s = v) (hown : ToksI w B v l1) (ad : Addr) (m cap : Nat) (l2 : List TokI) (hx : a.eval x = .slice (some ad) m cap)
 (hm : m = l2.length) (hc : ∀ j z, (tcK l2)[j]? = some z → w.cell? (ad.add j) = some z) (hlen : l1.length + l2.length ≤ 1000000) (hB : B ≤ w.heap.size)
 (h : ∀ v' w', ToksI w' B v' (l1 ++ l2) → w.grownBy w' v.ownBlock → wpList Tryz.prog ops Q rest (a.put o.dst v') w') : wpList Tryz.prog ops Q (o :: rest) a w := by
 obtain ⟨i0, hi, hz0, hz1, hz2⟩ := info_parts infoTok
 subst hm
 refine wpList_append_own _ hgd s x _ ho B 37 i0 _ 4 40 Tryz.underlying28 hi hz0 hz1 hz2 rfl (by decide) v l1.length _ hs hown ad l2.length cap (tcK l2) hx (by rw [tcK_len]) hc (fun z hz => tcK_one l2 z hz) (by unfold maxLen; omega) (by omega) hB ?_
 intro v' w' h1 h2 _
 refine h v' w' ?_ h2
 unfold ToksI
 rw [List.length_append, tcK_app]
 exact h1
theorem ToksI.part {w : World} {B g n c : Nat} {A C D : List TokI} (h : ToksI w B (.slice (some ⟨g, 0, none⟩) n c) (A ++ (C ++ D))) : ∀ j z, (tcK C)[j]? = some z → w.cell? ((⟨g, A.length * 4, none⟩ : Addr).add j) = some z := by
 intro j z hj
 obtain rfl : n = (A ++ (C ++ D)).length := by
  obtain ⟨a, c', e⟩ := h.form
  injection e
 have hjl : j < C.length * 4 := by
  rcases Nat.lt_or_ge j (C.length * 4) with h | h
  ·exact h
  ·rw [List.getElem?_eq_none (by rw [tcK_len]; omega)] at hj; cases hj
 have e : ∀ k, (⟨g, A.length * 4, none⟩ : Addr).add k = ⟨g, A.length * 4 + k, none⟩ := fun k => by by_cases h : k = 0 <;> simp [Addr.add, h]
 rw [e, World.ownsRow.cellAt h _ (by rw [List.length_append, List.length_append]; omega), tcK_app, tcK_app, List.getElem?_append_right (by rw [tcK_len]; omega), tcK_len, show A.length * 4 + j - A.length * 4 = j by omega, List.getElem?_append_left (by rw [tcK_len]; exact hjl)]
 exact hj
theorem ToksI.cap {w : World} {B n c : Nat} {a : Option Addr} {l : List TokI} (h : ToksI w B (.slice a n c) l) : n ≤ c := by
 rcases h.2 with ⟨hv, h0⟩ | ⟨g, cap, cur, hv, hb, hg, hn, _⟩
 ·injection hv with _ e2 e3; omega
 ·injection hv with _ e2 e3; omega
theorem part_one {w : World} {g : Nat} {t : TokI} (h : w.heap[g]? = some (tObj t.kind t.num t.str t.pos)) : ∀ j z, (tcK [t])[j]? = some z → w.cell? ((⟨g, 0, none⟩ : Addr).add j) = some z := by
 obtain ⟨c0, c1, c2, c3⟩ := cells4 h
 intro j z hj
 match j, hj with
 | 0, hj => cases hj; exact c0
 | 1, hj => cases hj; exact c1
 | 2, hj => cases hj; exact c2
 | 3, hj => cases hj; exact c3
theorem wpList_append_part {w : World} {ops : Array Oper} {rest : List Oper} {o : Oper} {a : Act} {Q : Exit → Act → World → Prop} (hgd : o.guard = none) (s x : Operand)
 (ho : o.op = .call { callee := .builtin .append, args := #[s, x], argTypes := #[28, 28] })
 (B : Nat) (v : Value) (l1 : List TokI) (hs : a.eval s = v) (hown : ToksI w B v l1) (B2 g n c k : Nat) (P C D : List TokI) (hsrc : ToksI w B2 (.slice (some ⟨g, 0, none⟩) n c) (P ++ (C ++ D))) (hk : P.length = k)
 (ad : Addr) (m cap : Nat) (hx : a.eval x = .slice (some ad) m cap) (had : C ≠ [] → ad = ⟨g, k * 4, none⟩)
 (hm : m = C.length) (hlen : l1.length + C.length ≤ 1000000) (hB : B ≤ w.heap.size)
 (h : ∀ v' w', ToksI w' B v' (l1 ++ C) → w.grownBy w' v.ownBlock → wpList Tryz.prog ops Q rest (a.put o.dst v') w') : wpList Tryz.prog ops Q (o :: rest) a w := by
 subst hk
 refine wpList_append_tl hgd s x ho B v l1 hs hown ad m cap C hx hm ?_ hlen hB h
 intro j z hj
 have hne : C ≠ [] := by rintro rfl; cases hj
 rw [had hne]
 exact hsrc.part j z hj
theorem ToksI.at {w : World} {B g n c k : Nat} {A C : List TokI} {t : TokI} (h : ToksI w B (.slice (some ⟨g, 0, none⟩) n c) (A ++ t :: C)) (hk : A.length = k) : TAtK w g (k * 4) t := by
 subst hk
 have h2 : ToksI w B (.slice (some ⟨g, 0, none⟩) n c) (A ++ ([t] ++ C)) := h
 have e : ∀ j, (⟨g, A.length * 4, none⟩ : Addr).add j = ⟨g, A.length * 4 + j, none⟩ := fun j => by by_cases h : j = 0 <;> simp [Addr.add, h]
 have c0 := h2.part 0 _ rfl
 have c1 := h2.part 1 _ rfl
 have c2 := h2.part 2 _ rfl
 have c3 := h2.part 3 _ rfl
 rw [e] at c0 c1 c2 c3
 exact ⟨c0, c1, c2, c3⟩
end
end Go.Proofs.YtnicnfchkdmieaaGreatDoor
