/- Candidates: the walk. -/
import Derived.Test.YtkalnblbplaheaaDoorNsi
namespace Go.Proofs.YtkalnblbplaheaaDoor
open Go.RowKit
set_option linter.unusedVariables false
set_option linter.unusedSimpArgs false
attribute [local go_sem] ByteArray.mk_append_mk bs_get bs_cut bs_end

/-- The candidates of a single segment from the ancestor of j segments on. -/
def candJ (x : List UInt8) (l : List (List UInt8)) : Nat → List (List (List UInt8))
  | 0 => [[x]]
  | j + 1 => (if j + 2 ≤ 32 then [l.take (j + 1) ++ [x]] else []) ++ candJ x l j
def manyB (r2 : Bool) (u2 : Int) (l2 : List (List UInt8)) : Bool := r2 || decide (0 < u2) || decide (l2.length ≠ 1)
/-- What Candidates returns. -/
def candV (r1 : Bool) (u1 : Int) (l1 : List (List UInt8)) (r2 : Bool) (u2 : Int) (l2 : List (List UInt8)) : List (List (List UInt8)) :=
  if (absB r1 u1 l1 && validB r2 u2 l2) = true then (if manyB r2 u2 l2 = true then (joinV r1 u1 l1 r2 u2 l2).toList else candJ (l2.getD 0 []) l1 l1.length) else []
def CPost (w : World) (ls : List (List (List UInt8))) (e : Ending) (w' : World) : Prop := ∃ v, e = .returned v ∧ PsOwn w' w.heap.size v ls ∧ Below w.heap.size w w'
/-- The two boxes. -/
def C2 (w wr : World) (o1 o2 : Obj) : Prop := wr.heap[w.heap.size]? = some o1 ∧ wr.heap[w.heap.size + 1]? = some o2 ∧ Below w.heap.size w wr
theorem C2.start (w : World) (o1 o2 : Obj) : C2 w ((w.alloc o1).alloc o2) o1 o2 := ⟨blk_alloc (heap_alloc_new _ _) _, heap_alloc2_new _ _ _, ((Below.refl _ _).alloc (Nat.le_refl _) _).alloc (by simp) _⟩
theorem C2.below {w wr w2 : World} {o1 o2 : Obj} (h : C2 w wr o1 o2) (hb : Below wr.heap.size wr w2) : C2 w w2 o1 o2 := ⟨blk_below h.1 hb, blk_below h.2.1 hb, bel_then h.2.2 (Nat.le_refl _) hb⟩
theorem C2.put {w wr : World} {o1 o2 : Obj} (h : C2 w wr o1 o2) {b : Nat} (hb : w.heap.size + 2 ≤ b) (j : Nat) (u : Value) : C2 w (wr.setCell ⟨b, j, none⟩ u) o1 o2 :=
  ⟨blk_other h.1 _ _ (by show w.heap.size ≠ b; omega), blk_other h.2.1 _ _ (by show w.heap.size + 1 ≠ b; omega), h.2.2.setCell (by show w.heap.size ≤ b; omega) _⟩
theorem C2.lt {w wr : World} {o1 o2 : Obj} (h : C2 w wr o1 o2) : w.heap.size + 2 ≤ wr.heap.size := lt_of_block h.2.1
theorem C2.grown {w wr w2 : World} {o1 o2 : Obj} {row : Option Nat} (h : C2 w wr o1 o2) (hg : wr.grownBy w2 row) (hr : ∀ g, row = some g → w.heap.size + 2 ≤ g) : C2 w w2 o1 o2 :=
  ⟨blk_grown h.1 hg (fun e => by have := hr _ e.symm; omega), blk_grown h.2.1 hg (fun e => by have := hr _ e.symm; omega), h.2.2.grown hg (by have := h.lt; omega) (fun k hk => by have := hr k hk; omega)⟩
/-- A new block. -/
theorem newBox (w : World) (o : Obj) : Below w.heap.size w (w.alloc o) ∧ (w.alloc o).heap[w.heap.size]? = some o :=
  ⟨(Below.refl _ _).alloc (Nat.le_refl _) _, heap_alloc_new _ _⟩
theorem own_put3 {w : World} {B e z : Nat} {v : Value} {n : Nat} {xs : List Value} (h : w.ownsRow B e z v n xs) (b : Nat) (hp : v.ownBlock ≠ some b) (a0 a1 a2 : Value) : (((w.setCell ⟨b, 0, none⟩ a0).setCell ⟨b, 1, none⟩ a1).setCell ⟨b, 2, none⟩ a2).ownsRow B e z v n xs :=
  own_setOther (own_setOther (own_setOther h _ _ hp) _ _ hp) _ _ hp
theorem PsOwn.put3 {w : World} {B : Nat} {v : Value} {ls : List (List (List UInt8))} (h : PsOwn w B v ls) {b : Nat} {cs : Array Value} (hb : w.heap[b]? = some (.cells cs 24 (0, 0))) (hv : v.ownBlock ≠ some b) (a0 a1 a2 : Value) : PsOwn (((w.setCell ⟨b, 0, none⟩ a0).setCell ⟨b, 1, none⟩ a1).setCell ⟨b, 2, none⟩ a2) B v ls := by
  obtain ⟨vs, h1, h2, h3⟩ := h
  exact ⟨vs, h1, own_put3 h2 b hv _ _ _, fun i x y => own_put3 (h3 i x y) b (own_not (h3 i x y) hb) _ _ _⟩
theorem C2.put3 {w wr : World} {o1 o2 : Obj} (h : C2 w wr o1 o2) {b : Nat} (hb : w.heap.size + 2 ≤ b) (a0 a1 a2 : Value) : C2 w (((wr.setCell ⟨b, 0, none⟩ a0).setCell ⟨b, 1, none⟩ a1).setCell ⟨b, 2, none⟩ a2) o1 o2 := ((h.put hb _ _).put hb _ _).put hb _ _
def candM (p ok : Value) (w : World) : Nat := match p, ok with
  | .pointer (some a), .bool true => (match w.cell? ⟨a.block, 2, none⟩ with | some (.slice _ n _) => n + 1 | _ => 0)
  | _, _ => 0
theorem absB_take {l : List (List UInt8)} (h : absB true 0 l = true) (j : Nat) : absB true 0 (l.take j) = true := by
  obtain ⟨_, _, h3, h4⟩ := absB_len h
  unfold absB validB preB
  simp only [Bool.and_eq_true, decide_eq_true_eq, List.all_eq_true]
  refine ⟨trivial, ⟨by omega, by omega, fun _ => trivial, by rw [List.length_take]; omega, .inl trivial⟩, fun x hx => h4 x (List.mem_of_mem_take hx)⟩
theorem joinV_one {l1 l2 : List (List UInt8)} {x : List UInt8} (hl : l2 = [x]) (ha : absB true 0 l1 = true) (hv : validB false 0 l2 = true) (j : Nat) (hj : j ≤ l1.length) : joinV true 0 (l1.take j) false 0 l2 = if j + 1 ≤ 32 then some (l1.take j ++ [x]) else none := by
  unfold joinV
  rw [absB_take ha, hv, if_neg (by decide), if_neg (by decide), if_neg (by decide)]
  have hlen : (l1.take j).length = j := by rw [List.length_take]; omega
  rw [hlen, hl]
  by_cases h : j + 1 ≤ 32
  · rw [if_pos h, if_neg (by simp; omega)]
    simp [List.take_of_length_le, hlen]
  · rw [if_neg h, if_pos (by simp; omega)]
theorem candJ_eq (x : List UInt8) (l : List (List UInt8)) (j : Nat) : candJ x l j = (if j + 1 ≤ 32 then [l.take j ++ [x]] else []) ++ (if j = 0 then [] else candJ x l (j - 1)) := by
  cases j with
  | zero => rfl
  | succ j => rw [candJ]; rfl
theorem candJ_len (x : List UInt8) (l : List (List UInt8)) : ∀ j, (candJ x l j).length ≤ j + 1
  | 0 => Nat.le_refl _
  | j + 1 => by
    have := candJ_len x l j
    rw [candJ, List.length_append]
    split <;> simp <;> omega
theorem manyB_no {r2 : Bool} {u2 : Int} {l2 : List (List UInt8)} (h : manyB r2 u2 l2 = false) (hv : validB r2 u2 l2 = true) : r2 = false ∧ u2 = 0 ∧ ∃ x, l2 = [x] := by
  unfold manyB at h
  simp only [Bool.or_eq_false_iff, decide_eq_false_iff_not, Decidable.not_not] at h
  obtain ⟨⟨h1, h2⟩, h3⟩ := h
  have := (validB_len hv).1
  exact ⟨h1, by omega, List.length_eq_one_iff.1 h3⟩
/-- The scope's segments: those that came in, or of the call's own. -/
def SegsOk (w wr : World) (v : Value) (l : List (List UInt8)) : Prop := (∀ wz, Below w.heap.size w wz → StrsAt wz v l) ∨ wr.ownsRow 0 9 1 v l.length (l.map strV)
theorem SegsOk.strs {w wr : World} {v : Value} {l : List (List UInt8)} (h : SegsOk w wr v l) (hb : Below w.heap.size w wr) (hl : l.length ≤ 1000) : StrsAt wr v l := by
  rcases h with h | h
  · exact h _ hb
  · exact StrsAt.of_own h (by omega)
theorem SegsOk.below {w wr w2 : World} {v : Value} {l : List (List UInt8)} (h : SegsOk w wr v l) (hb : Below wr.heap.size wr w2) : SegsOk w w2 v l := by
  rcases h with h | h
  · exact .inl h
  · exact .inr (own_below h hb)
theorem SegsOk.grown {w wr w2 : World} {v f : Value} {l : List (List UInt8)} {B : Nat} {ls : List (List (List UInt8))} (h : SegsOk w wr v l) (hp : PsOwn wr B f ls) (hg : wr.grownBy w2 f.ownBlock) : SegsOk w w2 v l := by
  rcases h with h | h
  · exact .inl h
  · obtain ⟨vs, h1, h2, h3⟩ := hp
    exact .inr (own_grown h hg (own_apart h h2))
/-- At the loop's head. -/
def LoopJ (w wr : World) (o1 o2 : Obj) (x : List UInt8) (l1 : List (List UInt8)) (found p8 okv : Value) : Prop :=
  ∃ (b8 : Nat) (v8 : Value) (l8 : List (List UInt8)) (ok : Bool) (ls : List (List (List UInt8))), p8 = .pointer (some ⟨b8, 0, none⟩) ∧ okv = .bool ok ∧ Hid (C2 w wr o1 o2) ∧ Hid (w.heap.size + 2 ≤ b8) ∧ Hid (wr.heap[b8]? = some (pObj ok 0 v8)) ∧ Hid (SegsOk w wr v8 l8) ∧ Hid (found.ownBlock ≠ some b8) ∧ Hid (PsOwn wr (w.heap.size + 2) found ls) ∧ (ok = true → ∃ j, j ≤ l1.length ∧ l8 = l1.take j ∧ ls ++ candJ x l1 j = candJ x l1 l1.length) ∧ (ok = false → ls = candJ x l1 l1.length)
set_option maxHeartbeats 2000000 in
theorem candidates_any (p q : Value) (r1 r2 : Bool) (u1 u2 : Int) (l1 l2 : List (List UInt8)) (w : World) (hp : PathV w p r1 u1 l1) (hq : PathV w q r2 u2 l2) (hx1 : ∀ x ∈ l1, x.length ≤ 9223372036854775000) (hx2 : ∀ x ∈ l2, x.length ≤ 9223372036854775000) :
    Calls Tryd.prog 23 #[p, q] w (CPost w (candV r1 u1 l1 r2 u2 l2)) := by
  obtain ⟨v1, rfl, s1⟩ := hp
  obtain ⟨v2, rfl, s2⟩ := hq
  have HC := Lib.hid (C2.start w (pObj r1 u1 v1) (pObj r2 u2 v2))
  have S1 : Hid (∀ wr, Below w.heap.size w wr → StrsAt wr v1 l1) := Lib.hid (fun wr h => s1.below h)
  have S2 : Hid (∀ wr, Below w.heap.size w wr → StrsAt wr v2 l2) := Lib.hid (fun wr h => s2.below h)
  have HX1 := Lib.hid hx1
  have HX2 := Lib.hid hx2
  obtain ⟨a1, cap1, rfl, _⟩ := s1.form
  obtain ⟨a2, cap2, rfl, _⟩ := s2.form
  clear hx1 hx2 s1 s2
  go_enter Tryd.func23, Tryd.ntmps23
  go_upto_region 1 with fail
  go_cut [19] (fun z wx => z = .bool (!(absB r1 u1 l1 && validB r2 u2 l2)) ∧ Hid (C2 w wx (pObj r1 u1 (.slice a1 l1.length cap1)) (pObj r2 u2 (.slice a2 l2.length cap2))))
  case first =>
    have HN := Lib.hid (isAbs_any _ r1 u1 l1 _ (PathV.mk (S1.out _ HC.out.2.2)) HX1.out)
    obtain ⟨c0, c1, c2⟩ := cells3 HC.out.1
    cases hv : absB r1 u1 l1
    · rw [hv] at HN
      go_wp2_with fail
      ((with_reducible refine HN.out.mono ?_))
      rintro e w1 ⟨rfl, hb⟩
      have HC1 := Lib.hid (HC.out.below hb)
      clear hb HN HC c0 c1 c2
      go_wp2_with fail
      go_meet
      exact ⟨by rw [hv]; rfl, HC1⟩
    · rw [hv] at HN
      go_wp2_with fail
      ((with_reducible refine HN.out.mono ?_))
      rintro e w1 ⟨rfl, hb⟩
      have HC1 := Lib.hid (HC.out.below hb)
      clear hb HN HC c0 c1 c2
      have HN := Lib.hid (nsValid_any _ r2 u2 l2 _ (PathV.mk (S2.out _ HC1.out.2.2)) HX2.out)
      obtain ⟨c0, c1, c2⟩ := cells3 HC1.out.2.1
      go_wp2_with fail
      ((with_reducible refine HN.out.mono ?_))
      rintro e w2 ⟨rfl, hb⟩
      have HC2 := Lib.hid (HC1.out.below hb)
      clear hb HN HC1 c0 c1 c2
      go_wp2_with fail
      go_meet
      exact ⟨by rw [hv]; rfl, HC2⟩
  case rest =>
    obtain ⟨rfl, HC1⟩ := hcut
    clear HC
    cases hv : (absB r1 u1 l1 && validB r2 u2 l2)
    · have HV : Hid (candV r1 u1 l1 r2 u2 l2 = []) := Lib.hid (by unfold candV; rw [hv]; rfl)
      clear hv
      go_wp2_with fail
      go_ret
      exact ⟨_, rfl, by rw [HV.out]; exact PsOwn.nil _ _, HC1.out.2.2⟩
    · have HV : Hid (candV r1 u1 l1 r2 u2 l2 = if manyB r2 u2 l2 = true then (joinV r1 u1 l1 r2 u2 l2).toList else candJ (l2.getD 0 []) l1 l1.length) := Lib.hid (by unfold candV; rw [hv]; rfl)
      have hvv : absB r1 u1 l1 = true ∧ validB r2 u2 l2 = true := by simpa using hv
      obtain ⟨hva, hvb⟩ := hvv
      have HVA := Lib.hid hva
      have HVB := Lib.hid hvb
      clear hv hva hvb
      obtain ⟨c0, c1, c2⟩ := cells3 HC1.out.2.1
      obtain ⟨d0, d1, d2⟩ := cells3 HC1.out.1
      obtain ⟨wr, hwr⟩ : ∃ x, x = wc := ⟨_, rfl⟩
      subst hwr
      go_upto_region 4 with fail
      go_cut [32] (fun z wx => z = .bool (manyB r2 u2 l2) ∧ wr = wx)
      case first =>
        cases r2
        · by_cases hu : 0 < u2
          · go_wp2_with fail
            go_meet
            exact ⟨by unfold manyB; simp [hu], rfl⟩
          · by_cases hl : l2.length = 1
            · have hl' : ((l2.length : Int) != 1) = false := by rw [bne_eq_false_iff_eq]; omega
              have HL := Lib.hid hl
              clear hl
              go_wp2_with fail
              go_meet
              exact ⟨by unfold manyB; simp [hu, HL.out], rfl⟩
            · have hl' : ((l2.length : Int) != 1) = true := by rw [bne_iff_ne]; omega
              go_wp2_with fail
              go_meet
              exact ⟨by unfold manyB; simp [hu, hl], rfl⟩
        · go_wp2_with fail
          go_meet
          exact ⟨rfl, rfl⟩
      case rest =>
        obtain ⟨rfl, rfl⟩ := hcut
        cases hm : manyB r2 u2 l2
        · rw [hm, if_neg (by decide)] at HV
          obtain ⟨rfl, rfl, x, hl2⟩ := manyB_no hm HVB.out
          have HL2 := Lib.hid hl2
          obtain ⟨rfl, rfl, h32, hsg⟩ := absB_len HVA.out
          rw [show l2.getD 0 [] = x by rw [hl2]; rfl] at HV
          clear hm hl2
          have HSG := Lib.hid hsg
          clear hsg
          obtain ⟨n1, n2⟩ := newBox wr (pObj true 0 (.slice a1 l1.length cap1))
          have HC3 := Lib.hid (HC1.out.below n1)
          have HB3 := Lib.hid n2
          have HLT := Lib.hid HC1.out.lt
          clear n1 n2
          have HS3 : Hid (SegsOk w (wr.alloc (pObj true 0 (.slice a1 l1.length cap1))) (.slice a1 l1.length cap1) l1) := Lib.hid (.inl S1.out)
          go_wp2_with fail
          go_loopw [5, 8, 9] (fun f p8 ok wz => LoopJ w wz (pObj true 0 (.slice a1 l1.length cap1)) (pObj false 0 (.slice a2 l2.length cap2)) x l1 f p8 ok) (fun f p8 ok wz => candM p8 ok wz)
          case atStart => exact ⟨_, _, l1, true, [], rfl, rfl, HC3, HLT, HB3, HS3, Lib.hid (by intro h; cases h), Lib.hid (PsOwn.nil _ _), (fun _ => ⟨l1.length, Nat.le_refl _, (List.take_length).symm, rfl⟩), (fun h => by cases h)⟩
          case round =>
            obtain ⟨b8, v8, l8, ok, ls, rfl, rfl, HC4, HB8, HP8, HS8, HF8, HPS, K1, K2⟩ := hrel
            clear HC1 HC3 HB3 HS3 HLT c0 c1 c2 d0 d1 d2
            cases ok
            · have HK := Lib.hid (K2 rfl)
              clear K1 K2
              go_wp2_with fail
              go_ret
              exact ⟨_, rfl, by rw [HV.out, ← HK.out]; exact HPS.out.base (by omega), HC4.out.2.2⟩
            · obtain ⟨j, hj, rfl, hls⟩ := K1 rfl
              have HLS := Lib.hid hls
              clear K1 K2 hls
              have hn8 : (l1.take j).length = j := by rw [List.length_take]; omega
              obtain ⟨a8, cap8, rfl, _⟩ := (HS8.out.strs HC4.out.2.2 (by omega)).form
              have HT8 := Lib.hid (HS8.out.strs HC4.out.2.2 (by omega))
              obtain ⟨a5, c5, rfl⟩ := HPS.out.form
              rw [hn8] at HP8 HS8 HT8
              obtain ⟨c0, c1, c2⟩ := cells3 HC4.out.2.1
              obtain ⟨d0, d1, d2⟩ := cells3 HP8.out
              have HXJ : Hid (∀ y ∈ l1.take j, y.length ≤ 9223372036854775000) := Lib.hid (fun y hy => HX1.out y (List.mem_of_mem_take hy))
              have HJ := Lib.hid (join_any _ _ true false 0 0 (l1.take j) l2 _ (PathV.mk HT8.out) (PathV.mk (S2.out _ HC4.out.2.2)) HXJ.out HX2.out)
              rw [joinV_one HL2.out HVA.out HVB.out j hj] at HJ
              obtain ⟨o, ho⟩ : ∃ o, (if j + 1 ≤ 32 then some (l1.take j ++ [x]) else none) = o := ⟨_, rfl⟩
              have HO : Hid ((if j + 1 ≤ 32 then [l1.take j ++ [x]] else []) = o.toList) := Lib.hid (by rw [← ho]; split <;> rfl)
              have HM : Hid (candM (.pointer (some ⟨b8, 0, none⟩)) (.bool true) wr = j + 1) := Lib.hid (by unfold candM; simp only [d2])
              have HLL : Hid (ls.length ≤ 1000) := Lib.hid (by have := congrArg List.length HLS.out; rw [List.length_append] at this; have := candJ_len x l1 l1.length; omega)
              rw [ho] at HJ
              clear ho
              go_upto_block 1 with fail
              go_cut [5] (fun f wx => ∃ ls', Hid (ls' = ls ++ o.toList) ∧ Hid (C2 w wx (pObj true 0 (.slice a1 l1.length cap1)) (pObj false 0 (.slice a2 l2.length cap2))) ∧ Hid (wx.heap[b8]? = some (pObj true 0 (.slice a8 j cap8))) ∧ Hid (SegsOk w wx (.slice a8 j cap8) (l1.take j)) ∧ Hid (PsOwn wx (w.heap.size + 2) f ls'))
              case first =>
                go_wp2_with fail
                ((with_reducible refine HJ.out.mono ?_))
                rintro e w2 ⟨v, rfl, ho, hb⟩
                obtain ⟨a3, m3, c3, rfl⟩ := own_slice ho
                have HC5 := Lib.hid (HC4.out.below hb)
                have HP5 := Lib.hid (blk_below HP8.out hb)
                have HS5 := Lib.hid (HS8.out.below hb)
                have HPS5 := Lib.hid (HPS.out.below hb)
                have HO5 := Lib.hid (own_base ho HC4.out.lt)
                clear ho hb HJ c0 c1 c2 d0 d1 d2 HC4 HP8 HS8 HPS HT8
                obtain ⟨n1, n2⟩ := newBox w2 (pObj o.isSome 0 (.slice a3 m3 c3))
                have HC6 := Lib.hid (HC5.out.below n1)
                have HP6 := Lib.hid (blk_below HP5.out n1)
                have HS6 := Lib.hid (HS5.out.below n1)
                have HPS6 := Lib.hid (HPS5.out.below n1)
                have HO6 := Lib.hid (own_below HO5.out n1)
                have HN6 := Lib.hid n2
                clear n1 n2 HC5 HP5 HS5 HPS5 HO5
                cases o with
                | none =>
                  simp only [Option.isSome_none] at *
                  go_wp2_with fail
                  go_meet
                  exact ⟨_, Lib.hid (List.append_nil _).symm, HC6, HP6, HS6, HPS6⟩
                | some l =>
                  simp only [Option.isSome_some] at *
                  go_upto_region 13 with fail
                  generalize (w2.alloc (pObj true 0 (.slice a3 m3 c3))) = w3 at *
                  obtain ⟨c0, c1, c2⟩ := cells3 HN6.out
                  obtain ⟨n1, n2⟩ := newBox w3 (pObj true 0 (.slice a3 m3 c3))
                  have HC7 := Lib.hid (HC6.out.below n1)
                  have HP7 := Lib.hid (blk_below HP6.out n1)
                  have HS7 := Lib.hid (HS6.out.below n1)
                  have HPS7 := Lib.hid (HPS6.out.below n1)
                  have HO7 := Lib.hid (own_below HO6.out n1)
                  have HN7 := Lib.hid n2
                  clear n1 n2 HC6 HP6 HS6 HPS6 HO6
                  go_wp2_with (at_builtin; refine wpList_append_path rfl _ _ rfl (w.heap.size + 2) _ ls rfl HPS7.out w3.heap.size _ l HO7.out rfl HN7.out (by have := HLL.out; omega) (by have := HC7.out.lt; omega) ?_; intro v5 w5 ho hg; obtain ⟨a9, c9, rfl⟩ := ho.form; have HPS8 := Lib.hid ho; have HC8 := Lib.hid (HC7.out.grown hg (fun g h => (HPS7.out.lt h).2)); have HP8 := Lib.hid (blk_grown HP7.out hg (fun e => HF8.out e.symm)); have HS8 := Lib.hid (HS7.out.grown HPS7.out hg); clear ho hg HC7 HO7 HP7 HS7 HPS7)
                  go_meet
                  exact ⟨_, Lib.hid rfl, HC8, HP8, HS8, Lib.hid (by have := HPS8.out; rw [List.length_append] at this; exact this)⟩
              case rest =>
                obtain ⟨ls', HL', HC5, HP5, HS5, HPS5⟩ := hcut
                clear c0 c1 c2 d0 d1 d2 HC4 HP8 HS8 HT8 HPS HF8 HJ
                obtain ⟨a9, c9, rfl⟩ := HPS5.out.form
                obtain ⟨w5, rfl⟩ : ∃ y : World, y = wc := ⟨_, rfl⟩
                obtain ⟨d0, d1, d2⟩ := cells3 HP5.out
                obtain ⟨n1, n2⟩ := newBox w5 (pObj true 0 (.slice a8 j cap8))
                have HC6 := Lib.hid (HC5.out.below n1)
                have HS6 := Lib.hid (HS5.out.below n1)
                have HPS6 := Lib.hid (HPS5.out.below n1)
                have HN6 := Lib.hid n2
                have HLT6 := Lib.hid HC5.out.lt
                have HNE : Hid ((Value.slice a9 ls'.length c9).ownBlock ≠ some w5.heap.size) := Lib.hid (fun e => by have := (HPS5.out.lt e).1; omega)
                clear n1 n2
                have HPar := Lib.hid (parent_any _ true 0 (l1.take j) _ (PathV.mk (HS6.out.strs HC6.out.2.2 (by omega))) HXJ.out)
                have HPR : Hid (parR true 0 (l1.take j) = decide (j ≠ 0)) := Lib.hid (by unfold parR; rw [absB_take HVA.out j, Bool.true_and]; congr 1; rw [← List.length_pos_iff, hn8]; simp; omega)
                rw [HPR.out] at HPar
                obtain ⟨pb, hpb⟩ : ∃ pb, decide (j ≠ 0) = pb := ⟨_, rfl⟩
                rw [hpb] at HPar
                have HPB := Lib.hid hpb
                clear hpb HC5 HS5 HPS5
                go_upto_region 11 with fail
                generalize (w5.alloc (pObj true 0 (.slice a8 j cap8))) = w6 at *
                obtain ⟨e0, e1, e2⟩ := cells3 HN6.out
                go_wp2_with fail
                ((with_reducible refine HPar.out.mono ?_))
                rintro e w7 ⟨v9, rfl, ho, hb⟩
                obtain ⟨a10, m10, c10, rfl⟩ := own_slice ho
                have HC7 := Lib.hid (HC6.out.below hb)
                have HPS7 := Lib.hid (HPS6.out.below hb)
                have HN7 := Lib.hid (blk_below HN6.out hb)
                have HO7 := Lib.hid ho
                clear ho hb HPar e0 e1 e2 HC6 HS6 HPS6 HN6 d0 d1 d2
                obtain ⟨e0, e1, e2⟩ := cells3 HN7.out
                have f0 := free3 HN7.out 0
                have f1 := free3 HN7.out 1
                have f2 := free3 HN7.out 2
                have HP8 := Lib.hid (put3 HN7.out (.bool pb) (.int .i64 0) (.slice a10 m10 c10))
                have HS8 : Hid (SegsOk w (((w7.setCell ⟨w5.heap.size, 0, none⟩ (.bool pb)).setCell ⟨w5.heap.size, 1, none⟩ (.int .i64 0)).setCell ⟨w5.heap.size, 2, none⟩ (.slice a10 m10 c10)) (.slice a10 m10 c10) (if pb = true then (l1.take j).dropLast else [])) := Lib.hid (.inr (own_base (own_put3 HO7.out w5.heap.size (own_not HO7.out HN7.out) _ _ _) (Nat.zero_le _)))
                have HC8 := Lib.hid (HC7.out.put3 HLT6.out (.bool pb) (.int .i64 0) (.slice a10 m10 c10))
                have HPS8 := Lib.hid (HPS7.out.put3 HN7.out HNE.out (.bool pb) (.int .i64 0) (.slice a10 m10 c10))
                have HM8 : Hid (pb = true → m10 = j - 1) := Lib.hid (fun h => by
                  have := HO7.out
                  rw [if_pos h] at this
                  rcases this.2 with ⟨h1, h2⟩ | ⟨g, cp, cur, h1, _⟩
                  · injection h1 with _ h1 _; rw [h1, ← h2, List.length_dropLast, hn8]
                  · injection h1 with _ h1 _; rw [h1, List.length_dropLast, hn8])
                have HK1 : Hid (pb = true → ∃ j', j' ≤ l1.length ∧ (if pb = true then (l1.take j).dropLast else []) = l1.take j' ∧ ls' ++ candJ x l1 j' = candJ x l1 l1.length) := Lib.hid (fun h => by
                  have hj0 : j ≠ 0 := by have := HPB.out; rw [h] at this; simpa using this
                  refine ⟨j - 1, by omega, ?_, ?_⟩
                  · rw [if_pos h, List.dropLast_eq_take, hn8, List.take_take, Nat.min_eq_left (by omega)]
                  · rw [HL'.out, ← HLS.out, candJ_eq x l1 j, HO.out, if_neg hj0, List.append_assoc])
                have HK2 : Hid (pb = false → ls' = candJ x l1 l1.length) := Lib.hid (fun h => by
                  have hj0 : j = 0 := by have := HPB.out; rw [h] at this; simpa using this
                  rw [HL'.out, ← HLS.out, candJ_eq x l1 j, HO.out, if_pos hj0, List.append_nil])
                clear HC7 HPS7 HO7
                go_wp2_with fail
                go_roundw
                case rel => exact ⟨_, _, _, pb, ls', rfl, rfl, HC8, HLT6, HP8, HS8, HNE, HPS8, HK1.out, HK2.out⟩
                case measure =>
                  rw [HM.out]
                  have hc := (cells3 HP8.out).2.2
                  cases pb with
                  | false => show (0 : Nat) < _; omega
                  | true =>
                    have := HM8.out rfl
                    have hj0 : j ≠ 0 := by have := HPB.out; simpa using this
                    unfold candM
                    simp only [hc]
                    omega
        · rw [hm, if_pos rfl] at HV
          have HJ := Lib.hid (join_any _ _ r1 r2 u1 u2 l1 l2 _ (PathV.mk (S1.out _ HC1.out.2.2)) (PathV.mk (S2.out _ HC1.out.2.2)) HX1.out HX2.out)
          go_wp2_with fail
          ((with_reducible refine HJ.out.mono ?_))
          rintro e w2 ⟨v, rfl, ho, hb⟩
          obtain ⟨a3, m3, c3, rfl⟩ := own_slice ho
          have HC2 := Lib.hid (HC1.out.below hb)
          have HB := Lib.hid hb
          have HO := Lib.hid ho
          have HLT := Lib.hid HC1.out.lt
          clear ho hb HJ HC1 c0 c1 c2 d0 d1 d2
          cases hj : joinV r1 u1 l1 r2 u2 l2 with
          | none =>
            rw [hj] at HV HO
            clear hj
            simp only [Option.isSome_none]
            obtain ⟨n1, n2⟩ := newBox w2 (pObj false 0 (.slice a3 m3 c3))
            have HC3 := Lib.hid (HC2.out.below n1)
            clear n1 n2
            go_wp2_with fail
            go_ret
            exact ⟨_, rfl, by rw [HV.out]; exact PsOwn.nil _ _, HC3.out.2.2⟩
          | some l =>
            rw [hj] at HV HO
            clear hj
            simp only [Option.isSome_some]
            obtain ⟨n1, n2⟩ := newBox w2 (pObj true 0 (.slice a3 m3 c3))
            have HC3 := Lib.hid (HC2.out.below n1)
            have HO3 := Lib.hid (own_below HO.out n1)
            have HB3 := Lib.hid n2
            clear n1 n2 HO
            go_upto_region 6 with fail
            generalize (w2.alloc (pObj true 0 (.slice a3 m3 c3))) = w3 at *
            obtain ⟨c0, c1, c2⟩ := cells3 HB3.out
            obtain ⟨n1, n2⟩ := newBox w3 (pObj true 0 (.slice a3 m3 c3))
            have HC4 := Lib.hid (HC3.out.below n1)
            have HO4 := Lib.hid (own_base (own_below HO3.out n1) (B' := w.heap.size + 2) HLT.out)
            have HB4 := Lib.hid n2
            clear n1 n2 HO3
            go_wp2_with (at_builtin; refine wpList_append_path rfl _ _ rfl (w.heap.size + 2) _ [] rfl (PsOwn.nil _ _) w3.heap.size _ l HO4.out rfl HB4.out (by simp) (by have := HC4.out.lt; omega) ?_; intro v5 w5 ho hg; obtain ⟨a5, c5, rfl⟩ := ho.form; have HO5 := Lib.hid ho; have HC5 := Lib.hid (HC4.out.grown hg (fun g h => by cases h)); clear ho hg HC4 HO4)
            go_ret
            exact ⟨_, rfl, by rw [HV.out]; exact HO5.out.base (by omega), HC5.out.2.2⟩
end Go.Proofs.YtkalnblbplaheaaDoor
