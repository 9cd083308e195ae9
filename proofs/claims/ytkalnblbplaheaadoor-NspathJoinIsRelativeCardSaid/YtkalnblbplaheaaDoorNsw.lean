/- NspathJoinIsRelative: the walk. -/
import Derived.Test.YtkalnblbplaheaaDoorNsu
namespace Go.Proofs.YtkalnblbplaheaaDoor
open Go.RowKit
set_option linter.unusedVariables false
set_option linter.unusedSimpArgs false
attribute [local go_sem] ByteArray.mk_append_mk bs_get bs_cut bs_end

/-- A valid absolute path of the call's own. -/
def AbsIs (l : List (List UInt8)) (B : Nat) (w : World) (v : Value) : Prop := ∃ a c, v = .agg #[.bool true, .int .i64 0, .slice a l.length c] ∧ w.ownsRow B 9 1 (.slice a l.length c) l.length (l.map strV)
def pick3 (l1 l2 l3 : List (List UInt8)) : Nat → List (List UInt8)
  | 1 => l1
  | 3 => l2
  | _ => l3
def newO3 : Nat → Option Obj
  | 6 => some (pObj false 0 (.slice none 0 0))
  | 7 => some (pObj false 0 (.slice none 0 0))
  | 8 => some (pObj false 0 (.slice none 0 0))
  | _ => none
theorem absIs_of {w w' : World} {l : List (List UInt8)} {v : Value} {B : Nat} (h : w'.ownsRow w.heap.size 9 1 v l.length (l.map strV)) (hB : B ≤ w.heap.size) : AbsIs l B w' (.agg #[.bool true, .int .i64 0, v]) := by
  obtain ⟨a, c, rfl⟩ := own_form h
  exact ⟨a, c, rfl, own_base h hB⟩
theorem absIs_keep {l1 l2 l3 : List (List UInt8)} {B : Nat} : ∀ (i : Nat) (x y : World) (v : Value), AbsIs (pick3 l1 l2 l3 i) B x v → Below x.heap.size x y → AbsIs (pick3 l1 l2 l3 i) B y v := by
  rintro i x y v ⟨a, c, h1, h2⟩ hb
  exact ⟨a, c, h1, own_below h2 hb⟩
/-- Three new variables, apart. -/
theorem St.three {w wr : World} (h : Below w.heap.size w wr) {b7 b8 b9 : Nat} (k7 : wr.heap[b7]? = some (pObj false 0 (.slice none 0 0))) (k8 : wr.heap[b8]? = some (pObj false 0 (.slice none 0 0))) (k9 : wr.heap[b9]? = some (pObj false 0 (.slice none 0 0)))
    (n7 : w.heap.size ≤ b7) (n8 : w.heap.size ≤ b8) (n9 : w.heap.size ≤ b9) (d1 : b7 ≠ b8) (d2 : b7 ≠ b9) (d3 : b8 ≠ b9) {ol : List (Value × List (List UInt8))} (ho : ∀ q ∈ ol, wr.ownsRow w.heap.size 9 1 q.1 q.2.length (q.2.map strV)) :
    St w wr [⟨b7, false, 0, .slice none 0 0⟩, ⟨b8, false, 0, .slice none 0 0⟩, ⟨b9, false, 0, .slice none 0 0⟩] ol := by
  refine ⟨h, by simp [d1, d2, d3], ?_, ho⟩
  intro p hp
  simp only [List.mem_cons, List.not_mem_nil, or_false] at hp
  rcases hp with rfl | rfl | rfl
  · exact ⟨n7, k7⟩
  · exact ⟨n8, k8⟩
  · exact ⟨n9, k9⟩
/-- Inside the second bag: two appends, one upon the other, and a new variable. -/
def AppJ (W : World) (la lb : List (List UInt8)) (d : Nat → Bool) (u : Nat → Value) (w' : World) : Prop :=
  Grows W w' ∧ (d 2 = true → d 5 = false → ∃ a c, u 2 = .slice a la.length c ∧ w'.ownsRow W.heap.size 9 1 (u 2) la.length (la.map strV)) ∧ (d 5 = true → ∃ a c, u 5 = .slice a lb.length c ∧ w'.ownsRow W.heap.size 9 1 (u 5) lb.length (lb.map strV)) ∧
  (d 6 = true → u 6 = .agg #[.bool false, .int .i64 0, u 5]) ∧ (d 7 = true → ∃ b, u 7 = .pointer (some ⟨b, 0, none⟩) ∧ W.heap.size ≤ b ∧ w'.heap[b]? = some (pObj false 0 (.slice none 0 0))) ∧ (d 5 = true → d 2 = true) ∧ (d 6 = true → d 5 = true)
theorem AppJ.start (W : World) (la lb : List (List UInt8)) (u : Nat → Value) : AppJ W la lb (fun _ => false) u W.drew := ⟨Grows.self _, (fun h => by cases h), (fun h => by cases h), (fun h => by cases h), (fun h => by cases h), (fun h => by cases h), (fun h => by cases h)⟩
theorem AppJ.grows {W w1 : World} {la lb : List (List UInt8)} {d : Nat → Bool} {u : Nat → Value} (h : AppJ W la lb d u w1) : Grows W w1 := h.1
theorem AppJ.first {W w1 w2 : World} {la lb : List (List UInt8)} {d : Nat → Bool} {u : Nat → Value} {v : Value} (h : AppJ W la lb d u w1) (hg : w1.grownBy w2 none) (ho : w2.ownsRow w1.heap.size 9 1 v la.length (la.map strV)) (hd2 : d 2 = false) :
    AppJ W la lb (fun j => d j || j == 2) (fun j => if j = 2 then v else u j) w2 := by
  obtain ⟨h1, h2, h3, h4, h7, x5, x6⟩ := h
  have h5 : d 5 = false := by
    cases e : d 5
    · rfl
    · rw [x5 e] at hd2; cases hd2
  have h6 : d 6 = false := by
    cases e : d 6
    · rfl
    · rw [x6 e] at h5; cases h5
  have hG : Below w1.heap.size w1 w2 := (Below.refl _ _).grown hg (Nat.le_refl _) (fun k h => by cases h)
  refine ⟨h1.trans hG, ?_, ?_, ?_, ?_, ?_, ?_⟩
  · intro _ _
    obtain ⟨a, c, e⟩ := own_form ho
    exact ⟨a, c, by simpa using e, by simpa using own_base ho (Below.size h1)⟩
  · intro hd; simp [h5] at hd
  · intro hd; simp [h6] at hd
  · intro hd
    obtain ⟨b, k1, k2, k3⟩ := h7 (by simpa using hd)
    exact ⟨b, by simpa using k1, k2, blk_below k3 hG⟩
  · intro _; simp
  · intro hd; simp [h6] at hd
theorem AppJ.second {W w1 w2 : World} {la lb : List (List UInt8)} {d : Nat → Bool} {u : Nat → Value} {v : Value} (h : AppJ W la lb d u w1) (hd2 : d 2 = true) (hg : w1.grownBy w2 (u 2).ownBlock) (ho : w2.ownsRow W.heap.size 9 1 v lb.length (lb.map strV)) (h5 : d 5 = false) :
    AppJ W la lb (fun j => d j || j == 5) (fun j => if j = 5 then v else u j) w2 := by
  obtain ⟨h1, h2, h3, h4, h7, x5, x6⟩ := h
  have h6 : d 6 = false := by
    cases e : d 6
    · rfl
    · rw [x6 e] at h5; cases h5
  obtain ⟨_, _, _, h2'⟩ := h2 hd2 h5
  refine ⟨?_, ?_, ?_, ?_, ?_, ?_, ?_⟩
  · exact Below.grown h1 hg (Below.size h1) (fun k h => own_row h2' h)
  · intro _ hd; simp at hd
  · intro _
    obtain ⟨a, c, e⟩ := own_form ho
    exact ⟨a, c, by simpa using e, by simpa using ho⟩
  · intro hd; simp [h6] at hd
  · intro hd
    obtain ⟨b, k1, k2, k3⟩ := h7 (by simpa using hd)
    refine ⟨b, by simpa using k1, k2, blk_grown k3 hg ?_⟩
    intro e
    exact own_not h2' k3 e.symm
  · intro _; simp [hd2]
  · intro hd; simp [h6] at hd
theorem AppJ.build {W w1 : World} {la lb : List (List UInt8)} {d : Nat → Bool} {u : Nat → Value} (h : AppJ W la lb d u w1) (hd5 : d 5 = true) :
    AppJ W la lb (fun j => d j || j == 6) (fun j => if j = 6 then .agg #[.bool false, .int .i64 0, u 5] else u j) w1 := by
  obtain ⟨h1, h2, h3, h4, h7, x5, x6⟩ := h
  refine ⟨h1, ?_, ?_, ?_, ?_, ?_, ?_⟩
  · intro hd hd5; simpa using h2 (by simpa using hd) (by simpa using hd5)
  · intro hd; simpa using h3 (by simpa using hd)
  · intro _; simp
  · intro hd; simpa using h7 (by simpa using hd)
  · intro hd; simpa using x5 (by simpa using hd)
  · intro _; simpa using hd5
theorem AppJ.new {W w1 : World} {la lb : List (List UInt8)} {d : Nat → Bool} {u : Nat → Value} (h : AppJ W la lb d u w1) :
    AppJ W la lb (fun j => d j || j == 7) (fun j => if j = 7 then .pointer (some ⟨w1.heap.size, 0, none⟩) else u j) (w1.alloc (pObj false 0 (.slice none 0 0))) := by
  have hb : Below w1.heap.size w1 (w1.alloc (pObj false 0 (.slice none 0 0))) := (Below.refl _ _).alloc (Nat.le_refl _) _
  obtain ⟨h1, h2, h3, h4, h7, x5, x6⟩ := h
  refine ⟨h1.trans hb, ?_, ?_, ?_, ?_, ?_, ?_⟩
  · intro hd hd5
    obtain ⟨a, c, e, ho⟩ := h2 (by simpa using hd) (by simpa using hd5)
    exact ⟨a, c, by simpa using e, by simpa using own_below ho hb⟩
  · intro hd
    obtain ⟨a, c, e, ho⟩ := h3 (by simpa using hd)
    exact ⟨a, c, by simpa using e, by simpa using own_below ho hb⟩
  · intro hd; simpa using h4 (by simpa using hd)
  · intro _; exact ⟨_, by simp, Below.size h1, heap_alloc_new _ _⟩
  · intro hd; simpa using x5 (by simpa using hd)
  · intro hd; simpa using x6 (by simpa using hd)
set_option maxRecDepth 100000 in
set_option maxHeartbeats 2000000 in
theorem relative_walk (p q s : Value) (r1 : Bool) (u1 : Int) (l1 : List (List UInt8)) (r2 : Bool) (u2 : Int) (l2 : List (List UInt8)) (r3 : Bool) (u3 : Int) (l3 : List (List UInt8)) (w : World) (m : Int) (hm : w.cell? ⟨0, 0, none⟩ = some (.int .i64 m)) (hp : PathV w p r1 u1 l1) (hq : PathV w q r2 u2 l2) (hs : PathV w s r3 u3 l3) (hx1 : ∀ x ∈ l1, x.length ≤ 140737488351232) (hx2 : ∀ x ∈ l2, x.length ≤ 140737488351232) (hx3 : ∀ x ∈ l3, x.length ≤ 140737488351232) :
    Calls Tryd.prog 7 #[p, q, s] w fun e w' => e = .returned (.bool true) ∧ Below w.heap.size w w' := by
  obtain ⟨v1, rfl, s1⟩ := hp
  obtain ⟨v2, rfl, s2⟩ := hq
  obtain ⟨v3, rfl, s3⟩ := hs
  have HT := Lib.hid (T3.start w (pObj r1 u1 v1) (pObj r2 u2 v2) (pObj r3 u3 v3))
  have S1 : Hid (∀ wr, Below w.heap.size w wr → StrsAt wr v1 l1) := Lib.hid (fun wr h => s1.below h)
  have S2 : Hid (∀ wr, Below w.heap.size w wr → StrsAt wr v2 l2) := Lib.hid (fun wr h => s2.below h)
  have S3 : Hid (∀ wr, Below w.heap.size w wr → StrsAt wr v3 l3) := Lib.hid (fun wr h => s3.below h)
  have X1 := Lib.hid (segV_small hx1)
  have X2 := Lib.hid (segV_small hx2)
  have X3 := Lib.hid (segV_small hx3)
  have HM : Hid (∀ wr, Below w.heap.size w wr → wr.cell? ⟨0, 0, none⟩ = some (.int .i64 m)) := Lib.hid (fun wr h => keep0 hm h (Nat.le_refl _))
  obtain ⟨a1, cap1, rfl, _⟩ := s1.form
  obtain ⟨a2, cap2, rfl, _⟩ := s2.form
  obtain ⟨a3, cap3, rfl, _⟩ := s3.form
  clear hx1 hx2 hx3 s1 s2 s3 hm
  obtain ⟨L1, hL1⟩ : ∃ L, Hid (absL l1 = L) := ⟨_, Lib.hid rfl⟩
  obtain ⟨L2, hL2⟩ : ∃ L, Hid (absL l2 = L) := ⟨_, Lib.hid rfl⟩
  obtain ⟨L3, hL3⟩ : ∃ L, Hid (absL l3 = L) := ⟨_, Lib.hid rfl⟩
  have G1 : Hid (L1.length ≤ 12 ∧ ∀ x ∈ L1, segB x = true) := Lib.hid (by rw [← hL1.out]; exact ⟨absL_len l1, absL_seg l1⟩)
  have G2 : Hid (L2.length ≤ 12 ∧ ∀ x ∈ L2, segB x = true) := Lib.hid (by rw [← hL2.out]; exact ⟨absL_len l2, absL_seg l2⟩)
  have G3 : Hid (L3.length ≤ 12 ∧ ∀ x ∈ L3, segB x = true) := Lib.hid (by rw [← hL3.out]; exact ⟨absL_len l3, absL_seg l3⟩)
  go_enter Tryd.func7, Tryd.ntmps7
  go_upto_region 1 with fail
  generalize hw1 : ((w.alloc (pObj r1 u1 (.slice a1 l1.length cap1))).alloc (pObj r2 u2 (.slice a2 l2.length cap2))).alloc (pObj r3 u3 (.slice a3 l3.length cap3)) = w1 at *
  clear hw1
  obtain ⟨k0, k1, k2⟩ := grow3 HT.out.1.1
  obtain ⟨m0, m1, m2⟩ := grow3 HT.out.1.2.1
  obtain ⟨n0, n1, n2⟩ := grow3 HT.out.1.2.2
  refine wp_region_plan (Grows w1) 9 [.reads [0, 2, 4], .bag [1, 3, 5, 6, 7, 8], .act 9, .act 10, .act 11] (by kernel_rfl) (by kernel_rfl) (by kernel_rfl) (by kernel_rfl) (by kernel_rfl) (fun _ _ d _ _ h => by cases d <;> exact h) (Grows.self _) ?_
  refine wpPlan_reads ?_
  simp only [pickOps, List.drop_succ_cons, List.drop_zero, List.take_succ_cons, List.take_zero, List.cons_append, List.nil_append]
  repeat (go_big_quiet_step (first | (intro hb; rw [k0 _ hb]; simp only [Result.andThen]; rw [k1 _ hb]; simp only; rw [k2 _ hb]; exact ⟨rfl, rfl⟩) | (intro hb; rw [m0 _ hb]; simp only [Result.andThen]; rw [m1 _ hb]; simp only; rw [m2 _ hb]; exact ⟨rfl, rfl⟩) | (intro hb; rw [n0 _ hb]; simp only [Result.andThen]; rw [n1 _ hb]; simp only; rw [n2 _ hb]; exact ⟨rfl, rfl⟩)))
  refine wpQuiet_nil ?_
  clear k0 k1 k2 m0 m1 m2 n0 n1 n2
  have HK := Lib.hid (absIs_keep (l1 := L1) (l2 := L2) (l3 := L3) (B := w1.heap.size))
  refine wpPlan_bag (BagJ w1 (fun i => AbsIs (pick3 L1 L2 L3 i) w1.heap.size) newO3) (fun _ => undef) rfl (BagJ.start _ _ _ _) ?_ ?_
  · intro j hj d u wz hd hdep HJ
    have HJ := Lib.hid HJ
    clear hdep hd
    simp only [List.mem_cons, List.not_mem_nil, or_false] at hj
    rcases hj with rfl | rfl | rfl | rfl | rfl | rfl
    · refine wpOp_list rfl ?_
      simp only [pickOps, List.drop_succ_cons, List.drop_zero, List.take_succ_cons, List.take_zero, List.cons_append, List.nil_append]
      simp only [fillOps, List.drop_succ_cons, List.drop_zero, List.take_succ_cons, List.take_zero, List.head?_cons, Option.bind_some, Act.put, List.setIfInBounds_toArray, List.set_cons_succ, List.set_cons_zero]
      go_wp2_with fail
      ((with_reducible refine (absolute_any _ r1 u1 l1 _ (PathV.mk (S1.out _ (HT.out.below (growB HJ.out.grows)).bel)) X1.out.1 X1.out.2).mono ?_))
      rintro e w5 ⟨v, rfl, ho, hb⟩
      rw [hL1.out] at ho
      have HJ5 := Lib.hid (HJ.out.call HK.out hb 1 rfl (absIs_of ho (Below.size HJ.out.grows)))
      clear hb HJ ho
      go_wp2_with fail
      exact ⟨fun _ => HJ5.out.grows, _, rfl, HJ5.out⟩
    · refine wpOp_list rfl ?_
      simp only [pickOps, List.drop_succ_cons, List.drop_zero, List.take_succ_cons, List.take_zero, List.cons_append, List.nil_append]
      simp only [fillOps, List.drop_succ_cons, List.drop_zero, List.take_succ_cons, List.take_zero, List.head?_cons, Option.bind_some, Act.put, List.setIfInBounds_toArray, List.set_cons_succ, List.set_cons_zero]
      go_wp2_with fail
      ((with_reducible refine (absolute_any _ r2 u2 l2 _ (PathV.mk (S2.out _ (HT.out.below (growB HJ.out.grows)).bel)) X2.out.1 X2.out.2).mono ?_))
      rintro e w5 ⟨v, rfl, ho, hb⟩
      rw [hL2.out] at ho
      have HJ5 := Lib.hid (HJ.out.call HK.out hb 3 rfl (absIs_of ho (Below.size HJ.out.grows)))
      clear hb HJ ho
      go_wp2_with fail
      exact ⟨fun _ => HJ5.out.grows, _, rfl, HJ5.out⟩
    · refine wpOp_list rfl ?_
      simp only [pickOps, List.drop_succ_cons, List.drop_zero, List.take_succ_cons, List.take_zero, List.cons_append, List.nil_append]
      simp only [fillOps, List.drop_succ_cons, List.drop_zero, List.take_succ_cons, List.take_zero, List.head?_cons, Option.bind_some, Act.put, List.setIfInBounds_toArray, List.set_cons_succ, List.set_cons_zero]
      go_wp2_with fail
      ((with_reducible refine (absolute_any _ r3 u3 l3 _ (PathV.mk (S3.out _ (HT.out.below (growB HJ.out.grows)).bel)) X3.out.1 X3.out.2).mono ?_))
      rintro e w5 ⟨v, rfl, ho, hb⟩
      rw [hL3.out] at ho
      have HJ5 := Lib.hid (HJ.out.call HK.out hb 5 rfl (absIs_of ho (Below.size HJ.out.grows)))
      clear hb HJ ho
      go_wp2_with fail
      exact ⟨fun _ => HJ5.out.grows, _, rfl, HJ5.out⟩
    · refine wpOp_list rfl ?_
      simp only [pickOps, List.drop_succ_cons, List.drop_zero, List.take_succ_cons, List.take_zero, List.cons_append, List.nil_append]
      simp only [fillOps, List.drop_succ_cons, List.drop_zero, List.take_succ_cons, List.take_zero, List.head?_cons, Option.bind_some, Act.put, List.setIfInBounds_toArray, List.set_cons_succ, List.set_cons_zero]
      go_wp2_with fail
      exact ⟨fun _ => (HJ.out.new HK.out 6 _ rfl).grows, _, rfl, HJ.out.new HK.out 6 _ rfl⟩
    · refine wpOp_list rfl ?_
      simp only [pickOps, List.drop_succ_cons, List.drop_zero, List.take_succ_cons, List.take_zero, List.cons_append, List.nil_append]
      simp only [fillOps, List.drop_succ_cons, List.drop_zero, List.take_succ_cons, List.take_zero, List.head?_cons, Option.bind_some, Act.put, List.setIfInBounds_toArray, List.set_cons_succ, List.set_cons_zero]
      go_wp2_with fail
      exact ⟨fun _ => (HJ.out.new HK.out 7 _ rfl).grows, _, rfl, HJ.out.new HK.out 7 _ rfl⟩
    · refine wpOp_list rfl ?_
      simp only [pickOps, List.drop_succ_cons, List.drop_zero, List.take_succ_cons, List.take_zero, List.cons_append, List.nil_append]
      simp only [fillOps, List.drop_succ_cons, List.drop_zero, List.take_succ_cons, List.take_zero, List.head?_cons, Option.bind_some, Act.put, List.setIfInBounds_toArray, List.set_cons_succ, List.set_cons_zero]
      go_wp2_with fail
      exact ⟨fun _ => (HJ.out.new HK.out 8 _ rfl).grows, _, rfl, HJ.out.new HK.out 8 _ rfl⟩
  · intro d u wz hall HJ
    have q1 := hall 1 (by simp)
    have q3 := hall 3 (by simp)
    have q5 := hall 5 (by simp)
    have q6 := hall 6 (by simp)
    have q7 := hall 7 (by simp)
    have q8 := hall 8 (by simp)
    obtain ⟨aa, ca, e1, o1⟩ : AbsIs L1 _ _ _ := HJ.value 1 q1 rfl
    obtain ⟨ab, cb, e3, o3⟩ : AbsIs L2 _ _ _ := HJ.value 3 q3 rfl
    obtain ⟨ac, cc, e5, o5⟩ : AbsIs L3 _ _ _ := HJ.value 5 q5 rfl
    obtain ⟨b7, n7, e6, k7⟩ := HJ.block 6 _ q6 rfl
    obtain ⟨b8, n8, e7, k8⟩ := HJ.block 7 _ q7 rfl
    obtain ⟨b9, n9, e8, k9⟩ := HJ.block 8 _ q8 rfl
    have d1 := HJ.apart q6 q7 rfl rfl e6 e7 (by decide)
    have d2 := HJ.apart q6 q8 rfl rfl e6 e8 (by decide)
    have d3 := HJ.apart q7 q8 rfl rfl e7 e8 (by decide)
    simp only [fillOps, List.drop_succ_cons, List.drop_zero, List.take_succ_cons, List.take_zero, List.head?_cons, Option.bind_some, Act.put, List.setIfInBounds_toArray, List.set_cons_succ, List.set_cons_zero]
    rw [e1, e3, e5, e6, e7, e8]
    have hsz := HT.out.bel.size
    have ST : Hid (St w wz _ [(.slice aa L1.length ca, L1), (.slice ab L2.length cb, L2), (.slice ac L3.length cc, L3)]) := Lib.hid (St.three (HT.out.below (growB HJ.grows)).bel k7 k8 k9 (by omega) (by omega) (by omega) d1 d2 d3 (by
      intro q hq
      simp only [List.mem_cons, List.not_mem_nil, or_false] at hq
      rcases hq with rfl | rfl | rfl
      · exact own_base o1 hsz
      · exact own_base o3 hsz
      · exact own_base o5 hsz))
    clear HJ hall q1 q3 q5 q6 q7 q8 e1 e3 e5 e6 e7 e8 o1 o3 o5 n7 n8 n9 k7 k8 k9 d1 d2 d3 hsz HT S1 S2 S3 X1 X2 X3 hL1 hL2 hL3 HK
    obtain ⟨c0, c1, c2⟩ := ST.out.cells (b := b7) (r := false) (n := 0) (v := .slice none 0 0) (by simp)
    have fr := ST.out.has (b := b7) (r := false) (n := 0) (v := .slice none 0 0) (by simp)
    have f0 := free3 fr 0
    have f1 := free3 fr 1
    have f2 := free3 fr 2
    have ST2 := Lib.hid (ST.out.put (bl1 := []) true 0 (.slice aa L1.length ca))
    clear fr ST
    refine wpPlan_act rfl ?_
    simp only [pickOps, List.drop_succ_cons, List.drop_zero, List.take_succ_cons, List.take_zero, List.cons_append, List.nil_append]
    go_wp2_with fail
    refine ⟨fun h => absurd h (by decide), ?_⟩
    clear c0 c1 c2 f0 f1 f2
    generalize (((wz.setCell ⟨b7, 0, none⟩ (.bool true)).setCell ⟨b7, 1, none⟩ (.int .i64 0)).setCell ⟨b7, 2, none⟩ (.slice aa L1.length ca)) = wz7 at *
    have ST := ST2
    clear ST2
    obtain ⟨c0, c1, c2⟩ := ST.out.cells (b := b8) (r := false) (n := 0) (v := .slice none 0 0) (by simp)
    have fr := ST.out.has (b := b8) (r := false) (n := 0) (v := .slice none 0 0) (by simp)
    have f0 := free3 fr 0
    have f1 := free3 fr 1
    have f2 := free3 fr 2
    have ST2 := Lib.hid (ST.out.put (bl1 := [⟨b7, true, 0, .slice aa L1.length ca⟩]) true 0 (.slice ab L2.length cb))
    clear fr ST
    refine wpPlan_act rfl ?_
    simp only [pickOps, List.drop_succ_cons, List.drop_zero, List.take_succ_cons, List.take_zero, List.cons_append, List.nil_append]
    go_wp2_with fail
    refine ⟨fun h => absurd h (by decide), ?_⟩
    clear c0 c1 c2 f0 f1 f2
    generalize (((wz7.setCell ⟨b8, 0, none⟩ (.bool true)).setCell ⟨b8, 1, none⟩ (.int .i64 0)).setCell ⟨b8, 2, none⟩ (.slice ab L2.length cb)) = wz8 at *
    have ST := ST2
    clear ST2
    obtain ⟨c0, c1, c2⟩ := ST.out.cells (b := b9) (r := false) (n := 0) (v := .slice none 0 0) (by simp)
    have fr := ST.out.has (b := b9) (r := false) (n := 0) (v := .slice none 0 0) (by simp)
    have f0 := free3 fr 0
    have f1 := free3 fr 1
    have f2 := free3 fr 2
    have ST2 := Lib.hid (ST.out.put (bl1 := [⟨b7, true, 0, .slice aa L1.length ca⟩, ⟨b8, true, 0, .slice ab L2.length cb⟩]) true 0 (.slice ac L3.length cc))
    clear fr ST
    refine wpPlan_act rfl ?_
    simp only [pickOps, List.drop_succ_cons, List.drop_zero, List.take_succ_cons, List.take_zero, List.cons_append, List.nil_append]
    go_wp2_with fail
    refine ⟨fun h => absurd h (by decide), ?_⟩
    clear c0 c1 c2 f0 f1 f2
    generalize (((wz8.setCell ⟨b9, 0, none⟩ (.bool true)).setCell ⟨b9, 1, none⟩ (.int .i64 0)).setCell ⟨b9, 2, none⟩ (.slice ac L3.length cc)) = wz9 at *
    have ST := ST2
    clear ST2
    refine wpPlan_nil ?_
    obtain ⟨c0, c1, c2⟩ := ST.out.cells (b := b8) (r := true) (n := 0) (v := .slice ab L2.length cb) (by simp)
    have f0 := free3 (ST.out.has (b := b8) (r := true) (n := 0) (v := .slice ab L2.length cb) (by simp)) 0
    have ST2 := Lib.hid (ST.out.putRoot (bl1 := [_]) false)
    obtain ⟨d0, d1, d2⟩ := ST2.out.cells (b := b9) (r := true) (n := 0) (v := .slice ac L3.length cc) (by simp)
    have g0 := free3 (ST2.out.has (b := b9) (r := true) (n := 0) (v := .slice ac L3.length cc) (by simp)) 0
    have ST3 : Hid (St w _ [⟨b7, true, 0, .slice aa L1.length ca⟩, ⟨b8, false, 0, .slice ab L2.length cb⟩, ⟨b9, false, 0, .slice ac L3.length cc⟩] _) := Lib.hid (ST2.out.putRoot (bl1 := [_, _]) (b := b9) false)
    clear ST ST2
    go_upto_region 3 with fail
    clear c0 c1 c2 d0 d1 d2 f0 g0
    generalize ((wz9.setCell ⟨b8, 0, none⟩ (.bool false)).setCell ⟨b9, 0, none⟩ (.bool false)) = wa at *
    obtain ⟨c0, c1, c2⟩ := ST3.out.cells (b := b8) (r := false) (n := 0) (v := .slice ab L2.length cb) (by simp)
    obtain ⟨d0, d1, d2⟩ := ST3.out.cells (b := b9) (r := false) (n := 0) (v := .slice ac L3.length cc) (by simp)
    by_cases h2 : L2.length = 0
    · have h2b : ((L2.length : Int) == 0) = true := by simp [h2]
      go_wp2_with fail
      ((with_reducible refine (awake_any m _ (HM.out _ ST3.out.bel)).mono ?_))
      rintro e w2 ⟨rfl, hb⟩
      have ST4 := Lib.hid (ST3.out.below hb)
      clear hb
      go_wp2_with fail
      go_ret
      exact ⟨rfl, ST4.out.bel⟩
    · have h2b : ((L2.length : Int) == 0) = false := by rw [beq_eq_false_iff_ne]; omega
      by_cases h3 : L3.length = 0
      · have h3b : ((L3.length : Int) == 0) = true := by simp [h3]
        go_wp2_with fail
        ((with_reducible refine (awake_any m _ (HM.out _ ST3.out.bel)).mono ?_))
        rintro e w2 ⟨rfl, hb⟩
        have ST4 := Lib.hid (ST3.out.below hb)
        clear hb
        go_wp2_with fail
        go_ret
        exact ⟨rfl, ST4.out.bel⟩
      · have h3b : ((L3.length : Int) == 0) = false := by rw [beq_eq_false_iff_ne]; omega
        go_upto_region 5 with fail
        clear c0 c1 c2 d0 d1 d2
        obtain ⟨k0, k1, k2⟩ := grow3 (ST3.out.has (b := b8) (r := false) (n := 0) (v := .slice ab L2.length cb) (by simp))
        obtain ⟨m0, m1, m2⟩ := grow3 (ST3.out.has (b := b9) (r := false) (n := 0) (v := .slice ac L3.length cc) (by simp))
        refine wp_region_plan (Grows wa) 8 [.reads [0, 1, 3, 4], .bag [2, 5, 6, 7], .act 8] (by kernel_rfl) (by kernel_rfl) (by kernel_rfl) (by kernel_rfl) (by kernel_rfl) (fun _ _ d _ _ h => by cases d <;> exact h) (Grows.self _) ?_
        refine wpPlan_reads ?_
        simp only [pickOps, List.drop_succ_cons, List.drop_zero, List.take_succ_cons, List.take_zero, List.cons_append, List.nil_append]
        repeat (go_big_quiet_step (first | (intro hb; rw [k2 _ hb]; exact ⟨rfl, rfl⟩) | (intro hb; rw [m2 _ hb]; exact ⟨rfl, rfl⟩)))
        refine wpQuiet_nil ?_
        clear k0 k1 k2 m0 m1 m2
        obtain ⟨L4, hL4⟩ : ∃ L, Hid (L2 ++ L3 = L) := ⟨_, Lib.hid rfl⟩
        refine wpPlan_bag (AppJ wa L2 L4) (fun _ => undef) rfl (AppJ.start _ _ _ _) ?_ ?_
        · intro j hj d u wz hd hdep HJ
          have HJ := Lib.hid HJ
          simp only [List.mem_cons, List.not_mem_nil, or_false] at hj
          rcases hj with rfl | rfl | rfl | rfl
          · refine wpOp_list rfl ?_
            simp only [pickOps, List.drop_succ_cons, List.drop_zero, List.take_succ_cons, List.take_zero, List.cons_append, List.nil_append]
            simp only [fillOps, List.drop_succ_cons, List.drop_zero, List.take_succ_cons, List.take_zero, List.head?_cons, Option.bind_some, Act.put, List.setIfInBounds_toArray, List.set_cons_succ, List.set_cons_zero]
            clear hdep
            have HD := Lib.hid hd
            clear hd
            go_wp2_with (at_builtin; refine wpList_append_strs rfl _ _ rfl wz.heap.size _ [] rfl (own_nil _ _) (.slice ab L2.length cb) L2 rfl ((ST3.out.below (growB HJ.out.grows)).strs (l := L2) (by simp) (by have := G2.out.1; omega)) (by have := G2.out.1; simp; omega) (Nat.le_refl _) ?_; intro v4 w4 ho hg; obtain ⟨a4, c4, rfl⟩ := own_form ho; have HJ4 := Lib.hid (HJ.out.first (v := .slice a4 L2.length c4) hg ho HD.out); clear ho hg HJ)
            exact ⟨fun _ => HJ4.out.grows, _, rfl, HJ4.out⟩
          · have hd2 := hdep 2 (by simp) (by kernel_rfl)
            obtain ⟨a2, c2, e2, o2⟩ := HJ.out.2.1 hd2 hd
            refine wpOp_list rfl ?_
            simp only [pickOps, List.drop_succ_cons, List.drop_zero, List.take_succ_cons, List.take_zero, List.cons_append, List.nil_append]
            simp only [fillOps, List.drop_succ_cons, List.drop_zero, List.take_succ_cons, List.take_zero, List.head?_cons, Option.bind_some, Act.put, List.setIfInBounds_toArray, List.set_cons_succ, List.set_cons_zero]
            rw [e2]
            clear hdep
            have HD := Lib.hid (And.intro hd hd2)
            have HE := Lib.hid e2
            rw [e2] at o2
            have HO := Lib.hid o2
            clear hd hd2 e2 o2
            go_wp2_with (at_builtin; refine wpList_append_strs rfl _ _ rfl wa.heap.size _ L2 rfl HO.out (.slice ac L3.length cc) L3 rfl ((ST3.out.below (growB HJ.out.grows)).strs (l := L3) (by simp) (by have := G3.out.1; omega)) (by have := G2.out.1; have := G3.out.1; omega) (Below.size HJ.out.grows) ?_; intro v4 w4 ho hg; rw [hL4.out] at ho; obtain ⟨a4, c4, rfl⟩ := own_form ho; have HJ4 := Lib.hid (HJ.out.second (v := .slice a4 L4.length c4) HD.out.2 (by rw [HE.out]; exact hg) ho HD.out.1); clear ho hg HJ)
            rw [← HE.out]
            exact ⟨fun _ => HJ4.out.grows, _, rfl, HJ4.out⟩
          · have hd5 := hdep 5 (by simp) (by kernel_rfl)
            obtain ⟨a2, c2, e2, o2⟩ := HJ.out.2.2.1 hd5
            refine wpOp_list rfl ?_
            simp only [pickOps, List.drop_succ_cons, List.drop_zero, List.take_succ_cons, List.take_zero, List.cons_append, List.nil_append]
            simp only [fillOps, List.drop_succ_cons, List.drop_zero, List.take_succ_cons, List.take_zero, List.head?_cons, Option.bind_some, Act.put, List.setIfInBounds_toArray, List.set_cons_succ, List.set_cons_zero]
            rw [e2]
            clear hdep o2
            have HJ4 := Lib.hid (HJ.out.build hd5)
            have HE := Lib.hid e2
            clear hd hd5 e2
            go_wp2_with fail
            rw [← HE.out]
            exact ⟨fun _ => HJ4.out.grows, _, rfl, HJ4.out⟩
          · refine wpOp_list rfl ?_
            simp only [pickOps, List.drop_succ_cons, List.drop_zero, List.take_succ_cons, List.take_zero, List.cons_append, List.nil_append]
            simp only [fillOps, List.drop_succ_cons, List.drop_zero, List.take_succ_cons, List.take_zero, List.head?_cons, Option.bind_some, Act.put, List.setIfInBounds_toArray, List.set_cons_succ, List.set_cons_zero]
            go_wp2_with fail
            exact ⟨fun _ => HJ.out.new.grows, _, rfl, HJ.out.new⟩
        · intro d u wz hall HJ
          obtain ⟨hg, _, h5, h6, h7, _, _⟩ := HJ
          obtain ⟨a5, c5, e5, o5⟩ := h5 (hall 5 (by simp))
          have e6 := h6 (hall 6 (by simp))
          obtain ⟨b10, e7, n10, k10⟩ := h7 (hall 7 (by simp))
          rw [e5] at e6 o5
          simp only [fillOps, List.drop_succ_cons, List.drop_zero, List.take_succ_cons, List.take_zero, List.head?_cons, Option.bind_some, Act.put, List.setIfInBounds_toArray, List.set_cons_succ, List.set_cons_zero]
          rw [e5, e6, e7]
          have G4 : Hid (L4.length ≤ 24 ∧ 0 < L4.length ∧ ∀ x ∈ L4, segB x = true) := Lib.hid (by
            rw [← hL4.out, List.length_append]
            have := G2.out.1
            have := G3.out.1
            refine ⟨by omega, by omega, fun x hx => ?_⟩
            rcases List.mem_append.1 hx with hx | hx
            · exact G2.out.2 x hx
            · exact G3.out.2 x hx)
          have ST4 : Hid (St w wz (⟨b10, false, 0, .slice none 0 0⟩ :: [⟨b7, true, 0, .slice aa L1.length ca⟩, ⟨b8, false, 0, .slice ab L2.length cb⟩, ⟨b9, false, 0, .slice ac L3.length cc⟩]) _) := Lib.hid (((ST3.out.below (growB hg)).add (by have := ST3.out.size; omega) k10 (by intro p hp; have := lt_of_block (ST3.out.2.2.1 p hp).2; omega)).own o5 ST3.out.size)
          have ST5 := Lib.hid (ST4.out.put (bl1 := []) false 0 (.slice a5 L4.length c5))
          obtain ⟨c0, c1, c2⟩ := cells3 k10
          have f0 := free3 k10 0
          have f1 := free3 k10 1
          have f2 := free3 k10 2
          clear hall hg h5 h6 h7 e5 e6 e7 o5 n10 k10 ST4 ST3
          refine wpPlan_act rfl ?_
          simp only [pickOps, List.drop_succ_cons, List.drop_zero, List.take_succ_cons, List.take_zero, List.cons_append, List.nil_append]
          go_wp2_with fail
          refine ⟨fun h => absurd h (by decide), wpPlan_nil ?_⟩
          clear c0 c1 c2 f0 f1 f2
          generalize (((wz.setCell ⟨b10, 0, none⟩ (.bool false)).setCell ⟨b10, 1, none⟩ (.int .i64 0)).setCell ⟨b10, 2, none⟩ (.slice a5 L4.length c5)) = wb at *
          have HX1 : Hid (∀ x ∈ L1, x.length ≤ 9223372036854775000) := Lib.hid (fun x hx => Nat.le_trans (segB_small (G1.out.2 x hx)) (by omega))
          have HX2 : Hid (∀ x ∈ L2, x.length ≤ 9223372036854775000) := Lib.hid (fun x hx => Nat.le_trans (segB_small (G2.out.2 x hx)) (by omega))
          have HX3 : Hid (∀ x ∈ L3, x.length ≤ 9223372036854775000) := Lib.hid (fun x hx => Nat.le_trans (segB_small (G3.out.2 x hx)) (by omega))
          have HX4 : Hid (∀ x ∈ L4, x.length ≤ 9223372036854775000) := Lib.hid (fun x hx => Nat.le_trans (segB_small (G4.out.2.2 x hx)) (by omega))
          obtain ⟨X, hX⟩ : ∃ X, Hid (L1 ++ L2 = X) := ⟨_, Lib.hid rfl⟩
          have GX : Hid (X.length ≤ 24 ∧ 0 < X.length ∧ ∀ x ∈ X, segB x = true) := Lib.hid (by
            rw [← hX.out, List.length_append]
            have := G2.out.1
            have := G1.out.1
            refine ⟨by omega, by omega, fun x hx => ?_⟩
            rcases List.mem_append.1 hx with hx | hx
            · exact G1.out.2 x hx
            · exact G2.out.2 x hx)
          have HXX : Hid (∀ x ∈ X, x.length ≤ 9223372036854775000) := Lib.hid (fun x hx => Nat.le_trans (segB_small (GX.out.2.2 x hx)) (by omega))
          have HJ1 : Hid (joinV true 0 L1 false 0 L2 = some X) := Lib.hid (by
            have := G1.out.1
            have := G2.out.1
            rw [joinV_rel (absB_mk (by omega) G1.out.2) (validB_mk (by omega) (by omega) (fun h => by cases h) (by omega) (.inr (.inr (by omega))) G2.out.2), if_pos (by omega), hX.out])
          obtain ⟨O, hO⟩ : ∃ O, Hid (joinV true 0 X false 0 L3 = O) := ⟨_, Lib.hid rfl⟩
          have HJ2 : Hid (joinV true 0 L1 false 0 L4 = O) := Lib.hid (by
            have := G1.out.1
            have := G2.out.1
            have := G3.out.1
            have h4 := G4.out
            rw [← hO.out, joinV_rel (absB_mk (by have := GX.out.1; omega) GX.out.2.2) (validB_mk (by omega) (by omega) (fun h => by cases h) (by omega) (.inr (.inr (by omega))) G3.out.2), joinV_rel (absB_mk (by omega) G1.out.2) (validB_mk (by omega) (by omega) (fun h => by cases h) (by omega) (.inr (.inr (by omega))) h4.2.2), ← hX.out, ← hL4.out, List.length_append, List.length_append, List.append_assoc, Nat.add_assoc])
          have HJ3 : Hid (joinV true 0 X false 1 [] = some X.dropLast) := Lib.hid (by
            have h := GX.out
            unfold joinV
            rw [absB_mk (by omega) h.2.2, validB_mk (root := false) (up := 1) (l := []) (by omega) (by omega) (fun h => by cases h) (by simp) (.inr (.inl (by omega))) (by simp)]
            simp only [Bool.true_eq_false, if_false, Bool.false_eq_true]
            rw [if_neg (by simp; omega)]
            simp [List.dropLast_eq_take])
          have HP : Hid (parR true 0 X = true) := Lib.hid (by
            have h := GX.out
            unfold parR
            rw [absB_mk (by omega) h.2.2, Bool.true_and]
            exact decide_eq_true (List.length_pos_iff.1 h.2.1))
          have HLO := Lib.hid (joinV_small hO.out)
          obtain ⟨D, hD⟩ : ∃ D, Hid (X.dropLast = D) := ⟨_, Lib.hid rfl⟩
          have HLD : Hid (D.length ≤ 1000) := Lib.hid (by have := GX.out.1; rw [← hD.out]; simp; omega)
          rw [hD.out] at HJ3
          have ST := ST5
          clear ST5
          obtain ⟨c0, c1, c2⟩ := ST.out.cells (b := b7) (r := true) (n := 0) (v := .slice aa L1.length ca) (by simp)
          obtain ⟨d0, d1, d2⟩ := ST.out.cells (b := b8) (r := false) (n := 0) (v := .slice ab L2.length cb) (by simp)
          have HN := Lib.hid (join_any _ _ true false 0 0 L1 L2 _ (PathV.mk (ST.out.strs (l := L1) (v := .slice aa L1.length ca) (by simp) (by have := G1.out.1; omega))) (PathV.mk (ST.out.strs (l := L2) (v := .slice ab L2.length cb) (by simp) (by have := G2.out.1; omega))) HX1.out HX2.out)
          rw [HJ1.out] at HN
          go_wp2_with fail
          ((with_reducible refine HN.out.mono ?_))
          rintro e wc ⟨v4, rfl, ho, hb⟩
          simp only [Option.isSome_some, Option.getD_some] at ho ⊢
          obtain ⟨a_wc, c_wc, rfl⟩ := own_form ho
          have STN := Lib.hid (((ST.out.below hb).own ho (Nat.le_trans ST.out.size (Nat.le_refl _))).new true 0 (.slice a_wc X.length c_wc))
          clear hb ho HN ST c0 c1 c2 d0 d1 d2
          have ST := STN
          clear STN
          go_upto_region 9 with fail
          generalize (wc.alloc (pObj true 0 (.slice a_wc X.length c_wc))) = wd at *
          obtain ⟨c0, c1, c2⟩ := ST.out.cells (b := wc.heap.size) (r := true) (n := 0) (v := .slice a_wc X.length c_wc) (by simp)
          obtain ⟨d0, d1, d2⟩ := ST.out.cells (b := b9) (r := false) (n := 0) (v := .slice ac L3.length cc) (by simp)
          have HN := Lib.hid (join_any _ _ true false 0 0 X L3 _ (PathV.mk (ST.out.strs (l := X) (v := .slice a_wc X.length c_wc) (by simp) (by have := GX.out.1; omega))) (PathV.mk (ST.out.strs (l := L3) (v := .slice ac L3.length cc) (by simp) (by have := G3.out.1; omega))) HXX.out HX3.out)
          rw [hO.out] at HN
          go_wp2_with fail
          ((with_reducible refine HN.out.mono ?_))
          rintro e we ⟨v4, rfl, ho, hb⟩
          obtain ⟨a_we, c_we, rfl⟩ := own_form ho
          have STN := Lib.hid (((ST.out.below hb).own ho (Nat.le_trans ST.out.size (Nat.le_refl _))).new O.isSome 0 (.slice a_we (O.getD []).length c_we))
          clear hb ho HN ST c0 c1 c2 d0 d1 d2
          have ST := STN
          clear STN
          go_upto_region 10 with fail
          generalize (we.alloc (pObj O.isSome 0 (.slice a_we (O.getD []).length c_we))) = wf at *
          obtain ⟨c0, c1, c2⟩ := ST.out.cells (b := b7) (r := true) (n := 0) (v := .slice aa L1.length ca) (by simp)
          obtain ⟨d0, d1, d2⟩ := ST.out.cells (b := b10) (r := false) (n := 0) (v := .slice a5 L4.length c5) (by simp)
          have HN := Lib.hid (join_any _ _ true false 0 0 L1 L4 _ (PathV.mk (ST.out.strs (l := L1) (v := .slice aa L1.length ca) (by simp) (by have := G1.out.1; omega))) (PathV.mk (ST.out.strs (l := L4) (v := .slice a5 L4.length c5) (by simp) (by have := G4.out.1; omega))) HX1.out HX4.out)
          rw [HJ2.out] at HN
          go_wp2_with fail
          ((with_reducible refine HN.out.mono ?_))
          rintro e wg ⟨v4, rfl, ho, hb⟩
          obtain ⟨a_wg, c_wg, rfl⟩ := own_form ho
          have STN := Lib.hid (((ST.out.below hb).own ho (Nat.le_trans ST.out.size (Nat.le_refl _))).new O.isSome 0 (.slice a_wg (O.getD []).length c_wg))
          clear hb ho HN ST c0 c1 c2 d0 d1 d2
          have ST := STN
          clear STN
          go_upto_region 11 with fail
          generalize (wg.alloc (pObj O.isSome 0 (.slice a_wg (O.getD []).length c_wg))) = wh at *
          obtain ⟨c0, c1, c2⟩ := ST.out.cells (b := wc.heap.size) (r := true) (n := 0) (v := .slice a_wc X.length c_wc) (by simp)
          have HN := Lib.hid (parent_any _ true 0 X _ (PathV.mk (ST.out.strs (l := X) (v := .slice a_wc X.length c_wc) (by simp) (by have := GX.out.1; omega))) HXX.out)
          rw [HP.out, if_pos rfl, hD.out] at HN
          go_wp2_with fail
          ((with_reducible refine HN.out.mono ?_))
          rintro e wi ⟨v4, rfl, ho, hb⟩
          obtain ⟨a_wi, c_wi, rfl⟩ := own_form ho
          have STN := Lib.hid (((ST.out.below hb).own ho (Nat.le_trans ST.out.size (Nat.le_refl _))).new true 0 (.slice a_wi D.length c_wi))
          clear hb ho HN ST c0 c1 c2
          have ST := STN
          clear STN
          go_upto_region 12 with fail
          generalize (wi.alloc (pObj true 0 (.slice a_wi D.length c_wi))) = wj at *
          obtain ⟨c0, c1, c2⟩ := ST.out.cells (b := wc.heap.size) (r := true) (n := 0) (v := .slice a_wc X.length c_wc) (by simp)
          have HN := Lib.hid (join_any _ _ true false 0 1 X [] _ (PathV.mk (ST.out.strs (l := X) (v := .slice a_wc X.length c_wc) (by simp) (by have := GX.out.1; omega))) (PathV.mk (StrsAt.nil _)) HXX.out (by simp))
          rw [HJ3.out] at HN
          go_wp2_with fail
          ((with_reducible refine HN.out.mono ?_))
          rintro e wk ⟨v4, rfl, ho, hb⟩
          simp only [Option.isSome_some, Option.getD_some] at ho ⊢
          obtain ⟨a_wk, c_wk, rfl⟩ := own_form ho
          have STN := Lib.hid (((ST.out.below hb).own ho (Nat.le_trans ST.out.size (Nat.le_refl _))).new true 0 (.slice a_wk D.length c_wk))
          clear hb ho HN ST c0 c1 c2
          have ST := STN
          clear STN
          go_upto_region 13 with fail
          generalize (wk.alloc (pObj true 0 (.slice a_wk D.length c_wk))) = wl at *
          generalize O.isSome = I at *
          cases I
          all_goals
            go_wp2_with fail
            ((with_reducible refine (awake_any m _ (HM.out _ ST.out.bel)).mono ?_))
            rintro e wm ⟨rfl, hb⟩
            have ST2 := Lib.hid (ST.out.below hb)
            clear hb ST
            have ST := ST2
            clear ST2
            obtain ⟨c0, c1, c2⟩ := cells3 (ST.out.has (b := we.heap.size) (n := 0) (v := .slice a_we (O.getD []).length c_we) (.tail _ (.tail _ (.tail _ (.head _)))))
            obtain ⟨d0, d1, d2⟩ := cells3 (ST.out.has (b := wg.heap.size) (n := 0) (v := .slice a_wg (O.getD []).length c_wg) (.tail _ (.tail _ (.head _))))
            go_wp2_with fail
            ((with_reducible refine (same_any _ _ _ _ 0 0 (O.getD []) (O.getD []) _ (PathV.mk (ST.out.strs (l := O.getD []) (v := .slice a_we (O.getD []).length c_we) (by simp) (by have := HLO.out; omega))) (PathV.mk (ST.out.strs (l := O.getD []) (v := .slice a_wg (O.getD []).length c_wg) (by simp) (by have := HLO.out; omega)))).mono ?_))
            rintro e wn ⟨rfl, hb⟩
            rw [sameB_self]
            have ST2 := Lib.hid (ST.out.below hb)
            clear hb ST c0 c1 c2 d0 d1 d2
            have ST := ST2
            clear ST2
            obtain ⟨c0, c1, c2⟩ := ST.out.cells (b := wi.heap.size) (r := true) (n := 0) (v := .slice a_wi D.length c_wi) (by simp)
            obtain ⟨d0, d1, d2⟩ := ST.out.cells (b := wk.heap.size) (r := true) (n := 0) (v := .slice a_wk D.length c_wk) (by simp)
            go_wp2_with fail
            ((with_reducible refine (same_any _ _ true true 0 0 D D _ (PathV.mk (ST.out.strs (l := D) (v := .slice a_wi D.length c_wi) (by simp) HLD.out)) (PathV.mk (ST.out.strs (l := D) (v := .slice a_wk D.length c_wk) (by simp) HLD.out))).mono ?_))
            rintro e wo ⟨rfl, hb⟩
            rw [sameB_self]
            have ST2 := Lib.hid (ST.out.below hb)
            clear hb ST c0 c1 c2 d0 d1 d2
            go_wp2_with fail
            go_ret
            exact ⟨rfl, ST2.out.bel⟩
end Go.Proofs.YtkalnblbplaheaaDoor
