/- NspathDoesNotAlias: the walk. -/
import Derived.Test.YtkalnblbplaheaaDoorNta
import Derived.Test.YtkalnblbplaheaaDoorNsy
namespace Go.Proofs.YtkalnblbplaheaaDoor
open Go.RowKit
set_option linter.unusedVariables false
set_option linter.unusedSimpArgs false
attribute [local go_sem] ByteArray.mk_append_mk bs_get bs_cut bs_end

theorem St.over {w w1 w2 : World} {bl : List PB} {ol : List (Value × List (List UInt8))} {B : Nat} (h : St w w1 bl ol) (ho : OW B w1 w2) (hlt : ∀ q ∈ ol, ∀ g, q.1.ownBlock = some g → g < B) (hB : w.heap.size ≤ B) : St w w2 bl ol := by
  refine ⟨h.1.trans (ho.1.mono hB), h.2.1, fun p hp => ⟨(h.2.2.1 p hp).1, ho.2.1 _ _ (h.2.2.1 p hp).2⟩, fun q hq => ?_⟩
  have hr := h.2.2.2 q hq
  refine ⟨hr.1, ?_⟩
  rcases hr.2 with h0 | ⟨g, cap, cur, h1, h2, h3, h4⟩
  · exact .inl h0
  · exact .inr ⟨g, cap, cur, h1, h2, (ho.1.block g (hlt q hq g (by rw [h1]; rfl))).trans h3, h4⟩
/-- A slice of paths whose segments are rows of the call's own. -/
def PR (w : World) (B : Nat) (v : Value) (n : Nat) : Prop := ∃ vs : List Value, vs.length = n ∧ w.ownsRow B 24 3 v n (segCells vs) ∧ ∀ i (h : i < vs.length), ∃ m, m ≤ 1000 ∧ RowS w B vs[i] m
theorem PR.of {w : World} {B : Nat} {v : Value} {ls : List (List (List UInt8))} (h : PsOwn w B v ls) (hl : ∀ l ∈ ls, l.length ≤ 1000) : PR w B v ls.length := by
  obtain ⟨vs, h1, h2, h3⟩ := h
  exact ⟨vs, h1, h2, fun i hi => ⟨_, hl _ (List.getElem_mem (by omega)), RowS.of (h3 i hi (by omega))⟩⟩
theorem PR.over {w w' : World} {B B' : Nat} {v : Value} {n : Nat} (h : PR w B v n) (ho : OW B' w w') : PR w' B v n := by
  obtain ⟨vs, h1, h2, h3⟩ := h
  refine ⟨vs, h1, ⟨h2.1, ?_⟩, fun i hi => ?_⟩
  · rcases h2.2 with h0 | ⟨g, cap, cur, q1, q2, q3, q4⟩
    · exact .inl h0
    · exact .inr ⟨g, cap, cur, q1, q2, ho.2.1 _ _ q3, q4⟩
  · obtain ⟨m, hm, hr⟩ := h3 i hi
    exact ⟨m, hm, ho.2.2 _ _ _ hr⟩
theorem PR.at {w : World} {B : Nat} {v : Value} {n : Nat} (h : PR w B v n) (hn : n ≠ 0) : ∃ g cap, v = .slice (some ⟨g, 0, none⟩) n cap ∧ ∀ k (hk : k < n), ∃ vk m, m ≤ 1000 ∧ w.cell? ⟨g, k * 3 + 2, none⟩ = some vk ∧ RowS w B vk m := by
  obtain ⟨vs, h1, h2, h3⟩ := h
  rcases h2.2 with ⟨_, h0⟩ | ⟨g, cap, cur, rfl, hB, hg, hn1, hm, hs, ht⟩
  · exact absurd h0 hn
  · refine ⟨g, cap, rfl, fun k hk => ?_⟩
    obtain ⟨e0, e1, e2⟩ := segCells_get vs k (by omega)
    rw [Nat.mul_comm 3 k] at e2
    obtain ⟨m, hm1, hr⟩ := h3 k (by omega)
    refine ⟨vs[k], m, hm1, ?_, hr⟩
    rw [cell_of_row w g (k * 3 + 2) cur _ _ hg]
    have : (segCells vs)[k * 3 + 2]? = cur[k * 3 + 2]? := by rw [← ht, List.getElem?_take, if_pos (by omega), Array.getElem?_toList]
    rw [← this, e2]
theorem PR.form {w : World} {B : Nat} {v : Value} {n : Nat} (h : PR w B v n) : ∃ a c, v = .slice a n c := by
  obtain ⟨vs, h1, h2, h3⟩ := h
  exact own_form h2
theorem PR.below {w w' : World} {B : Nat} {v : Value} {n : Nat} (h : PR w B v n) (hb : Below w.heap.size w w') : PR w' B v n := by
  obtain ⟨vs, h1, h2, h3⟩ := h
  refine ⟨vs, h1, own_below h2 hb, fun i hi => ?_⟩
  obtain ⟨m, hm, hr⟩ := h3 i hi
  exact ⟨m, hm, hr.below hb⟩
/-- A path of the call's own. -/
def PIs (r : Bool) (n : Int) (l : List (List UInt8)) (B : Nat) (w : World) (v : Value) : Prop := ∃ a c, v = .agg #[.bool r, .int .i64 n, .slice a l.length c] ∧ w.ownsRow B 9 1 (.slice a l.length c) l.length (l.map strV)
def kind2 (r2 : Bool) (n2 : Int) (l1 l2 : List (List UInt8)) (B : Nat) : Nat → World → Value → Prop
  | 1 => PIs true 0 l1 B
  | _ => PIs r2 n2 l2 B
def newO2 : Nat → Option Obj
  | 4 => some (pObj false 0 (.slice none 0 0))
  | 5 => some (pObj false 0 (.slice none 0 0))
  | _ => none
theorem PIs.of {w w' : World} {r : Bool} {n : Int} {l : List (List UInt8)} {v : Value} {B : Nat} (h : w'.ownsRow w.heap.size 9 1 v l.length (l.map strV)) (hB : B ≤ w.heap.size) : PIs r n l B w' (.agg #[.bool r, .int .i64 n, v]) := by
  obtain ⟨a, c, rfl⟩ := own_form h
  exact ⟨a, c, rfl, own_base h hB⟩
theorem PIs.keep {r : Bool} {n : Int} {l : List (List UInt8)} {B : Nat} {x y : World} {v : Value} (h : PIs r n l B x v) (hb : Below x.heap.size x y) : PIs r n l B y v := by
  obtain ⟨a, c, h1, h2⟩ := h
  exact ⟨a, c, h1, own_below h2 hb⟩
theorem kind2_keep {r2 : Bool} {n2 : Int} {l1 l2 : List (List UInt8)} {B : Nat} : ∀ (i : Nat) (x y : World) (v : Value), kind2 r2 n2 l1 l2 B i x v → Below x.heap.size x y → kind2 r2 n2 l1 l2 B i y v := by
  intro i x y v h hb
  unfold kind2 at h ⊢
  split at h
  · exact h.keep hb
  · exact h.keep hb
/-- Two new variables, apart. -/
theorem St.two {w wr : World} (h : Below w.heap.size w wr) {b7 b8 : Nat} (k7 : wr.heap[b7]? = some (pObj false 0 (.slice none 0 0))) (k8 : wr.heap[b8]? = some (pObj false 0 (.slice none 0 0)))
    (n7 : w.heap.size ≤ b7) (n8 : w.heap.size ≤ b8) (d1 : b7 ≠ b8) {ol : List (Value × List (List UInt8))} (ho : ∀ q ∈ ol, wr.ownsRow w.heap.size 9 1 q.1 q.2.length (q.2.map strV)) :
    St w wr [⟨b7, false, 0, .slice none 0 0⟩, ⟨b8, false, 0, .slice none 0 0⟩] ol := by
  refine ⟨h, by simp [d1], ?_, ho⟩
  intro p hp
  simp only [List.mem_cons, List.not_mem_nil, or_false] at hp
  rcases hp with rfl | rfl
  · exact ⟨n7, k7⟩
  · exact ⟨n8, k8⟩
theorem St.lt {w wr : World} {bl : List PB} {ol : List (Value × List (List UInt8))} (h : St w wr bl ol) : ∀ q ∈ ol, ∀ g, q.1.ownBlock = some g → g < wr.heap.size := fun q hq g hg => own_lt (h.2.2.2 q hq) hg
set_option maxRecDepth 100000 in
set_option maxHeartbeats 2000000 in
theorem alias_walk (p q : Value) (r1 : Bool) (u1 : Int) (l1 : List (List UInt8)) (r2 : Bool) (u2 : Int) (l2 : List (List UInt8)) (w : World) (m : Int) (hm : w.cell? ⟨0, 0, none⟩ = some (.int .i64 m)) (hp : PathV w p r1 u1 l1) (hq : PathV w q r2 u2 l2) (hx1 : ∀ x ∈ l1, x.length ≤ 140737488351232) (hx2 : ∀ x ∈ l2, x.length ≤ 140737488351232) :
    Calls Tryd.prog 10 #[p, q] w fun e w' => e = .returned (.bool true) ∧ Below w.heap.size w w' := by
  obtain ⟨v1, rfl, s1⟩ := hp
  obtain ⟨v2, rfl, s2⟩ := hq
  have HT := Lib.hid (C2.start w (pObj r1 u1 v1) (pObj r2 u2 v2))
  have S1 : Hid (∀ wr, Below w.heap.size w wr → StrsAt wr v1 l1) := Lib.hid (fun wr h => s1.below h)
  have S2 : Hid (∀ wr, Below w.heap.size w wr → StrsAt wr v2 l2) := Lib.hid (fun wr h => s2.below h)
  have X1 := Lib.hid (segV_small hx1)
  have X2 := Lib.hid (segV_small hx2)
  have XP := Lib.hid (pathL_small hx2)
  have HM : Hid (∀ wr, Below w.heap.size w wr → wr.cell? ⟨0, 0, none⟩ = some (.int .i64 m)) := Lib.hid (fun wr h => keep0 hm h (Nat.le_refl _))
  obtain ⟨a1, cap1, rfl, _⟩ := s1.form
  obtain ⟨a2, cap2, rfl, _⟩ := s2.form
  clear hx1 hx2 s1 s2 hm
  obtain ⟨L1, hL1⟩ : ∃ L, Hid (absL l1 = L) := ⟨_, Lib.hid rfl⟩
  obtain ⟨L2, hL2⟩ : ∃ L, Hid (pathL l2 = L) := ⟨_, Lib.hid rfl⟩
  obtain ⟨U, hU⟩ : ∃ U, Hid (upV r2 u2 = U) := ⟨_, Lib.hid rfl⟩
  have G1 : Hid (L1.length ≤ 12 ∧ ∀ x ∈ L1, segB x = true) := Lib.hid (by rw [← hL1.out]; exact ⟨absL_len l1, absL_seg l1⟩)
  have G2 : Hid (L2.length ≤ 34) := Lib.hid (by rw [← hL2.out, pathL_len]; omega)
  have HX1 : Hid (∀ x ∈ L1, x.length ≤ 9223372036854775000) := Lib.hid (fun x hx => Nat.le_trans (segB_small (G1.out.2 x hx)) (by omega))
  have HX2 : Hid (∀ x ∈ L2, x.length ≤ 9223372036854775000) := Lib.hid (by rw [← hL2.out]; exact XP.out)
  clear XP
  go_enter Tryd.func10, Tryd.ntmps10
  go_upto_region 1 with fail
  generalize hw1 : (w.alloc (pObj r1 u1 (.slice a1 l1.length cap1))).alloc (pObj r2 u2 (.slice a2 l2.length cap2)) = w1 at *
  clear hw1
  obtain ⟨k0, k1, k2⟩ := grow3 HT.out.1
  obtain ⟨m0, m1, m2⟩ := grow3 HT.out.2.1
  refine wp_region_plan (Grows w1) 6 [.reads [0, 2], .bag [1, 3, 4, 5], .act 6, .act 7] (by kernel_rfl) (by kernel_rfl) (by kernel_rfl) (by kernel_rfl) (by kernel_rfl) (fun _ _ d _ _ h => by cases d <;> exact h) (Grows.self _) ?_
  refine wpPlan_reads ?_
  simp only [pickOps, List.drop_succ_cons, List.drop_zero, List.take_succ_cons, List.take_zero, List.cons_append, List.nil_append]
  repeat (go_big_quiet_step (first | (intro hb; rw [k0 _ hb]; simp only [Result.andThen]; rw [k1 _ hb]; simp only; rw [k2 _ hb]; exact ⟨rfl, rfl⟩) | (intro hb; rw [m0 _ hb]; simp only [Result.andThen]; rw [m1 _ hb]; simp only; rw [m2 _ hb]; exact ⟨rfl, rfl⟩)))
  refine wpQuiet_nil ?_
  clear k0 k1 k2 m0 m1 m2
  have HK := Lib.hid (kind2_keep (r2 := r2) (n2 := U) (l1 := L1) (l2 := L2) (B := w1.heap.size))
  refine wpPlan_bag (BagJ w1 (kind2 r2 U L1 L2 w1.heap.size) newO2) (fun _ => undef) rfl (BagJ.start _ _ _ _) ?_ ?_
  · intro j hj d u wz hd hdep HJ
    have HJ := Lib.hid HJ
    clear hdep hd
    simp only [List.mem_cons, List.not_mem_nil, or_false] at hj
    rcases hj with rfl | rfl | rfl | rfl
    · refine wpOp_list rfl ?_
      simp only [pickOps, List.drop_succ_cons, List.drop_zero, List.take_succ_cons, List.take_zero, List.cons_append, List.nil_append]
      simp only [fillOps, List.drop_succ_cons, List.drop_zero, List.take_succ_cons, List.take_zero, List.head?_cons, Option.bind_some, Act.put, List.setIfInBounds_toArray, List.set_cons_succ, List.set_cons_zero]
      go_wp2_with fail
      ((with_reducible refine (absolute_any _ r1 u1 l1 _ (PathV.mk (S1.out _ (HT.out.below (growB HJ.out.grows)).bel)) X1.out.1 X1.out.2).mono ?_))
      rintro e w5 ⟨v, rfl, ho, hb⟩
      rw [hL1.out] at ho
      have HJ5 := Lib.hid (HJ.out.call HK.out hb 1 rfl (PIs.of ho (Below.size HJ.out.grows)))
      clear hb HJ ho
      go_wp2_with fail
      exact ⟨fun _ => HJ5.out.grows, _, rfl, HJ5.out⟩
    · refine wpOp_list rfl ?_
      simp only [pickOps, List.drop_succ_cons, List.drop_zero, List.take_succ_cons, List.take_zero, List.cons_append, List.nil_append]
      simp only [fillOps, List.drop_succ_cons, List.drop_zero, List.take_succ_cons, List.take_zero, List.head?_cons, Option.bind_some, Act.put, List.setIfInBounds_toArray, List.set_cons_succ, List.set_cons_zero]
      go_wp2_with fail
      ((with_reducible refine (path_any _ r2 u2 l2 _ (PathV.mk (S2.out _ (HT.out.below (growB HJ.out.grows)).bel)) X2.out.1 X2.out.2).mono ?_))
      rintro e w5 ⟨v, rfl, ho, hb⟩
      rw [hL2.out] at ho
      rw [hU.out]
      have HJ5 := Lib.hid (HJ.out.call HK.out hb 3 rfl (PIs.of ho (Below.size HJ.out.grows)))
      clear hb HJ ho
      go_wp2_with fail
      exact ⟨fun _ => HJ5.out.grows, _, rfl, HJ5.out⟩
    · refine wpOp_list rfl ?_
      simp only [pickOps, List.drop_succ_cons, List.drop_zero, List.take_succ_cons, List.take_zero, List.cons_append, List.nil_append]
      simp only [fillOps, List.drop_succ_cons, List.drop_zero, List.take_succ_cons, List.take_zero, List.head?_cons, Option.bind_some, Act.put, List.setIfInBounds_toArray, List.set_cons_succ, List.set_cons_zero]
      go_wp2_with fail
      exact ⟨fun _ => (HJ.out.new HK.out 4 _ rfl).grows, _, rfl, HJ.out.new HK.out 4 _ rfl⟩
    · refine wpOp_list rfl ?_
      simp only [pickOps, List.drop_succ_cons, List.drop_zero, List.take_succ_cons, List.take_zero, List.cons_append, List.nil_append]
      simp only [fillOps, List.drop_succ_cons, List.drop_zero, List.take_succ_cons, List.take_zero, List.head?_cons, Option.bind_some, Act.put, List.setIfInBounds_toArray, List.set_cons_succ, List.set_cons_zero]
      go_wp2_with fail
      exact ⟨fun _ => (HJ.out.new HK.out 5 _ rfl).grows, _, rfl, HJ.out.new HK.out 5 _ rfl⟩
  · intro d u wz hall HJ
    have q1 := hall 1 (by simp)
    have q3 := hall 3 (by simp)
    have q4 := hall 4 (by simp)
    have q5 := hall 5 (by simp)
    obtain ⟨aa, ca, e1, o1⟩ : PIs true 0 L1 _ _ _ := HJ.value 1 q1 rfl
    obtain ⟨ab, cb, e3, o3⟩ : PIs r2 U L2 _ _ _ := HJ.value 3 q3 rfl
    obtain ⟨b5, n5, e4, k5⟩ := HJ.block 4 _ q4 rfl
    obtain ⟨b6, n6, e5, k6⟩ := HJ.block 5 _ q5 rfl
    have d1 := HJ.apart q4 q5 rfl rfl e4 e5 (by decide)
    simp only [fillOps, List.drop_succ_cons, List.drop_zero, List.take_succ_cons, List.take_zero, List.head?_cons, Option.bind_some, Act.put, List.setIfInBounds_toArray, List.set_cons_succ, List.set_cons_zero]
    rw [e1, e3, e4, e5]
    have hsz := HT.out.bel.size
    have ST : Hid (St w wz _ [(.slice aa L1.length ca, L1), (.slice ab L2.length cb, L2)]) := Lib.hid (St.two (HT.out.below (growB HJ.grows)).bel k5 k6 (by omega) (by omega) d1 (by
      intro q hq
      simp only [List.mem_cons, List.not_mem_nil, or_false] at hq
      rcases hq with rfl | rfl
      · exact own_base o1 hsz
      · exact own_base o3 hsz))
    clear HJ hall q1 q3 q4 q5 e1 e3 e4 e5 o1 o3 n5 n6 k5 k6 d1 hsz HT S1 S2 X1 X2 hL1 hL2 HK hU
    obtain ⟨c0, c1, c2⟩ := ST.out.cells (b := b5) (r := false) (n := 0) (v := .slice none 0 0) (by simp)
    have fr := ST.out.has (b := b5) (r := false) (n := 0) (v := .slice none 0 0) (by simp)
    have f0 := free3 fr 0
    have f1 := free3 fr 1
    have f2 := free3 fr 2
    have ST2 := Lib.hid (ST.out.put (bl1 := []) true 0 (.slice aa L1.length ca))
    clear fr ST
    refine wpPlan_act rfl ?_
    simp only [pickOps, List.drop_succ_cons, List.drop_zero, List.take_succ_cons, List.take_zero, List.cons_append, List.nil_append]
    go_wp2_with fail
    refine ⟨fun h => absurd h (by decide), ?_⟩
    clear c0 c1 c2 f0 f1 f2
    generalize (((wz.setCell ⟨b5, 0, none⟩ (.bool true)).setCell ⟨b5, 1, none⟩ (.int .i64 0)).setCell ⟨b5, 2, none⟩ (.slice aa L1.length ca)) = wz5 at *
    have ST := ST2
    clear ST2
    obtain ⟨c0, c1, c2⟩ := ST.out.cells (b := b6) (r := false) (n := 0) (v := .slice none 0 0) (by simp)
    have fr := ST.out.has (b := b6) (r := false) (n := 0) (v := .slice none 0 0) (by simp)
    have f0 := free3 fr 0
    have f1 := free3 fr 1
    have f2 := free3 fr 2
    have ST2 := Lib.hid (ST.out.put (bl1 := [⟨b5, true, 0, .slice aa L1.length ca⟩]) r2 U (.slice ab L2.length cb))
    clear fr ST
    refine wpPlan_act rfl ?_
    simp only [pickOps, List.drop_succ_cons, List.drop_zero, List.take_succ_cons, List.take_zero, List.cons_append, List.nil_append]
    go_wp2_with fail
    refine ⟨fun h => absurd h (by decide), ?_⟩
    clear c0 c1 c2 f0 f1 f2
    generalize (((wz5.setCell ⟨b6, 0, none⟩ (.bool r2)).setCell ⟨b6, 1, none⟩ (.int .i64 U)).setCell ⟨b6, 2, none⟩ (.slice ab L2.length cb)) = wz6 at *
    have ST := ST2
    clear ST2
    refine wpPlan_nil ?_
    go_upto_region 2 with fail
    have ST' : Hid (St w wz6 [⟨b5, true, 0, .slice aa L1.length ca⟩, ⟨b6, r2, U, .slice ab L2.length cb⟩] [(.slice aa L1.length ca, L1), (.slice ab L2.length cb, L2)]) := ST
    clear ST
    have ST := ST'
    clear ST'
    obtain ⟨k0, k1, k2⟩ := grow3 (ST.out.has (b := b5) (r := true) (n := 0) (v := .slice aa L1.length ca) (by simp))
    obtain ⟨m0, m1, m2⟩ := grow3 (ST.out.has (b := b6) (r := r2) (n := U) (v := .slice ab L2.length cb) (by simp))
    refine wp_region_plan (Grows wz6) 7 [.reads [0, 1, 3, 4], .act 2, .reads [6], .act 5, .act 7, .act 8, .act 9] (by kernel_rfl) (by kernel_rfl) (by kernel_rfl) (by kernel_rfl) (by kernel_rfl) (fun _ _ d _ _ h => by cases d <;> exact h) (Grows.self _) ?_
    have HG : Hid (Grows wz6 wz6.drew) := Lib.hid (Grows.self wz6)
    refine wpPlan_reads ?_
    simp only [pickOps, List.drop_succ_cons, List.drop_zero, List.take_succ_cons, List.take_zero, List.cons_append, List.nil_append]
    repeat (go_big_quiet_step (first | (intro hb; rw [k2 _ hb]; exact ⟨rfl, rfl⟩) | (intro hb; rw [m2 _ hb]; exact ⟨rfl, rfl⟩)))
    refine wpQuiet_nil ?_
    clear k0 k1 k2 m0 m1 m2
    obtain ⟨F1, hF1⟩ : ∃ F, Hid (L1 ++ [[83, 80], [83, 80], [83, 80]] = F) := ⟨_, Lib.hid rfl⟩
    obtain ⟨F2, hF2⟩ : ∃ F, Hid (L2 ++ [[83, 80], [83, 80], [83, 80]] = F) := ⟨_, Lib.hid rfl⟩
    have ST2 := Lib.hid (ST.out.below (growB HG.out))
    refine wpPlan_act rfl ?_
    simp only [pickOps, List.drop_succ_cons, List.drop_zero, List.take_succ_cons, List.take_zero, List.cons_append, List.nil_append]
    go_wp2_with fail
    ((with_reducible refine (withSpare_any _ L1 [83, 80] _ (ST2.out.strs (l := L1) (v := .slice aa L1.length ca) (by simp) (by have := G1.out.1; omega)) (by have := G1.out.1; omega)).mono ?_))
    rintro e wx ⟨g1, y1, rfl, ho, hb⟩
    rw [hF1.out] at ho
    have HG2 := Lib.hid (HG.out.trans hb)
    have ST3 := Lib.hid ((ST2.out.below hb).own ho ST2.out.size)
    clear ho hb HG ST2
    go_wp2_with fail
    refine ⟨fun _ => HG2.out, ?_⟩
    refine wpPlan_reads ?_
    simp only [pickOps, List.drop_succ_cons, List.drop_zero, List.take_succ_cons, List.take_zero, List.cons_append, List.nil_append]
    repeat (go_big_quiet_step (fail))
    refine wpQuiet_nil ?_
    refine wpPlan_act rfl ?_
    simp only [pickOps, List.drop_succ_cons, List.drop_zero, List.take_succ_cons, List.take_zero, List.cons_append, List.nil_append]
    go_wp2_with fail
    ((with_reducible refine (withSpare_any _ L2 [83, 80] _ (ST3.out.strs (l := L2) (v := .slice ab L2.length cb) (by simp) (by have := G2.out; omega)) (by have := G2.out; omega)).mono ?_))
    rintro e wy ⟨g2, y2, rfl, ho, hb⟩
    rw [hF2.out] at ho
    have HG3 := Lib.hid (HG2.out.trans hb)
    have ST4 := Lib.hid ((ST3.out.below hb).own ho ST3.out.size)
    clear ho hb HG2 ST3 ST
    go_wp2_with fail
    refine ⟨fun _ => HG3.out, ?_⟩
    obtain ⟨c0, c1, c2⟩ := ST4.out.cells (b := b5) (r := true) (n := 0) (v := .slice aa L1.length ca) (by simp)
    have f2 := free3 (ST4.out.has (b := b5) (r := true) (n := 0) (v := .slice aa L1.length ca) (by simp)) 2
    have ST5 := Lib.hid (ST4.out.segs (bl1 := []) (b := b5) (.slice (some ⟨g1, 0, none⟩) L1.length (L1.length + 3)))
    refine wpPlan_act rfl ?_
    simp only [pickOps, List.drop_succ_cons, List.drop_zero, List.take_succ_cons, List.take_zero, List.cons_append, List.nil_append]
    go_wp2_with fail
    refine ⟨fun h => absurd h (by decide), ?_⟩
    refine wpPlan_act rfl ?_
    simp only [pickOps, List.drop_succ_cons, List.drop_zero, List.take_succ_cons, List.take_zero, List.cons_append, List.nil_append]
    go_wp2_with fail
    refine ⟨fun h => absurd h (by decide), ?_⟩
    clear c0 c1 c2 f2 ST4 HG3
    generalize (wy.setCell ⟨b5, 2, none⟩ (.slice (some ⟨g1, 0, none⟩) L1.length (L1.length + 3))) = wa at *
    obtain ⟨c0, c1, c2⟩ := ST5.out.cells (b := b6) (r := r2) (n := U) (v := .slice ab L2.length cb) (by simp)
    have f2 := free3 (ST5.out.has (b := b6) (r := r2) (n := U) (v := .slice ab L2.length cb) (by simp)) 2
    have ST6 := Lib.hid (ST5.out.segs (bl1 := [_]) (b := b6) (.slice (some ⟨g2, 0, none⟩) L2.length (L2.length + 3)))
    refine wpPlan_act rfl ?_
    simp only [pickOps, List.drop_succ_cons, List.drop_zero, List.take_succ_cons, List.take_zero, List.cons_append, List.nil_append]
    go_wp2_with fail
    refine ⟨fun h => absurd h (by decide), wpPlan_nil ?_⟩
    clear c0 c1 c2 f2 ST5
    generalize (wa.setCell ⟨b6, 2, none⟩ (.slice (some ⟨g2, 0, none⟩) L2.length (L2.length + 3))) = wb at *
    have ST : Hid (St w wb [⟨b5, true, 0, .slice (some ⟨g1, 0, none⟩) L1.length (L1.length + 3)⟩, ⟨b6, r2, U, .slice (some ⟨g2, 0, none⟩) L2.length (L2.length + 3)⟩] [(.slice (some ⟨g2, 0, none⟩) F2.length y2, F2), (.slice (some ⟨g1, 0, none⟩) F1.length y1, F1), (.slice aa L1.length ca, L1), (.slice ab L2.length cb, L2)]) := ST6
    clear ST6
    have HSP1 : Hid (∀ x, x.ownsRow w.heap.size 9 1 (.slice (some ⟨g1, 0, none⟩) F1.length y1) F1.length (F1.map strV) → StrsAt x (.slice (some ⟨g1, 0, none⟩) L1.length (L1.length + 3)) L1) := Lib.hid (by
      intro x hx
      rw [← hF1.out] at hx
      exact StrsAt.spare hx (by have := G1.out.1; simp; omega) _ _ rfl (by omega))
    have HSP2 : Hid (∀ x, x.ownsRow w.heap.size 9 1 (.slice (some ⟨g2, 0, none⟩) F2.length y2) F2.length (F2.map strV) → StrsAt x (.slice (some ⟨g2, 0, none⟩) L2.length (L2.length + 3)) L2) := Lib.hid (by
      intro x hx
      rw [← hF2.out] at hx
      exact StrsAt.spare hx (by have := G2.out; simp; omega) _ _ rfl (by omega))
    go_upto_region 3 with fail
    obtain ⟨k0, k1, k2⟩ := grow3 (ST.out.has (b := b5) (r := true) (n := 0) (v := .slice (some ⟨g1, 0, none⟩) L1.length (L1.length + 3)) (by simp))
    obtain ⟨m0, m1, m2⟩ := grow3 (ST.out.has (b := b6) (r := r2) (n := U) (v := .slice (some ⟨g2, 0, none⟩) L2.length (L2.length + 3)) (by simp))
    refine wp_region_plan (Grows wb) 6 [.reads [0, 1, 3, 4], .act 2, .act 5, .act 6, .act 7] (by kernel_rfl) (by kernel_rfl) (by kernel_rfl) (by kernel_rfl) (by kernel_rfl) (fun _ _ d _ _ h => by cases d <;> exact h) (Grows.self _) ?_
    have HG : Hid (Grows wb wb.drew) := Lib.hid (Grows.self wb)
    refine wpPlan_reads ?_
    simp only [pickOps, List.drop_succ_cons, List.drop_zero, List.take_succ_cons, List.take_zero, List.cons_append, List.nil_append]
    repeat (go_big_quiet_step (first | (intro hb; rw [k2 _ hb]; exact ⟨rfl, rfl⟩) | (intro hb; rw [m2 _ hb]; exact ⟨rfl, rfl⟩)))
    refine wpQuiet_nil ?_
    clear k0 k1 k2 m0 m1 m2
    have ST2 := Lib.hid (ST.out.below (growB HG.out))
    refine wpPlan_act rfl ?_
    simp only [pickOps, List.drop_succ_cons, List.drop_zero, List.take_succ_cons, List.take_zero, List.cons_append, List.nil_append]
    go_wp2_with (at_builtin; refine wpList_append_strs rfl _ _ rfl wb.heap.size _ [] rfl (own_nil _ _) (.slice (some ⟨g1, 0, none⟩) L1.length (L1.length + 3)) L1 rfl (HSP1.out _ (ST2.out.owns (l := F1) (by simp))) (by have := G1.out.1; simp; omega) HG.out.size ?_; intro v4 w4 ho hg; obtain ⟨a4, c4, rfl⟩ := own_form ho; have HB4 : Hid (Below wb.drew.heap.size wb.drew w4) := Lib.hid ((Below.refl _ _).grown hg (Nat.le_refl _) (fun k h => by cases h)); have HO4 : Hid (w4.ownsRow wb.heap.size 9 1 (.slice a4 L1.length c4) L1.length (L1.map strV)) := Lib.hid ho; clear ho hg)
    have HG4 := Lib.hid (HG.out.trans HB4.out)
    have ST4 := Lib.hid ((ST2.out.below HB4.out).own HO4.out ST.out.size)
    clear HB4 HO4 HG ST2
    refine ⟨fun _ => HG4.out, ?_⟩
    refine wpPlan_act rfl ?_
    simp only [pickOps, List.drop_succ_cons, List.drop_zero, List.take_succ_cons, List.take_zero, List.cons_append, List.nil_append]
    go_wp2_with (at_builtin; refine wpList_append_strs rfl _ _ rfl wb.heap.size _ [] rfl (own_nil _ _) (.slice (some ⟨g2, 0, none⟩) L2.length (L2.length + 3)) L2 rfl (HSP2.out _ (ST4.out.owns (l := F2) (by simp))) (by have := G2.out; simp; omega) HG4.out.size ?_; intro v5 w5 ho hg; obtain ⟨a5, c5, rfl⟩ := own_form ho; have HB5 : Hid (Below w4.heap.size w4 w5) := Lib.hid ((Below.refl _ _).grown hg (Nat.le_refl _) (fun k h => by cases h)); have HO5 : Hid (w5.ownsRow wb.heap.size 9 1 (.slice a5 L2.length c5) L2.length (L2.map strV)) := Lib.hid ho; clear ho hg)
    have HG5 := Lib.hid (HG4.out.trans HB5.out)
    have ST5 := Lib.hid ((ST4.out.below HB5.out).own HO5.out ST.out.size)
    clear HB5 HO5 HG4 ST4 ST
    refine ⟨fun _ => HG5.out, ?_⟩
    refine wpPlan_act rfl ?_
    simp only [pickOps, List.drop_succ_cons, List.drop_zero, List.take_succ_cons, List.take_zero, List.cons_append, List.nil_append]
    go_wp2_with fail
    refine ⟨fun h => absurd h (by decide), ?_⟩
    refine wpPlan_act rfl ?_
    simp only [pickOps, List.drop_succ_cons, List.drop_zero, List.take_succ_cons, List.take_zero, List.cons_append, List.nil_append]
    go_wp2_with fail
    refine ⟨fun h => absurd h (by decide), wpPlan_nil ?_⟩
    go_upto_region 4 with fail
    clear HG5
    have HLT := Lib.hid ST5.out.lt
    have HBB := Lib.hid ST5.out.size
    obtain ⟨B, hBe⟩ : ∃ B, Hid (w5.heap.size = B) := ⟨_, Lib.hid rfl⟩
    rw [hBe.out] at HLT HBB
    obtain ⟨O, hO⟩ : ∃ O, Hid (joinV true 0 L1 r2 U L2 = O) := ⟨_, Lib.hid rfl⟩
    have HLO := Lib.hid (joinV_small hO.out)
    obtain ⟨c0, c1, c2⟩ := ST5.out.cells (b := b5) (r := true) (n := 0) (v := .slice (some ⟨g1, 0, none⟩) L1.length (L1.length + 3)) (by simp)
    obtain ⟨d0, d1, d2⟩ := ST5.out.cells (b := b6) (r := r2) (n := U) (v := .slice (some ⟨g2, 0, none⟩) L2.length (L2.length + 3)) (by simp)
    have HN := Lib.hid (join_any _ _ true r2 0 U L1 L2 _ (PathV.mk (HSP1.out _ (ST5.out.owns (l := F1) (by simp)))) (PathV.mk (HSP2.out _ (ST5.out.owns (l := F2) (by simp)))) HX1.out HX2.out)
    rw [hO.out] at HN
    go_wp2_with fail
    ((with_reducible refine HN.out.mono ?_))
    rintro e w6 ⟨v6, rfl, ho, hb⟩
    rw [hBe.out] at ho
    obtain ⟨a6, c6, rfl⟩ := own_form ho
    have ST6 := Lib.hid ((ST5.out.below hb).new O.isSome 0 (.slice a6 (O.getD []).length c6))
    have HR6 := Lib.hid ((RowS.of ho).below (newBox w6 (pObj O.isSome 0 (.slice a6 (O.getD []).length c6))).1)
    have HB6 : Hid (B ≤ (w6.alloc (pObj O.isSome 0 (.slice a6 (O.getD []).length c6))).heap.size) := Lib.hid (by rw [← hBe.out]; exact Nat.le_trans hb.size (by simp))
    clear ho hb HN ST5 c0 c1 c2 d0 d1 d2
    go_upto_region 5 with fail
    generalize (w6.alloc (pObj O.isSome 0 (.slice a6 (O.getD []).length c6))) = w7 at *
    obtain ⟨R, hR⟩ : ∃ R, Hid (parR true 0 L1 = R) := ⟨_, Lib.hid rfl⟩
    obtain ⟨D, hD⟩ : ∃ D, Hid ((if parR true 0 L1 = true then L1.dropLast else []) = D) := ⟨_, Lib.hid rfl⟩
    have HLD : Hid (D.length ≤ 12) := Lib.hid (by rw [← hD.out]; have := G1.out.1; split <;> simp <;> omega)
    obtain ⟨c0, c1, c2⟩ := ST6.out.cells (b := b5) (r := true) (n := 0) (v := .slice (some ⟨g1, 0, none⟩) L1.length (L1.length + 3)) (by simp)
    have HN := Lib.hid (parent_any _ true 0 L1 _ (PathV.mk (HSP1.out _ (ST6.out.owns (l := F1) (by simp)))) HX1.out)
    rw [hD.out, hR.out] at HN
    go_wp2_with fail
    ((with_reducible refine HN.out.mono ?_))
    rintro e w8 ⟨v8, rfl, ho, hb⟩
    obtain ⟨a8, c8, rfl⟩ := own_form ho
    have ST8 := Lib.hid ((ST6.out.below hb).new R 0 (.slice a8 D.length c8))
    have HR7 := Lib.hid ((HR6.out.below hb).below (newBox w8 (pObj R 0 (.slice a8 D.length c8))).1)
    have HR8 := Lib.hid (((RowS.of ho).base HB6.out).below (newBox w8 (pObj R 0 (.slice a8 D.length c8))).1)
    have HB8 : Hid (B ≤ (w8.alloc (pObj R 0 (.slice a8 D.length c8))).heap.size) := Lib.hid (Nat.le_trans HB6.out (Nat.le_trans hb.size (by simp)))
    clear ho hb HN ST6 c0 c1 c2 HR6 HB6
    go_upto_region 6 with fail
    generalize (w8.alloc (pObj R 0 (.slice a8 D.length c8))) = w9 at *
    obtain ⟨CL, hCL⟩ : ∃ CL, Hid (candV true 0 L1 r2 U L2 = CL) := ⟨_, Lib.hid rfl⟩
    have HCS := Lib.hid (candV_small hCL.out)
    obtain ⟨c0, c1, c2⟩ := ST8.out.cells (b := b5) (r := true) (n := 0) (v := .slice (some ⟨g1, 0, none⟩) L1.length (L1.length + 3)) (by simp)
    obtain ⟨d0, d1, d2⟩ := ST8.out.cells (b := b6) (r := r2) (n := U) (v := .slice (some ⟨g2, 0, none⟩) L2.length (L2.length + 3)) (by simp)
    have HN := Lib.hid (candidates_any _ _ true r2 0 U L1 L2 _ (PathV.mk (HSP1.out _ (ST8.out.owns (l := F1) (by simp)))) (PathV.mk (HSP2.out _ (ST8.out.owns (l := F2) (by simp)))) HX1.out HX2.out)
    rw [hCL.out] at HN
    go_wp2_with fail
    ((with_reducible refine HN.out.mono ?_))
    rintro e w10 ⟨v10, rfl, hps, hb⟩
    have ST10 := Lib.hid (ST8.out.below hb)
    have HR10 := Lib.hid (HR7.out.below hb)
    have HR11 := Lib.hid (HR8.out.below hb)
    have HPR : Hid (PR w10 B v10 CL.length) := Lib.hid (PR.of (hps.base HB8.out) HCS.out.2)
    clear hb hps HN ST8 HR7 HR8 HB8 c0 c1 c2 d0 d1 d2
    obtain ⟨a10, c10, rfl⟩ := HPR.out.form
    go_upto_region 7 with fail
    obtain ⟨c0, c1, c2⟩ := ST10.out.cells (b := w6.heap.size) (r := O.isSome) (n := 0) (v := .slice a6 (O.getD []).length c6) (by simp)
    go_wp2_with fail
    ((with_reducible refine (overwrite_any _ _ B _ HR10.out (by have := HLO.out; omega)).mono ?_))
    rintro e w11 ⟨⟨r, rfl⟩, ho⟩
    have ST11 := Lib.hid (ST10.out.over ho HLT.out HBB.out)
    have HR12 := Lib.hid (ho.2.2 _ _ _ HR11.out)
    have HPR2 := Lib.hid (HPR.out.over ho)
    clear ho ST10 HR10 HR11 HPR c0 c1 c2
    go_upto_region 8 with fail
    obtain ⟨c0, c1, c2⟩ := ST11.out.cells (b := w8.heap.size) (r := R) (n := 0) (v := .slice a8 D.length c8) (by simp)
    go_wp2_with fail
    ((with_reducible refine (overwrite_any _ _ B _ HR12.out (by have := HLD.out; omega)).mono ?_))
    rintro e w12 ⟨⟨r', rfl⟩, ho⟩
    have ST12 : Hid (St w w12 (_ :: _ :: [⟨b5, true, 0, .slice (some ⟨g1, 0, none⟩) L1.length (L1.length + 3)⟩, ⟨b6, r2, U, .slice (some ⟨g2, 0, none⟩) L2.length (L2.length + 3)⟩]) _) := Lib.hid (ST11.out.over ho HLT.out HBB.out)
    have HPR3 := Lib.hid (HPR2.out.over ho)
    clear ho ST11 HR12 HPR2 c0 c1 c2
    have hcl := HCS.out.1
    go_wp2_with fail
    go_loopw [14] (fun i wr => ∃ k : Nat, i = .int .i64 k ∧ k ≤ CL.length ∧ Hid (St w wr (_ :: _ :: [⟨b5, true, 0, .slice (some ⟨g1, 0, none⟩) L1.length (L1.length + 3)⟩, ⟨b6, r2, U, .slice (some ⟨g2, 0, none⟩) L2.length (L2.length + 3)⟩]) [(.slice a5 L2.length c5, L2), (.slice a4 L1.length c4, L1), (.slice (some ⟨g2, 0, none⟩) F2.length y2, F2), (.slice (some ⟨g1, 0, none⟩) F1.length y1, F1), (.slice aa L1.length ca, L1), (.slice ab L2.length cb, L2)]) ∧ Hid (PR wr B (.slice a10 CL.length c10) CL.length)) (fun i _ => CL.length - (intOf i).toNat)
    case atStart => exact ⟨0, rfl, Nat.zero_le _, ST12, HPR3⟩
    case round =>
      clear ST12 HPR3
      obtain ⟨k, rfl, hk, ST, HPR⟩ := hrel
      obtain ⟨w13, rfl⟩ : ∃ x : World, x = wr := ⟨_, rfl⟩
      by_cases hlt : k < CL.length
      · obtain ⟨g, cp, hv, hat⟩ := HPR.out.at (by omega)
        injection hv with e1 e2 e3
        subst e1 e3
        obtain ⟨vk, mk, hmk, ck, hrow⟩ := hat k hlt
        have HRK := Lib.hid hrow
        obtain ⟨ak, cpk, rfl⟩ : ∃ a c, vk = .slice a mk c := by
          obtain ⟨l, hl, ho⟩ := hrow
          exact own_form ho
        clear hrow hat e2
        go_wp2_with fail
        ((with_reducible refine (overwrite_any _ _ B _ HRK.out (by omega)).mono ?_))
        rintro e w14 ⟨⟨r'', rfl⟩, ho⟩
        have ST14 := Lib.hid (ST.out.over ho HLT.out HBB.out)
        have HPR4 := Lib.hid (HPR.out.over ho)
        clear ho ST HPR HRK ck
        go_wp2_with fail
        go_roundw
        case rel => exact ⟨k + 1, by go_num, by omega, ST14, HPR4⟩
        case measure => simp [intOf]; omega
      · obtain rfl : k = CL.length := by omega
        go_upto_region 13 with fail
        clear HPR
        obtain ⟨d0, d1, d2⟩ := ST.out.cells (b := b6) (r := r2) (n := U) (v := .slice (some ⟨g2, 0, none⟩) L2.length (L2.length + 3)) (by simp)
        go_wp2_with fail
        ((with_reducible refine (format_any _ r2 U L2 _ (PathV.mk (HSP2.out _ (ST.out.owns (l := F2) (by simp)))) HX2.out).mono ?_))
        rintro e w15 ⟨rfl, hb⟩
        have ST15 := Lib.hid (ST.out.below hb)
        clear hb ST d0 d1 d2
        go_upto_region 14 with fail
        obtain ⟨c0, c1, c2⟩ := ST15.out.cells (b := b5) (r := true) (n := 0) (v := .slice (some ⟨g1, 0, none⟩) L1.length (L1.length + 3)) (by simp)
        obtain ⟨d0, d1, d2⟩ := ST15.out.cells (b := b6) (r := r2) (n := U) (v := .slice (some ⟨g2, 0, none⟩) L2.length (L2.length + 3)) (by simp)
        go_wp2_with fail
        ((with_reducible refine (compare_any _ _ true r2 0 U L1 L2 _ (PathV.mk (HSP1.out _ (ST15.out.owns (l := F1) (by simp)))) (PathV.mk (HSP2.out _ (ST15.out.owns (l := F2) (by simp))))).mono ?_))
        rintro e w16 ⟨rfl, hb⟩
        have ST16 := Lib.hid (ST15.out.below hb)
        clear hb ST15 c0 c1 c2 d0 d1 d2
        go_upto_region 15 with fail
        go_wp2_with fail
        ((with_reducible refine (awake_any m _ (HM.out _ ST16.out.bel)).mono ?_))
        rintro e w17 ⟨rfl, hb⟩
        have ST17 := Lib.hid (ST16.out.below hb)
        clear hb ST16
        obtain ⟨c0, c1, c2⟩ := ST17.out.cells (b := b5) (r := true) (n := 0) (v := .slice (some ⟨g1, 0, none⟩) L1.length (L1.length + 3)) (by simp)
        go_wp2_with fail
        ((with_reducible refine (unchanged_yes _ L1 [83, 80] w.heap.size g1 y1 _ (by rw [hF1.out]; exact ST17.out.owns (l := F1) (by simp)) (ST17.out.strs (l := L1) (v := .slice a4 L1.length c4) (by simp) (by have := G1.out.1; omega)) (by have := G1.out.1; omega)).mono ?_))
        rintro e w18 ⟨rfl, hb⟩
        have ST18 := Lib.hid (ST17.out.below hb)
        clear hb ST17 c0 c1 c2
        obtain ⟨d0, d1, d2⟩ := ST18.out.cells (b := b6) (r := r2) (n := U) (v := .slice (some ⟨g2, 0, none⟩) L2.length (L2.length + 3)) (by simp)
        go_wp2_with fail
        ((with_reducible refine (unchanged_yes _ L2 [83, 80] w.heap.size g2 y2 _ (by rw [hF2.out]; exact ST18.out.owns (l := F2) (by simp)) (ST18.out.strs (l := L2) (v := .slice a5 L2.length c5) (by simp) (by have := G2.out; omega)) (by have := G2.out; omega)).mono ?_))
        rintro e w19 ⟨rfl, hb⟩
        have ST19 := Lib.hid (ST18.out.below hb)
        clear hb ST18
        go_wp2_with fail
        go_ret
        exact ⟨rfl, ST19.out.bel⟩
end Go.Proofs.YtkalnblbplaheaaDoor
