/- Ra Rb Rc Rd Rc2 -/
import Derived.Test.YtnicnfchkdmieaaGreatDoorZSg
set_option linter.unusedVariables false
set_option linter.unusedSimpArgs false
namespace Go.Proofs.YtnicnfchkdmieaaGreatDoor
section
open Go.RowKit
attribute [local go_sem] ByteArray.mk_append_mk bs_get bs_cut bs_end
abbrev rpObj (tv : Value) (i : Int) (nv : Value) (F : Int) : Obj := .cells #[tv, .int .i64 i, nv, .int .i64 F] 90 (0, 0)
theorem own_rp {w : World} {B : Nat} {v : Value} {l : List Nd} (h : NodesI w B v l) {b : Nat} {tv nv : Value} {i F : Int} (hb : w.heap[b]? = some (rpObj tv i nv F)) : v.ownBlock ≠ some b := by
 intro e
 obtain ⟨cur, hc⟩ := own_type h e
 rw [hb] at hc
 injection hc with hc
 injection hc with _ h2 _
 exact absurd h2 (by decide)
structure RSt (m : Int) (B b : Nat) (w : World) (L : List TokI) (i : Nat) (F : Int) (o : List Nd) : Prop where
 ex : ∃ tv nv, w.heap[b]? = some (rpObj tv i nv F) ∧ TokB w B tv L ∧ NodesI w B nv o
 base : B ≤ b
 size : B ≤ w.heap.size
 syn : SynG m w
 hund : SynB B
 good : TGood L
 ix : i ≤ L.length
 f0 : -1 ≤ F
 f1 : F ≤ L.length
 ol : (o.length : Int) ≤ i + F + 1
theorem RSt.below {m F : Int} {B b i : Nat} {w w' : World} {L : List TokI} {o : List Nd} (h : RSt m B b w L i F o) (hb : Below w.heap.size w w') : RSt m B b w' L i F o := by
 obtain ⟨⟨tv, nv, h1, h2, h3⟩, h4, h5, h6, h7, h8, h9, ha, hc, hd⟩ := h
 exact ⟨⟨tv, nv, blk_below h1 hb, h2.below (hb.mono h5), h3.below hb⟩, h4, Nat.le_trans h5 hb.size, h6.below (hb.mono h5) h7, h7, h8, h9, ha, hc, hd⟩
theorem RSt.alloc {m F : Int} {B b i : Nat} {w : World} {L : List TokI} {o : List Nd} (h : RSt m B b w L i F o) (x : Obj) : RSt m B b (w.alloc x) L i F o := h.below ((Below.refl _ _).alloc (Nat.le_refl _) _)
def kindT : List TokI → Int
 | [] => 0
 | t :: _ => t.kind
theorem kindT_at (k : Int) (hk : k ≠ 0) (r : List TokI) : (kindT r == k) = atT k r := by
 cases r with
 | nil => show ((0 : Int) == k) = false; rw [beq_eq_false_iff_ne]; omega
 | cons t q => rfl
theorem TokB.drop_cells {w : World} {B : Nat} {v : Value} {L : List TokI} {i : Nat} {t : TokI} {q : List TokI} (h : TokB w B v L) (hd : L.drop i = t :: q) :
 ∃ g off cap, v = .slice (some ⟨g, off, none⟩) L.length cap ∧ g < B ∧ i < L.length ∧ TAt w g (off + i * 4) t := by
 obtain ⟨a, cap, rfl, hl, hc⟩ := h
 have hi : i < L.length := by
  rcases Nat.lt_or_ge i L.length with h | h
  ·exact h
  ·rw [List.drop_eq_nil_of_le h] at hd; cases hd
 obtain ⟨g, off, rfl, hB, hk⟩ := hc (by rintro rfl; simp at hi)
 refine ⟨g, off, cap, rfl, hB, hi, ?_⟩
 have e : L[i] = t := by
  have := List.drop_eq_getElem_cons hi
  rw [hd] at this
  injection this with h1 _
  exact h1.symm
 have := hk i hi
 rw [e] at this
 exact this
theorem kind_ref (m F : Int) (B b i : Nat) (w : World) (L : List TokI) (o : List Nd) (h : RSt m B b w L i F o) (hL : L.length ≤ 1000000) :
 Calls Tryz.prog 105 #[.pointer (some ⟨b, 0, none⟩)] w fun e w' => e = .returned (.int .i64 (kindT (L.drop i))) ∧ ∃ n, w' = w.drewN n := by
 obtain ⟨⟨tv, nv, h1, h2, h3⟩, h4, h5, h6, h7, h8, h9, ha, hc, hd⟩ := h
 cases hx : L.drop i with
 | nil =>
   obtain ⟨a, cap, rfl, hl, hc⟩ := h2
   have hi : (i : Int) ≥ (L.length : Int) := by
    have := congrArg List.length hx
    rw [List.length_drop] at this
    simp only [List.length_nil] at this
    omega
   obtain ⟨c0, c1, c2, c3⟩ := cells4 h1
   clear hc h3 h6 h8 h1 hx h7
   go_enter Tryz.func105, Tryz.ntmps105
   go_wp2_with fail
   go_quiet (fail)
   go_wp2_with fail
   go_ret
   exact ⟨rfl, _, rfl⟩
 | cons t q =>
   obtain ⟨g, off, cap, rfl, hB, hi, d0, d1, d2, d3⟩ := h2.drop_cells hx
   obtain ⟨c0, c1, c2, c3⟩ := cells4 h1
   have hi1 : ¬ (i : Int) ≥ (L.length : Int) := by omega
   have hi2 : (i : Int) < (L.length : Int) := by omega
   clear h3 h6 h8 h1 hx h7 h2
   go_enter Tryz.func105, Tryz.ntmps105
   go_wp2_with fail
   go_quiet (fail)
   go_wp2_with fail
   go_quiet (fail)
   go_wp2_with fail
   go_ret
   exact ⟨rfl, _, by unfold World.drewN; simp only [Nat.add_assoc]; rfl⟩
theorem RSt.setF {m F G : Int} {B b i : Nat} {w : World} {L : List TokI} {o : List Nd} (h : RSt m B b w L i F o) (h0 : F ≤ G) (h1 : G ≤ L.length) :
 RSt m B b (w.setCell ⟨b, 3, none⟩ (.int .i64 G)) L i G o := by
 obtain ⟨tv, nv, k1, k2, k3⟩ := h.ex
 have hB : Below B w (w.setCell ⟨b, 3, none⟩ (.int .i64 G)) := (Below.refl _ _).setCell h.base _
 have := h.f0
 have := h.ol
 exact ⟨⟨tv, nv, heap_setCell_same _ _ 3 _ _ _ k1, k2.below hB, own_setOther k3 _ _ (own_rp k3 k1)⟩, h.base, Nat.le_trans h.size hB.size, h.syn.below hB h.hund, h.hund, h.good, h.ix, by omega, h1, by omega⟩
theorem RSt.setI {m F : Int} {B b i j : Nat} {w : World} {L : List TokI} {o : List Nd} (h : RSt m B b w L i F o) (h0 : i ≤ j) (h1 : j ≤ L.length) :
 RSt m B b (w.setCell ⟨b, 1, none⟩ (.int .i64 j)) L j F o := by
 obtain ⟨tv, nv, k1, k2, k3⟩ := h.ex
 have hB : Below B w (w.setCell ⟨b, 1, none⟩ (.int .i64 j)) := (Below.refl _ _).setCell h.base _
 have := h.ol
 exact ⟨⟨tv, nv, heap_setCell_same _ _ 1 _ _ _ k1, k2.below hB, own_setOther k3 _ _ (own_rp k3 k1)⟩, h.base, Nat.le_trans h.size hB.size, h.syn.below hB h.hund, h.hund, h.good, h1, h.f0, h.f1, by omega⟩
theorem fail_new (m : Int) (B b i : Nat) (w : World) (L : List TokI) (o : List Nd) (h : RSt m B b w L i (-1) o) :
 Calls Tryz.prog 102 #[.pointer (some ⟨b, 0, none⟩)] w fun e w' => e = .returned (.tuple #[]) ∧ RSt m B b w' L i i o ∧ Below B w w' := by
 have KEY := Lib.hid (h.setF (G := i) (by omega) (by have := h.ix; omega))
 have HB : Hid (Below B w (w.setCell ⟨b, 3, none⟩ (.int .i64 i))) := Lib.hid ((Below.refl _ _).setCell h.base _)
 obtain ⟨tv, nv, h1, h2, h3⟩ := h.ex
 obtain ⟨c0, c1, c2, c3⟩ := cells4 h1
 have f3 := free3 h1 3
 clear h2 h3 h1 h
 go_enter Tryz.func102, Tryz.ntmps102
 go_wp2_with fail
 go_end0
 exact ⟨rfl, KEY.out, HB.out⟩
theorem fail_old (m F : Int) (B b i : Nat) (w : World) (L : List TokI) (o : List Nd) (h : RSt m B b w L i F o) (hF : 0 ≤ F) :
 Calls Tryz.prog 102 #[.pointer (some ⟨b, 0, none⟩)] w fun e w' => e = .returned (.tuple #[]) ∧ w = w' := by
 obtain ⟨tv, nv, h1, h2, h3⟩ := h.ex
 obtain ⟨c0, c1, c2, c3⟩ := cells4 h1
 have hF2 : ¬ F < 0 := by omega
 clear h2 h3 h1 h
 go_enter Tryz.func102, Tryz.ntmps102
 go_wp2_with fail
 go_end0
 exact ⟨rfl, rfl⟩
theorem take_old (m F k : Int) (B b i : Nat) (w : World) (L : List TokI) (o : List Nd) (h : RSt m B b w L i F o) (hF : 0 ≤ F) :
 Calls Tryz.prog 144 #[.pointer (some ⟨b, 0, none⟩), .int .i64 k] w fun e w' => e = .returned (.tuple #[]) ∧ w = w' := by
 have HF := Lib.hid (fail_old m F B b i w L o h hF)
 obtain ⟨tv, nv, h1, h2, h3⟩ := h.ex
 obtain ⟨c0, c1, c2, c3⟩ := cells4 h1
 have hF2 : F ≥ 0 := by omega
 clear h2 h3 h1 h
 go_enter Tryz.func144, Tryz.ntmps144
 go_wp2_with fail
 ((with_reducible refine HF.out.mono ?_))
 rintro e w1 ⟨rfl, rfl⟩
 go_wp2_with fail
 (try simp only [Exit.inBlock, Exit.then])
 refine bodyPost_ret (results_none rfl _ _ _) rfl ?_
 exact ⟨rfl, rfl⟩
theorem take_no (m k : Int) (B b i : Nat) (w : World) (L : List TokI) (o : List Nd) (h : RSt m B b w L i (-1) o) (hL : L.length ≤ 1000000) (hk0 : k ≠ 0) (hk : atT k (L.drop i) = false) :
 Calls Tryz.prog 144 #[.pointer (some ⟨b, 0, none⟩), .int .i64 k] w fun e w' => e = .returned (.tuple #[]) ∧ RSt m B b w' L i i o ∧ Below B w w' := by
 have HF := Lib.hid (fun n => fail_new m B b i (w.drewN n) L o (h.below (below_drewN (Below.refl _ _) n)))
 have HK := Lib.hid (kind_ref m (-1) B b i w L o h hL)
 obtain ⟨tv, nv, h1, h2, h3⟩ := h.ex
 obtain ⟨c0, c1, c2, c3⟩ := cells4 h1
 rw [← kindT_at k hk0] at hk
 generalize kindT (L.drop i) = z at *
 have hz : (z != k) = true := by rw [bne, hk]; rfl
 clear h2 h3 h1 h hk
 go_enter Tryz.func144, Tryz.ntmps144
 go_wp2_with fail
 ((with_reducible refine HK.out.mono ?_))
 rintro e w1 ⟨rfl, n, rfl⟩
 go_wp2_with fail
 ((with_reducible refine (HF.out n).mono ?_))
 rintro e w1 ⟨rfl, hb, hB⟩
 have HB := Lib.hid hb
 have HL : Hid (Below B w w1) := Lib.hid ((below_drewN (Below.refl _ _) n).trans hB)
 clear hb hB
 go_wp2_with fail
 (try simp only [Exit.inBlock, Exit.then])
 refine bodyPost_ret (results_none rfl _ _ _) rfl ?_
 exact ⟨rfl, HB.out, HL.out⟩
theorem take_yes (m k : Int) (B b i : Nat) (w : World) (L : List TokI) (o : List Nd) (h : RSt m B b w L i (-1) o) (hL : L.length ≤ 1000000) (hk0 : k ≠ 0) (hk : atT k (L.drop i) = true) :
 Calls Tryz.prog 144 #[.pointer (some ⟨b, 0, none⟩), .int .i64 k] w fun e w' => e = .returned (.tuple #[]) ∧ RSt m B b w' L (i + 1) (-1) o ∧ Below B w w' := by
 have HK := Lib.hid (kind_ref m (-1) B b i w L o h hL)
 have hi := atT_len hk
 rw [List.length_drop] at hi
 have KEY := Lib.hid (fun n => (h.below (below_drewN (Below.refl _ _) n)).setI (j := i + 1) (by omega) (by omega))
 have HB : Hid (∀ n, Below B w ((w.drewN n).setCell ⟨b, 1, none⟩ (.int .i64 (i + 1 : Nat)))) := Lib.hid (fun n => (below_drewN (Below.refl _ _) n).setCell h.base _)
 rw [show ((i + 1 : Nat) : Int) = (i : Int) + 1 by omega] at KEY HB
 obtain ⟨tv, nv, h1, h2, h3⟩ := h.ex
 obtain ⟨c0, c1, c2, c3⟩ := cells4 h1
 have f1 := free3 h1 1
 rw [← kindT_at k hk0] at hk
 generalize kindT (L.drop i) = z at *
 have hz : (z != k) = false := by rw [bne, hk]; rfl
 clear h2 h3 h1 h hk
 go_enter Tryz.func144, Tryz.ntmps144
 go_wp2_with fail
 ((with_reducible refine HK.out.mono ?_))
 rintro e w1 ⟨rfl, n, rfl⟩
 go_wp2_with fail
 go_end0
 exact ⟨rfl, KEY.out n, HB.out n⟩
end
section
open Go.RowKit
attribute [local go_sem] ByteArray.mk_append_mk bs_get bs_cut bs_end
attribute [local go_sem] SameB.some SameB.all
theorem RSt.grown {m F : Int} {B b i : Nat} {w w' : World} {L : List TokI} {o o' : List Nd} {tv nv u : Value} (h : RSt m B b w L i F o) (hb : w.heap[b]? = some (rpObj tv i nv F)) (ht : TokB w B tv L) (hn : NodesI w B nv o) (hg : w.grownBy w' nv.ownBlock) (hu : NodesI w' B u o') (hol : (o'.length : Int) ≤ i + F + 1) :
 RSt m B b (w'.setCell ⟨b, 2, none⟩ u) L i F o' ∧ Below B w (w'.setCell ⟨b, 2, none⟩ u) := by
 have hB : Below B w w' := (Below.refl _ _).grown hg h.size (fun k hk => own_row hn hk)
 have h1 : w'.heap[b]? = some (rpObj tv i nv F) := (hg.block b (lt_of_block hb) (fun e => own_rp hn hb e.symm)).trans hb
 have hB2 : Below B w' (w'.setCell ⟨b, 2, none⟩ u) := (Below.refl _ _).setCell h.base _
 refine ⟨⟨⟨tv, u, heap_setCell_same _ _ 2 _ _ _ h1, ht.below (hB.trans hB2), own_setOther hu _ _ (own_rp hu h1)⟩, h.base, Nat.le_trans h.size (hB.trans hB2).size, h.syn.below (hB.trans hB2) h.hund, h.hund, h.good, h.ix, h.f0, h.f1, hol⟩, hB.trans hB2⟩
set_option maxRecDepth 100000 in
set_option maxHeartbeats 2000000 in
theorem add_ref (m F : Int) (B b i : Nat) (k n p : Int) (s : List UInt8) (w : World) (r : List TokI) (o : List Nd) (h : RSt m B b w r i F o) (hl : o.length ≤ 900000) (hol : (o.length : Int) ≤ i + F) :
 Calls Tryz.prog 103 #[.pointer (some ⟨b, 0, none⟩), tokV k n s p] w fun e w' => e = .returned (.int .i64 o.length) ∧ RSt m B b w' r i F (o ++ [⟨k, n, s, p⟩]) ∧ Below B w w' := by
 have H0 := Lib.hid (h.alloc (nObj k n s p))
 have HN0 := Lib.hid (heap_alloc_new w (nObj k n s p))
 have HB0 : Hid (Below B w (w.alloc (nObj k n s p))) := Lib.hid ((Below.refl _ _).alloc h.size _)
 obtain ⟨tv, nv, h1, h2, h3⟩ := h.ex
 obtain ⟨na, nc, rfl⟩ := h3.form
 have hal : Below w.heap.size w (w.alloc (nObj k n s p)) := (Below.refl _ _).alloc (Nat.le_refl _) _
 have HP1 := Lib.hid (blk_below h1 hal)
 have HT1 := Lib.hid (h2.below (hal.mono h.size))
 have HO1 := Lib.hid (h3.below hal)
 have HNE : Hid (∀ g, (Value.slice na o.length nc).ownBlock = some g → g < w.heap.size) := Lib.hid (fun g hg => own_lt h3 hg)
 clear h h1 h2 h3 hal
 unfold tokV
 go_enter Tryz.func103, Tryz.ntmps103
 go_upto_region 1 with fail
 obtain ⟨P, hP⟩ : ∃ P, w.heap.size = P := ⟨_, rfl⟩
 rw [hP] at HN0 HNE
 simp only [hP]
 generalize w.alloc (nObj k n s p) = W at *
 have k0 : ∀ x, SameB W b P x → x.cell? ⟨b, 2, none⟩ = some (.slice na o.length nc) := fun x hx => (cells4 (hx.1.trans HP1.out)).2.2.1
 have q0 : ∀ x, SameB W b P x → x.cell? ⟨P, 0, none⟩ = some (.int .i64 k) := fun x hx => (cells4 (hx.2.trans HN0.out)).1
 have q1 : ∀ x, SameB W b P x → x.cell? ⟨P, 1, none⟩ = some (.int .u64 n) := fun x hx => (cells4 (hx.2.trans HN0.out)).2.1
 have q2 : ∀ x, SameB W b P x → x.cell? ⟨P, 2, none⟩ = some (.string ⟨s.toArray⟩) := fun x hx => (cells4 (hx.2.trans HN0.out)).2.2.1
 have q3 : ∀ x, SameB W b P x → x.cell? ⟨P, 3, none⟩ = some (.int .i64 p) := fun x hx => (cells4 (hx.2.trans HN0.out)).2.2.2
 have HPL : Hid (P < W.heap.size) := Lib.hid (lt_of_block HN0.out)
 have HBL : Hid (b < W.heap.size) := Lib.hid (lt_of_block HP1.out)
 clear hP
 refine wp_region_plan (SameB W b P) 8 [.reads [0, 1, 2, 3, 4, 5], .act 6, .act 7, .act 8, .act 9, .act 10] (by kernel_rfl) (by kernel_rfl) (by kernel_rfl) (by kernel_rfl) (by kernel_rfl) (fun _ _ d _ _ h => by cases d <;> exact h) ⟨rfl, rfl⟩ ?_
 refine wpPlan_reads ?_
 simp only [pickOps, List.drop_succ_cons, List.drop_zero, List.take_succ_cons, List.take_zero, List.cons_append, List.nil_append]
 repeat (go_big_quiet_step (first | (intro hb; rw [k0 _ hb]; exact ⟨rfl, rfl⟩) | (intro hb; rw [q0 _ hb]; simp only [Result.andThen]; rw [q1 _ hb]; simp only; rw [q2 _ hb]; simp only; rw [q3 _ hb]; exact ⟨rfl, rfl⟩)))
 refine wpQuiet_nil ?_
 refine wpPlan_act rfl ?_
 simp only [pickOps, List.drop_succ_cons, List.drop_zero, List.take_succ_cons, List.take_zero, List.cons_append, List.nil_append]
 go_wp2_with fail
 have hg1 : Grows W (W.alloc (nObj k n s p)).drew := Below.drew ((Below.refl _ _).alloc (Nat.le_refl _) _)
 have H1 := Lib.hid (H0.out.below hg1)
 have HP2 := Lib.hid (blk_below HP1.out hg1)
 have HPP := Lib.hid (blk_below HN0.out hg1)
 have HT2 := Lib.hid (HT1.out.below (hg1.mono H0.out.size))
 have HO2 := Lib.hid (HO1.out.below hg1)
 have HNN : Hid ((W.alloc (nObj k n s p)).drew.heap[W.heap.size]? = some (nObj k n s p)) := Lib.hid (heap_alloc_new W _)
 have HB2 : Hid (Below B w (W.alloc (nObj k n s p)).drew) := Lib.hid (HB0.out.trans (hg1.mono H0.out.size))
 refine ⟨fun _ => ⟨hg1.block b HBL.out, hg1.block P HPL.out⟩, ?_⟩
 have HS2 : Hid (SameB W b P (W.alloc (nObj k n s p)).drew) := Lib.hid ⟨hg1.block b HBL.out, hg1.block P HPL.out⟩
 generalize (W.alloc (nObj k n s p)).drew = V at *
 clear hg1 H0 HN0 HP1 HT1 HO1 HB0 k0 q0 q1 q2 q3
 refine wpPlan_act rfl ?_
 simp only [pickOps, List.drop_succ_cons, List.drop_zero, List.take_succ_cons, List.take_zero, List.cons_append, List.nil_append]
 go_wp2_with (at_builtin; refine wpList_append_node rfl _ _ rfl B _ o rfl HO2.out W.heap.size ⟨k, n, s, p⟩ rfl HNN.out (by omega) H1.out.size ?_; intro v2 w2 ho hg; obtain ⟨a2, c2, rfl⟩ := NodesI.form ho; have HO3 := Lib.hid ho; have HG3 := Lib.hid hg; clear ho hg)
 refine ⟨fun _ => ⟨(HG3.out.block b (lt_of_block HP2.out) (fun e => own_rp HO2.out HP2.out e.symm)).trans HS2.out.1, (HG3.out.block P (lt_of_block HPP.out) (fun e => absurd (HNE.out P e.symm) (Nat.lt_irrefl _))).trans HS2.out.2⟩, ?_⟩
 refine wpPlan_act rfl ?_
 simp only [pickOps, List.drop_succ_cons, List.drop_zero, List.take_succ_cons, List.take_zero, List.cons_append, List.nil_append]
 go_wp2_with fail
 refine ⟨fun h => absurd h (by decide), ?_⟩
 refine wpPlan_act rfl ?_
 simp only [pickOps, List.drop_succ_cons, List.drop_zero, List.take_succ_cons, List.take_zero, List.cons_append, List.nil_append]
 go_wp2_with fail
 refine ⟨fun h => absurd h (by decide), ?_⟩
 refine wpPlan_act rfl ?_
 simp only [pickOps, List.drop_succ_cons, List.drop_zero, List.take_succ_cons, List.take_zero, List.cons_append, List.nil_append]
 have hb3 := (HG3.out.block b (lt_of_block HP2.out) (fun e => own_rp HO2.out HP2.out e.symm)).trans HP2.out
 have f3 := free3 hb3 2
 have c3 := (cells4 hb3).2.2.1
 clear hb3
 go_wp2_with fail
 refine ⟨fun h => absurd h (by decide), wpPlan_nil ?_⟩
 obtain ⟨hr, hlw⟩ := H1.out.grown HP2.out HT2.out HO2.out HG3.out HO3.out (by simp only [List.length_append, List.length_cons, List.length_nil]; omega)
 have HR := Lib.hid hr
 have HL := Lib.hid hlw
 have hb9 := (HG3.out.block b (lt_of_block HP2.out) (fun e => own_rp HO2.out HP2.out e.symm)).trans HP2.out
 have c9 := (cells4 (heap_setCell_same _ _ 2 _ _ (.slice a2 (o ++ [(⟨k, n, s, p⟩ : Nd)]).length c2) hb9)).2.2.1
 clear c3 f3 hr hlw HG3 HO3 HP2 HT2 HO2 H1 HPP HNN HS2 hb9
 obtain ⟨O, hO⟩ : ∃ O, o ++ [(⟨k, n, s, p⟩ : Nd)] = O := ⟨_, rfl⟩
 have hOl : O.length = o.length + 1 := by rw [← hO]; simp
 rw [hO] at HR HL c9
 rw [hOl] at HR HL c9
 have HO := Lib.hid hO
 clear hO hOl
 generalize w2.setCell ⟨b, 2, none⟩ (.slice a2 (o.length + 1) c2) = W9 at *
 go_wp2_with fail
 go_ret
 exact ⟨rfl, by rw [HO.out]; exact HR.out, HB2.out.trans HL.out⟩
end
section
open Go.RowKit
attribute [local go_sem] ByteArray.mk_append_mk bs_get bs_cut bs_end
abbrev Rw := Int × List UInt8 × List UInt8
def rows0 : List Rw := [(10, [83, 99, 111, 112, 101], [110, 68]), (11, [68, 101, 118, 105, 99, 101], [115, 68]), (12, [80, 111, 119, 101, 114, 82, 101, 115, 111, 117, 114, 99, 101], [115, 105, 105, 68]), (13, [78, 97, 109, 101], [115, 100]), (14, [77, 101, 116, 104, 111, 100], [115, 105, 105, 105, 83]), (15, [79, 112, 101, 114, 97, 116, 105, 111, 110, 82, 101, 103, 105, 111, 110], [115, 105, 105, 105]), (16, [70, 105, 101, 108, 100], [110, 105, 105, 70]), (17, [73, 110, 100, 101, 120, 70, 105, 101, 108, 100], [110, 110, 105, 105, 70]), (18, [85, 110, 105, 116], [115, 105]), (19, [83, 107, 105, 112], [105]), (20, [77, 117, 116, 101, 120], [115, 105]), (21, [69, 118, 101, 110, 116], [115]), (30, [83, 116, 111, 114, 101], [101, 116]), (31, [73, 102], [101, 83]), (32, [87, 104, 105, 108, 101], [101, 83]), (33, [82, 101, 116, 117, 114, 110], []), (34, [66, 114, 101, 97, 107], []), (35, [67, 111, 110, 116, 105, 110, 117, 101], []), (36, [82, 101, 108, 101, 97, 115, 101], [110]), (37, [83, 105, 103, 110, 97, 108], [110]), (38, [82, 101, 115, 101, 116], [110]), (39, [83, 108, 101, 101, 112], [101]), (40, [78, 111, 116, 105, 102, 121], [110, 101]), (41, [65, 99, 113, 117, 105, 114, 101], [110, 105]), (42, [87, 97, 105, 116], [110, 101]), (50, [66, 117, 102, 102, 101, 114], [105, 73]), (51, [80, 97, 99, 107, 97, 103, 101], [105, 80]), (85, [82, 101, 102, 79, 102], [116]), (87, [79, 98, 106, 101, 99, 116, 84, 121, 112, 101], [116]), (86, [67, 111, 110, 100, 82, 101, 102, 79, 102], [110]), (88, [77, 105, 100], [101, 101, 101])]
def two0 : List (List UInt8) := [[65, 100, 100], [83, 117, 98, 116, 114, 97, 99, 116], [77, 117, 108, 116, 105, 112, 108, 121], [68, 105, 118, 105, 100, 101], [77, 111, 100], [65, 110, 100], [79, 114], [88, 111, 114], [83, 104, 105, 102, 116, 76, 101, 102, 116], [83, 104, 105, 102, 116, 82, 105, 103, 104, 116], [76, 65, 110, 100], [76, 79, 114], [76, 69, 113, 117, 97, 108], [76, 76, 101, 115, 115], [76, 71, 114, 101, 97, 116, 101, 114], [67, 111, 110, 99, 97, 116, 101, 110, 97, 116, 101], [73, 110, 100, 101, 120]]
def one0 : List (List UInt8) := [[78, 111, 116], [76, 78, 111, 116], [83, 105, 122, 101, 79, 102], [84, 111, 73, 110, 116, 101, 103, 101, 114], [84, 111, 66, 117, 102, 102, 101, 114], [84, 111, 72, 101, 120, 83, 116, 114, 105, 110, 103], [84, 111, 68, 101, 99, 105, 109, 97, 108, 83, 116, 114, 105, 110, 103], [68, 101, 114, 101, 102, 79, 102]]
def twoR : List Rw := [(60, [65, 100, 100], [101, 101]), (61, [83, 117, 98, 116, 114, 97, 99, 116], [101, 101]), (62, [77, 117, 108, 116, 105, 112, 108, 121], [101, 101]), (63, [68, 105, 118, 105, 100, 101], [101, 101]), (64, [77, 111, 100], [101, 101]), (65, [65, 110, 100], [101, 101]), (66, [79, 114], [101, 101]), (67, [88, 111, 114], [101, 101]), (68, [83, 104, 105, 102, 116, 76, 101, 102, 116], [101, 101]), (69, [83, 104, 105, 102, 116, 82, 105, 103, 104, 116], [101, 101]), (70, [76, 65, 110, 100], [101, 101]), (71, [76, 79, 114], [101, 101]), (72, [76, 69, 113, 117, 97, 108], [101, 101]), (73, [76, 76, 101, 115, 115], [101, 101]), (74, [76, 71, 114, 101, 97, 116, 101, 114], [101, 101]), (75, [67, 111, 110, 99, 97, 116, 101, 110, 97, 116, 101], [101, 101]), (76, [73, 110, 100, 101, 120], [101, 101])]
def oneR : List Rw := [(77, [78, 111, 116], [101]), (78, [76, 78, 111, 116], [101]), (79, [83, 105, 122, 101, 79, 102], [101]), (80, [84, 111, 73, 110, 116, 101, 103, 101, 114], [101]), (81, [84, 111, 66, 117, 102, 102, 101, 114], [101]), (82, [84, 111, 72, 101, 120, 83, 116, 114, 105, 110, 103], [101]), (83, [84, 111, 68, 101, 99, 105, 109, 97, 108, 83, 116, 114, 105, 110, 103], [101]), (84, [68, 101, 114, 101, 102, 79, 102], [101])]
def rowsL : List Rw := rows0 ++ twoR ++ oneR
def rcI : List Rw → List Value
 | [] => []
 | t :: r => .int .i64 t.1 :: .string ⟨t.2.1.toArray⟩ :: .string ⟨t.2.2.toArray⟩ :: rcI r
theorem rcI_app : ∀ l m : List Rw, rcI (l ++ m) = rcI l ++ rcI m
 | [], m => rfl
 | t :: r, m => by rw [List.cons_append, rcI, rcI, rcI_app r m]; rfl
theorem rcI_at : ∀ (l : List Rw) (i : Nat) (h : i < l.length), (rcI l)[i * 3]? = some (.int .i64 l[i].1) ∧ (rcI l)[i * 3 + 1]? = some (.string ⟨l[i].2.1.toArray⟩) ∧ (rcI l)[i * 3 + 2]? = some (.string ⟨l[i].2.2.toArray⟩)
 | t :: r, 0, _ => ⟨rfl, rfl, rfl⟩
 | t :: r, i + 1, h => by
   have := rcI_at r i (by simpa using h)
   rw [show (i + 1) * 3 = i * 3 + 3 by omega]
   exact this
def RowsI (w : World) (B : Nat) (v : Value) (l : List Rw) : Prop := w.ownsRow B 101 3 v l.length (rcI l)
theorem RowsI.form {w : World} {B : Nat} {v : Value} {l : List Rw} (h : RowsI w B v l) : ∃ a c, v = .slice a l.length c := by
 rcases h.2 with ⟨rfl, h0⟩ | ⟨g, cap, cur, rfl, _⟩
 ·exact ⟨none, 0, by rw [h0]⟩
 ·exact ⟨_, cap, rfl⟩
theorem RowsI.below {w w' : World} {B : Nat} {v : Value} {l : List Rw} (h : RowsI w B v l) (hb : Below w.heap.size w w') : RowsI w' B v l := own_below h hb
theorem RowsI.cells {w : World} {B : Nat} {v : Value} {l : List Rw} (h : RowsI w B v l) (hn : l ≠ []) : ∃ g c, v = .slice (some ⟨g, 0, none⟩) l.length c ∧ g < w.heap.size ∧ B ≤ g ∧
 ∀ i (h : i < l.length), w.cell? ⟨g, i * 3, none⟩ = some (.int .i64 l[i].1) ∧ w.cell? ⟨g, i * 3 + 1, none⟩ = some (.string ⟨l[i].2.1.toArray⟩) ∧ w.cell? ⟨g, i * 3 + 2, none⟩ = some (.string ⟨l[i].2.2.toArray⟩) := by
 obtain ⟨g, cap, hv, hB⟩ : ∃ g cap, v = .slice (some ⟨g, 0, none⟩) l.length cap ∧ B ≤ g := by
  rcases h.2 with ⟨_, h0⟩ | ⟨g, cap, cur, e, hb, _⟩
  ·exact absurd (List.eq_nil_of_length_eq_zero h0) hn
  ·exact ⟨g, cap, e, hb⟩
 subst hv
 have hp := List.length_pos_iff.2 hn
 have hat := rcI_at l
 refine ⟨g, cap, rfl, ?_, hB, fun i hi => ⟨?_, ?_, ?_⟩⟩
 ·exact World.block_lt_of_cell? w ⟨g, 0, none⟩ ((World.ownsRow.cellAt h 0 (by omega)).trans (hat 0 hp).1)
 ·rw [World.ownsRow.cellAt h _ (by omega)]; exact (hat i hi).1
 ·rw [World.ownsRow.cellAt h _ (by omega)]; exact (hat i hi).2.1
 ·rw [World.ownsRow.cellAt h _ (by omega)]; exact (hat i hi).2.2
theorem infoRow : (Tryz.prog.info? 101).map (fun i => (i.zero, i.size, i.bytes)) = some (some (.agg #[.int .i64 0, .string ⟨#[]⟩, .string ⟨#[]⟩]), 3, 40) := by kernel_rfl
abbrev rwObj (a : Int) (b c : List UInt8) : Obj := .cells #[.int .i64 a, .string ⟨b.toArray⟩, .string ⟨c.toArray⟩] 101 (0, 0)
theorem wpList_append_row {w : World} {ops : Array Oper} {rest : List Oper} {o : Oper} {a : Act} {Q : Exit → Act → World → Prop} (hgd : o.guard = none) (s x : Operand)
 (ho : o.op = .call { callee := .builtin .append, args := #[s, x], argTypes := #[135, 135] })
 (B : Nat) (v : Value) (l : List Rw) (hs : a.eval s = v) (hown : RowsI w B v l) (g : Nat) (t : Rw)
 (hx : a.eval x = .slice (some ⟨g, 0, none⟩) 1 1) (hb : w.heap[g]? = some (rwObj t.1 t.2.1 t.2.2)) (hlen : l.length ≤ 1000000) (hB : B ≤ w.heap.size)
 (h : ∀ v' w', RowsI w' B v' (l ++ [t]) → w.grownBy w' v.ownBlock → wpList Tryz.prog ops Q rest (a.put o.dst v') w') : wpList Tryz.prog ops Q (o :: rest) a w := by
 obtain ⟨i0, hi, hz0, hz1, hz2⟩ := info_parts infoRow
 have hc : ∀ (j : Nat) (z : Value), (rcI [t])[j]? = some z → w.cell? ⟨g, j, none⟩ = some z := by
  intro j z hj
  rw [cell_of_row w g j _ _ (0, 0) hb]
  match j, hj with
  | 0, hj => cases hj; rfl
  | 1, hj => cases hj; rfl
  | 2, hj => cases hj; rfl
 refine wpList_append_own _ hgd s x _ ho B 101 i0 _ 3 40 Tryz.underlying135 hi hz0 hz1 hz2 rfl (by decide) v l.length _ hs hown ⟨g, 0, none⟩ 1 1 (rcI [t]) hx rfl ?_ ?_ (by unfold maxLen; omega) (by omega) hB ?_
 ·intro j z hj
  have e : (⟨g, 0, none⟩ : Addr).add j = ⟨g, j, none⟩ := by by_cases h : j = 0 <;> simp [Addr.add, h]
  rw [e]
  exact hc j z hj
 ·intro z hz
  simp only [rcI, List.mem_cons, List.not_mem_nil, or_false] at hz
  rcases hz with rfl | rfl | rfl <;> rfl
 ·intro v' w' h1 h2 _
  refine h v' w' ?_ h2
  unfold RowsI
  rw [List.length_append, rcI_app]
  exact h1
end
section
open Go.RowKit
def rowF (op : Int) : Option Rw := rowsL.find? (fun t => t.1 == op)
def wordF (s : List UInt8) : Option Rw := rowsL.find? (fun t => t.2.1 == s)
def rowR : Option Rw → Rw
 | some t => t
 | none => (0, [], [])
def inTab (op : Int) : Bool := (decide (10 ≤ op) && decide (op ≤ 21)) || (decide (30 ≤ op) && decide (op ≤ 42)) || op == 50 || op == 51 || (decide (60 ≤ op) && decide (op ≤ 88))
theorem rowF_dec : ∀ n : Fin 100, inTab (n.val : Int) = true → rowF (n.val : Int) = some ((n.val : Int), formP (n.val : Int)) := by decide +kernel
theorem inTab_lt {op : Int} (h : inTab op = true) : ∃ n : Fin 100, op = (n.val : Int) := by
 unfold inTab at h
 simp only [Bool.or_eq_true, Bool.and_eq_true, decide_eq_true_eq, beq_iff_eq] at h
 exact ⟨⟨op.toNat, by omega⟩, by show op = ((op.toNat : Nat) : Int); omega⟩
theorem rowF_tab {op : Int} (h : inTab op = true) : rowF op = some (op, formP op) := by
 obtain ⟨n, rfl⟩ := inTab_lt h
 exact rowF_dec n h
theorem rows_tab : ∀ t ∈ rowsL, inTab t.1 = true := by decide +kernel
theorem rows_word : ∀ t ∈ rowsL, wordF t.2.1 = some t ∧ opW t.2.1 = t.1 := by decide +kernel
theorem tabs_rows : (∀ x ∈ declT, ∃ t ∈ rowsL, t.2.1 = x.1) ∧ (∀ x ∈ stmtT, ∃ t ∈ rowsL, t.2.1 = x.1) ∧ (∀ x ∈ exprT, ∃ t ∈ rowsL, t.2.1 = x.1) ∧ (∃ t ∈ rowsL, t.2.1 = [66, 117, 102, 102, 101, 114]) ∧ (∃ t ∈ rowsL, t.2.1 = [80, 97, 99, 107, 97, 103, 101]) := by decide +kernel
theorem findW_none {w : List UInt8} : ∀ (l : List (List UInt8 × List UInt8)) (i : Nat), (∀ x ∈ l, x.1 ≠ w) → findW w l i = none
 | [], i, h => rfl
 | x :: r, i, h => by
   rw [findW, if_neg (h x (by simp))]
   exact findW_none r (i + 1) (fun y hy => h y (by simp [hy]))
theorem wordF_opW (s : List UInt8) : (rowR (wordF s)).1 = opW s := by
 by_cases h : ∃ t ∈ rowsL, t.2.1 = s
 ·obtain ⟨t, ht, rfl⟩ := h
  obtain ⟨h1, h2⟩ := rows_word t ht
  rw [h1, h2]; rfl
 ·have e1 : wordF s = none := by
   unfold wordF
   rw [List.find?_eq_none]
   intro t ht hs
   exact h ⟨t, ht, by simpa using hs⟩
  obtain ⟨a1, a2, a3, a4, a5⟩ := tabs_rows
  have k : ∀ (l : List (List UInt8 × List UInt8)), (∀ x ∈ l, ∃ t ∈ rowsL, t.2.1 = x.1) → ∀ x ∈ l, x.1 ≠ s := by
   intro l hl x hx e
   obtain ⟨t, ht, e2⟩ := hl x hx
   exact h ⟨t, ht, e2.trans e⟩
  rw [e1]
  unfold opW
  rw [findW_none _ _ (k _ a3), findW_none _ _ (k _ a2), findW_none _ _ (k _ a1)]
  simp only []
  rw [if_neg (fun e => by rw [e] at h; exact h a4), if_neg (fun e => by rw [e] at h; exact h a5)]
  rfl
theorem opW_tab {s : List UInt8} (h : opW s ≠ 0) : inTab (opW s) = true := by
 rw [← wordF_opW] at h ⊢
 cases hx : wordF s with
 | none => rw [hx] at h; exact absurd rfl h
 | some t => exact rows_tab t (List.mem_of_find?_eq_some hx)
def numV (s word : List UInt8) (n : Int) : Int :=
 match s.getLast? with
 | none => -1
 | some c => if s.dropLast = word ∧ 48 ≤ c.toNat ∧ c.toNat ≤ 57 ∧ (c.toNat : Int) - 48 < n then (c.toNat : Int) - 48 else -1
theorem varW_num (s : List UInt8) : varW s = if 0 ≤ numV s [76, 111, 99, 97, 108] 8 then some (6, (numV s [76, 111, 99, 97, 108] 8).toNat) else if 0 ≤ numV s [65, 114, 103] 7 then some (7, (numV s [65, 114, 103] 7).toNat) else none := by
 unfold varW numV
 cases s.getLast? with
 | none => rfl
 | some c =>
   simp only []
   by_cases h1 : s.dropLast = [76, 111, 99, 97, 108] ∧ 48 ≤ c.toNat ∧ c.toNat < 56
   ·rw [if_pos h1, if_pos (show s.dropLast = [76, 111, 99, 97, 108] ∧ 48 ≤ c.toNat ∧ c.toNat ≤ 57 ∧ (c.toNat : Int) - 48 < 8 from ⟨h1.1, h1.2.1, by omega, by omega⟩), if_pos (by omega)]
    congr 2; omega
   ·rw [if_neg h1, if_neg (show ¬ (s.dropLast = [76, 111, 99, 97, 108] ∧ 48 ≤ c.toNat ∧ c.toNat ≤ 57 ∧ (c.toNat : Int) - 48 < 8) from fun h => h1 ⟨h.1, h.2.1, by omega⟩), if_neg (show ¬ (0 : Int) ≤ -1 by decide)]
    by_cases h2 : s.dropLast = [65, 114, 103] ∧ 48 ≤ c.toNat ∧ c.toNat < 55
    ·rw [if_pos h2, if_pos (show s.dropLast = [65, 114, 103] ∧ 48 ≤ c.toNat ∧ c.toNat ≤ 57 ∧ (c.toNat : Int) - 48 < 7 from ⟨h2.1, h2.2.1, by omega, by omega⟩), if_pos (by omega)]
     congr 2; omega
    ·rw [if_neg h2, if_neg (show ¬ (s.dropLast = [65, 114, 103] ∧ 48 ≤ c.toNat ∧ c.toNat ≤ 57 ∧ (c.toNat : Int) - 48 < 7) from fun h => h2 ⟨h.1, h.2.1, by omega⟩), if_neg (show ¬ (0 : Int) ≤ -1 by decide)]
theorem numV_short {s word : List UInt8} {n : Int} (h : s.length ≠ word.length + 1) : numV s word n = -1 := by
 unfold numV
 cases hs : s.getLast? with
 | none => rfl
 | some c =>
   simp only []
   refine if_neg (fun e => h ?_)
   have := congrArg List.length e.1
   rw [List.length_dropLast] at this
   cases s with
   | nil => cases hs
   | cons a q => simp only [List.length_cons] at this ⊢; omega
theorem numV_end (d word : List UInt8) (c : UInt8) (n : Int) : numV (d ++ [c]) word n = if d = word ∧ 48 ≤ c.toNat ∧ c.toNat ≤ 57 ∧ (c.toNat : Int) - 48 < n then (c.toNat : Int) - 48 else -1 := by
 unfold numV
 rw [List.getLast?_concat, List.dropLast_concat]
theorem numV_lt (s word : List UInt8) (n : Int) (hn : 0 ≤ n) : numV s word n < n ∧ -1 ≤ numV s word n := by
 unfold numV
 cases s.getLast? with
 | none => simp only []; omega
 | some c => simp only []; split <;> omega
def blkR (k : UInt8) : Bool := k == 68 || k == 83 || k == 70 || k == 73 || k == 80
end
section
open Go.RowKit
attribute [local go_sem] ByteArray.mk_append_mk bs_get bs_cut bs_end
abbrev litO : Obj := .cells #[.int .i64 10, .string ⟨#[83, 99, 111, 112, 101]⟩, .string ⟨#[110, 68]⟩, .int .i64 11, .string ⟨#[68, 101, 118, 105, 99, 101]⟩, .string ⟨#[115, 68]⟩, .int .i64 12, .string ⟨#[80, 111, 119, 101, 114, 82, 101, 115, 111, 117, 114, 99, 101]⟩, .string ⟨#[115, 105, 105, 68]⟩, .int .i64 13, .string ⟨#[78, 97, 109, 101]⟩, .string ⟨#[115, 100]⟩, .int .i64 14, .string ⟨#[77, 101, 116, 104, 111, 100]⟩, .string ⟨#[115, 105, 105, 105, 83]⟩, .int .i64 15, .string ⟨#[79, 112, 101, 114, 97, 116, 105, 111, 110, 82, 101, 103, 105, 111, 110]⟩, .string ⟨#[115, 105, 105, 105]⟩, .int .i64 16, .string ⟨#[70, 105, 101, 108, 100]⟩, .string ⟨#[110, 105, 105, 70]⟩, .int .i64 17, .string ⟨#[73, 110, 100, 101, 120, 70, 105, 101, 108, 100]⟩, .string ⟨#[110, 110, 105, 105, 70]⟩, .int .i64 18, .string ⟨#[85, 110, 105, 116]⟩, .string ⟨#[115, 105]⟩, .int .i64 19, .string ⟨#[83, 107, 105, 112]⟩, .string ⟨#[105]⟩, .int .i64 20, .string ⟨#[77, 117, 116, 101, 120]⟩, .string ⟨#[115, 105]⟩, .int .i64 21, .string ⟨#[69, 118, 101, 110, 116]⟩, .string ⟨#[115]⟩, .int .i64 30, .string ⟨#[83, 116, 111, 114, 101]⟩, .string ⟨#[101, 116]⟩, .int .i64 31, .string ⟨#[73, 102]⟩, .string ⟨#[101, 83]⟩, .int .i64 32, .string ⟨#[87, 104, 105, 108, 101]⟩, .string ⟨#[101, 83]⟩, .int .i64 33, .string ⟨#[82, 101, 116, 117, 114, 110]⟩, .string ⟨#[]⟩, .int .i64 34, .string ⟨#[66, 114, 101, 97, 107]⟩, .string ⟨#[]⟩, .int .i64 35, .string ⟨#[67, 111, 110, 116, 105, 110, 117, 101]⟩, .string ⟨#[]⟩, .int .i64 36, .string ⟨#[82, 101, 108, 101, 97, 115, 101]⟩, .string ⟨#[110]⟩, .int .i64 37, .string ⟨#[83, 105, 103, 110, 97, 108]⟩, .string ⟨#[110]⟩, .int .i64 38, .string ⟨#[82, 101, 115, 101, 116]⟩, .string ⟨#[110]⟩, .int .i64 39, .string ⟨#[83, 108, 101, 101, 112]⟩, .string ⟨#[101]⟩, .int .i64 40, .string ⟨#[78, 111, 116, 105, 102, 121]⟩, .string ⟨#[110, 101]⟩, .int .i64 41, .string ⟨#[65, 99, 113, 117, 105, 114, 101]⟩, .string ⟨#[110, 105]⟩, .int .i64 42, .string ⟨#[87, 97, 105, 116]⟩, .string ⟨#[110, 101]⟩, .int .i64 50, .string ⟨#[66, 117, 102, 102, 101, 114]⟩, .string ⟨#[105, 73]⟩, .int .i64 51, .string ⟨#[80, 97, 99, 107, 97, 103, 101]⟩, .string ⟨#[105, 80]⟩, .int .i64 85, .string ⟨#[82, 101, 102, 79, 102]⟩, .string ⟨#[116]⟩, .int .i64 87, .string ⟨#[79, 98, 106, 101, 99, 116, 84, 121, 112, 101]⟩, .string ⟨#[116]⟩, .int .i64 86, .string ⟨#[67, 111, 110, 100, 82, 101, 102, 79, 102]⟩, .string ⟨#[110]⟩, .int .i64 88, .string ⟨#[77, 105, 100]⟩, .string ⟨#[101, 101, 101]⟩] 101
abbrev twoO : Obj := .cells #[.string ⟨#[65, 100, 100]⟩, .string ⟨#[83, 117, 98, 116, 114, 97, 99, 116]⟩, .string ⟨#[77, 117, 108, 116, 105, 112, 108, 121]⟩, .string ⟨#[68, 105, 118, 105, 100, 101]⟩, .string ⟨#[77, 111, 100]⟩, .string ⟨#[65, 110, 100]⟩, .string ⟨#[79, 114]⟩, .string ⟨#[88, 111, 114]⟩, .string ⟨#[83, 104, 105, 102, 116, 76, 101, 102, 116]⟩, .string ⟨#[83, 104, 105, 102, 116, 82, 105, 103, 104, 116]⟩, .string ⟨#[76, 65, 110, 100]⟩, .string ⟨#[76, 79, 114]⟩, .string ⟨#[76, 69, 113, 117, 97, 108]⟩, .string ⟨#[76, 76, 101, 115, 115]⟩, .string ⟨#[76, 71, 114, 101, 97, 116, 101, 114]⟩, .string ⟨#[67, 111, 110, 99, 97, 116, 101, 110, 97, 116, 101]⟩, .string ⟨#[73, 110, 100, 101, 120]⟩] 9
abbrev oneO : Obj := .cells #[.string ⟨#[78, 111, 116]⟩, .string ⟨#[76, 78, 111, 116]⟩, .string ⟨#[83, 105, 122, 101, 79, 102]⟩, .string ⟨#[84, 111, 73, 110, 116, 101, 103, 101, 114]⟩, .string ⟨#[84, 111, 66, 117, 102, 102, 101, 114]⟩, .string ⟨#[84, 111, 72, 101, 120, 83, 116, 114, 105, 110, 103]⟩, .string ⟨#[84, 111, 68, 101, 99, 105, 109, 97, 108, 83, 116, 114, 105, 110, 103]⟩, .string ⟨#[68, 101, 114, 101, 102, 79, 102]⟩] 9
def numR (a : Int) (x : List UInt8) : List (List UInt8) → List Rw
 | [] => []
 | t :: r => (a, t, x) :: numR (a + 1) x r
theorem twoR_is : twoR = numR 60 [101, 101] two0 := by decide +kernel
theorem oneR_is : oneR = numR 77 [101] one0 := by decide +kernel
theorem numR_len (x : List UInt8) : ∀ (l : List (List UInt8)) (a : Int), (numR a x l).length = l.length
 | [], a => rfl
 | t :: r, a => by rw [numR, List.length_cons, numR_len x r, List.length_cons]
theorem numR_take (x : List UInt8) : ∀ (l : List (List UInt8)) (a : Int) (k : Nat) (h : k < l.length), numR a x (l.take (k + 1)) = numR a x (l.take k) ++ [(a + k, l[k], x)]
 | t :: r, a, 0, h => by simp [numR]
 | t :: r, a, k + 1, h => by
   rw [List.take_succ_cons, List.take_succ_cons, numR, numR, numR_take x r (a + 1) k (by simpa using h)]
   simp only [List.cons_append, List.getElem_cons_succ]
   rw [show a + 1 + (k : Int) = a + ((k + 1 : Nat) : Int) by omega]
theorem own_rw {w : World} {B : Nat} {v : Value} {l : List Rw} (h : RowsI w B v l) {b : Nat} {cs : Array Value} (hb : w.heap[b]? = some (.cells cs 9 (0, 0))) : v.ownBlock ≠ some b := by
 intro e
 obtain ⟨cur, hc⟩ := own_type h e
 rw [hb] at hc
 injection hc with hc
 injection hc with _ h2 _
 exact absurd h2 (by decide)
theorem two_at (k : Nat) (h : k < two0.length) : (two0.map strV).toArray[k]? = some (strV two0[k]) := by simp [h]
theorem one_at (k : Nat) (h : k < one0.length) : (one0.map strV).toArray[k]? = some (strV one0[k]) := by simp [h]
set_option maxRecDepth 100000 in
set_option maxHeartbeats 4000000 in
theorem rows_any (w : World) : Calls Tryz.prog 110 #[] w fun e w' => ∃ v, e = .returned v ∧ RowsI w' w.heap.size v rowsL ∧ Below w.heap.size w w' := by
 obtain ⟨P, hP⟩ : ∃ P, w.heap.size = P := ⟨_, rfl⟩
 have HPE := Lib.hid hP
 have HR0 : Hid (RowsI (w.alloc litO) P (.slice (some ⟨P, 0, none⟩) 31 31) rows0) := Lib.hid (by rw [← hP]; exact World.ownsRow_lit w (rcI rows0).toArray 31 (Nat.le_refl _) (by unfold maxLen; omega) rfl)
 have HB0 : Hid (Below P w (w.alloc litO)) := Lib.hid ((Below.refl _ _).alloc (by omega) _)
 have hs0 : P ≤ (w.alloc litO).heap.size := by have := HB0.out.size; omega
 rw [hP]
 go_enter Tryz.func110, Tryz.ntmps110
 go_upto_region 2 with fail
 (try simp only [hP])
 generalize w.alloc litO = W1 at *
 obtain ⟨r0, hr0⟩ : ∃ z, rows0 = z := ⟨_, rfl⟩
 have HR0E := Lib.hid hr0
 rw [hr0] at HR0
 have hl0 : r0.length = 31 := by rw [← hr0]; rfl
 clear hr0 hP
 have HT8 : Hid ((W1.alloc twoO).heap[W1.heap.size]? = some twoO) := Lib.hid (heap_alloc_new _ _)
 have HR8 := Lib.hid (HR0.out.below ((Below.refl _ _).alloc (Nat.le_refl _) twoO))
 have HB8 : Hid (Below P w (W1.alloc twoO)) := Lib.hid (HB0.out.alloc hs0 _)
 have hs8 : P ≤ (W1.alloc twoO).heap.size := by have := HB8.out.size; have := HPE.out; omega
 go_upto_region 3 with fail
 obtain ⟨G, hG⟩ : ∃ G, W1.heap.size = G := ⟨_, rfl⟩
 rw [hG] at HT8
 (try simp only [hG])
 generalize W1.alloc twoO = V8 at *
 clear hG
 go_wp2_with fail
 go_loopw [1, 3] (fun x i wr => ∃ (v : Value) (k : Nat), v = x ∧ i = .int .i64 k ∧ k ≤ 17 ∧ Hid (RowsI wr P v (r0 ++ numR 60 [101, 101] (two0.take k))) ∧ Hid (wr.heap[G]? = some twoO) ∧ Hid (Below P w wr)) (fun _ i _ => 17 - (intOf i).toNat)
 case atStart => exact ⟨_, 0, rfl, rfl, by omega, by rw [List.take_zero, numR, List.append_nil]; exact HR8, HT8, HB8⟩
 case round =>
  clear HR8 HT8 HB8
  obtain ⟨v, k, rfl, rfl, hk, HR, HT, HB⟩ := hrel
  obtain ⟨w3, rfl⟩ : ∃ y : World, y = wr := ⟨_, rfl⟩
  by_cases hlt : k < 17
  ·have hlt' : (k : Int) < 17 := by omega
   have hkl : k < two0.length := hlt
   have HTK := Lib.hid (numR_take [101, 101] two0 60 k hkl)
   obtain ⟨t, ht⟩ : ∃ t, two0[k] = t := ⟨_, rfl⟩
   have hc : w3.cell? ⟨G, k, none⟩ = some (.string ⟨t.toArray⟩) := by
    rw [cell_of_row w3 G k _ _ (0, 0) HT.out, ← ht]
    exact two_at k hkl
   rw [ht] at HTK
   obtain ⟨l, hl⟩ : ∃ l, r0 ++ numR 60 [101, 101] (two0.take k) = l := ⟨_, rfl⟩
   have HLL : Hid (l ++ [(60 + (k : Int), t, [101, 101])] = r0 ++ numR 60 [101, 101] (two0.take (k + 1))) := Lib.hid (by rw [HTK.out, ← hl, List.append_assoc])
   have hpl : r0.length ≤ 100 := by first | omega | (rw [List.length_append, hl0, numR_len]; decide)
   have hll : l.length ≤ 1000 := by rw [← hl, List.length_append, numR_len, List.length_take]; have : two0.length ≤ 100 := by decide
                                    omega
   rw [hl] at HR
   have HNN : Hid ((w3.alloc (rwObj (60 + (k : Int)) t [101, 101])).heap[w3.heap.size]? = some (rwObj (60 + (k : Int)) t [101, 101])) := Lib.hid (heap_alloc_new _ _)
   have HR4 := Lib.hid (HR.out.below ((Below.refl _ _).alloc (Nat.le_refl _) (rwObj (60 + (k : Int)) t [101, 101])))
   have HT4 := Lib.hid (blk_below HT.out ((Below.refl _ _).alloc (Nat.le_refl _) (rwObj (60 + (k : Int)) t [101, 101])))
   have hsz3 : P ≤ w3.heap.size := by have := HB.out.size; have := HPE.out; omega
   have HB4 : Hid (Below P w (w3.alloc (rwObj (60 + (k : Int)) t [101, 101]))) := Lib.hid (HB.out.alloc hsz3 _)
   have hsz4 : P ≤ (w3.alloc (rwObj (60 + (k : Int)) t [101, 101])).heap.size := by have := HB4.out.size; have := HPE.out; omega
   clear hl ht HTK HR HT
   go_wp2_with (at_builtin; refine wpList_append_row rfl _ _ rfl P _ l rfl HR4.out w3.heap.size (60 + (k : Int), t, [101, 101]) rfl HNN.out (by omega) hsz4 ?_; intro v2 w2 ho hg; have HO := Lib.hid ho; have HG := Lib.hid hg; clear ho hg)
   have HT5 := Lib.hid ((HG.out.block G (lt_of_block HT4.out) (fun e => own_rw HR4.out HT4.out e.symm)).trans HT4.out)
   have HB5 : Hid (Below P w w2) := Lib.hid (HB4.out.grown HG.out hsz4 (fun j hj => own_row HR4.out hj))
   rw [HLL.out] at HO
   clear hc HNN HR4 HT4 HB4 HG
   go_wp2_with fail
   go_roundw
   case rel => first | exact ⟨k + 1, by go_num, by omega, HO, HT5, HB5⟩ | exact ⟨_, k + 1, rfl, by go_num, by omega, HO, HT5, HB5⟩
   case measure => simp [intOf]; omega
  ·have hkN : k = 17 := by omega
   have hlt' : ¬ (k : Int) < 17 := by omega
   have HRX : Hid (RowsI w3 P v (r0 ++ numR 60 [101, 101] two0)) := by rw [hkN, show two0.take 17 = two0 from rfl] at HR; exact HR
   have hs3 : P ≤ w3.heap.size := by have := HB.out.size; have := HPE.out; omega
   clear HR HT hlt hk hkN
   have HT9 : Hid ((w3.alloc oneO).heap[w3.heap.size]? = some oneO) := Lib.hid (heap_alloc_new _ _)
   have HR9 := Lib.hid (HRX.out.below ((Below.refl _ _).alloc (Nat.le_refl _) oneO))
   have HB9 : Hid (Below P w (w3.alloc oneO)) := Lib.hid (HB.out.alloc hs3 _)
   have hs9 : P ≤ (w3.alloc oneO).heap.size := by have := HB9.out.size; have := HPE.out; omega
   go_upto_region 8 with fail
   obtain ⟨H, hG⟩ : ∃ H, w3.heap.size = H := ⟨_, rfl⟩
   rw [hG] at HT9
   (try simp only [hG])
   generalize w3.alloc oneO = V9 at *
   clear hG
   go_wp2_with fail
   go_loopw [1, 5] (fun x i wr => ∃ (v : Value) (k : Nat), v = x ∧ i = .int .i64 k ∧ k ≤ 8 ∧ Hid (RowsI wr P v ((r0 ++ numR 60 [101, 101] two0) ++ numR 77 [101] (one0.take k))) ∧ Hid (wr.heap[H]? = some oneO) ∧ Hid (Below P w wr)) (fun _ i _ => 8 - (intOf i).toNat)
   case atStart => exact ⟨_, 0, rfl, rfl, by omega, by rw [List.take_zero, numR, List.append_nil]; exact HR9, HT9, HB9⟩
   case round =>
    clear HR9 HT9 HB9
    obtain ⟨v, k, rfl, rfl, hk, HR, HT, HB⟩ := hrel
    obtain ⟨w4, rfl⟩ : ∃ y : World, y = wr := ⟨_, rfl⟩
    by_cases hlt : k < 8
    ·have hlt' : (k : Int) < 8 := by omega
     have hkl : k < one0.length := hlt
     have HTK := Lib.hid (numR_take [101] one0 77 k hkl)
     obtain ⟨t, ht⟩ : ∃ t, one0[k] = t := ⟨_, rfl⟩
     have hc : w4.cell? ⟨H, k, none⟩ = some (.string ⟨t.toArray⟩) := by
      rw [cell_of_row w4 H k _ _ (0, 0) HT.out, ← ht]
      exact one_at k hkl
     rw [ht] at HTK
     obtain ⟨l, hl⟩ : ∃ l, (r0 ++ numR 60 [101, 101] two0) ++ numR 77 [101] (one0.take k) = l := ⟨_, rfl⟩
     have HLL : Hid (l ++ [(77 + (k : Int), t, [101])] = (r0 ++ numR 60 [101, 101] two0) ++ numR 77 [101] (one0.take (k + 1))) := Lib.hid (by rw [HTK.out, ← hl, List.append_assoc])
     have hpl : (r0 ++ numR 60 [101, 101] two0).length ≤ 100 := by first | omega | (rw [List.length_append, hl0, numR_len]; decide)
     have hll : l.length ≤ 1000 := by rw [← hl, List.length_append, numR_len, List.length_take]; have : one0.length ≤ 100 := by decide
                                      omega
     rw [hl] at HR
     have HNN : Hid ((w4.alloc (rwObj (77 + (k : Int)) t [101])).heap[w4.heap.size]? = some (rwObj (77 + (k : Int)) t [101])) := Lib.hid (heap_alloc_new _ _)
     have HR4 := Lib.hid (HR.out.below ((Below.refl _ _).alloc (Nat.le_refl _) (rwObj (77 + (k : Int)) t [101])))
     have HT4 := Lib.hid (blk_below HT.out ((Below.refl _ _).alloc (Nat.le_refl _) (rwObj (77 + (k : Int)) t [101])))
     have hsz3 : P ≤ w4.heap.size := by have := HB.out.size; have := HPE.out; omega
     have HB4 : Hid (Below P w (w4.alloc (rwObj (77 + (k : Int)) t [101]))) := Lib.hid (HB.out.alloc hsz3 _)
     have hsz4 : P ≤ (w4.alloc (rwObj (77 + (k : Int)) t [101])).heap.size := by have := HB4.out.size; have := HPE.out; omega
     clear hl ht HTK HR HT
     go_wp2_with (at_builtin; refine wpList_append_row rfl _ _ rfl P _ l rfl HR4.out w4.heap.size (77 + (k : Int), t, [101]) rfl HNN.out (by omega) hsz4 ?_; intro v2 w2 ho hg; have HO := Lib.hid ho; have HG := Lib.hid hg; clear ho hg)
     have HT5 := Lib.hid ((HG.out.block H (lt_of_block HT4.out) (fun e => own_rw HR4.out HT4.out e.symm)).trans HT4.out)
     have HB5 : Hid (Below P w w2) := Lib.hid (HB4.out.grown HG.out hsz4 (fun j hj => own_row HR4.out hj))
     rw [HLL.out] at HO
     clear hc HNN HR4 HT4 HB4 HG
     go_wp2_with fail
     go_roundw
     case rel => first | exact ⟨k + 1, by go_num, by omega, HO, HT5, HB5⟩ | exact ⟨_, k + 1, rfl, by go_num, by omega, HO, HT5, HB5⟩
     case measure => simp [intOf]; omega
    ·have hkN : k = 8 := by omega
     have hlt' : ¬ (k : Int) < 8 := by omega
     have HRX : Hid (RowsI w4 P v ((r0 ++ numR 60 [101, 101] two0) ++ numR 77 [101] one0)) := by rw [hkN, show one0.take 8 = one0 from rfl] at HR; exact HR
     have hs3 : P ≤ w4.heap.size := by have := HB.out.size; have := HPE.out; omega
     clear HR HT hlt hk hkN
     go_wp2_with fail
     go_ret
     exact ⟨_, rfl, by rw [show rowsL = r0 ++ numR 60 [101, 101] two0 ++ numR 77 [101] one0 from by rw [← HR0E.out, ← twoR_is, ← oneR_is]; rfl]; exact HRX.out, HB.out⟩
abbrev rwV (t : Rw) : Value := .agg #[.int .i64 t.1, .string ⟨t.2.1.toArray⟩, .string ⟨t.2.2.toArray⟩]
theorem rowsL_len : rowsL.length = 56 := by decide
theorem rowsI_cells {w : World} {B : Nat} {v : Value} (h : RowsI w B v rowsL) : ∃ g c, v = .slice (some ⟨g, 0, none⟩) 56 c ∧ 
 ∀ i (h : i < rowsL.length), w.cell? ⟨g, i * 3, none⟩ = some (.int .i64 rowsL[i].1) ∧ w.cell? ⟨g, i * 3 + 1, none⟩ = some (.string ⟨rowsL[i].2.1.toArray⟩) ∧ w.cell? ⟨g, i * 3 + 2, none⟩ = some (.string ⟨rowsL[i].2.2.toArray⟩) := by
 obtain ⟨g, c, h1, _, _, h4⟩ := h.cells (by decide)
 rw [rowsL_len] at h1
 exact ⟨g, c, h1, h4⟩
theorem find_step (p : Rw → Bool) (k : Nat) (h : k < rowsL.length) : (rowsL.drop k).find? p = if p rowsL[k] = true then some rowsL[k] else (rowsL.drop (k + 1)).find? p := by
 rw [List.drop_eq_getElem_cons h, List.find?_cons]
 cases p rowsL[k] <;> rfl
theorem ret_rowOf (tmps : Array Value) (w : World) (b : Nat) (c0 c1 c2 : Value) (h2 : tmps.getD 2 undef = .pointer (some ⟨b, 0, none⟩)) (hb : w.heap[b]? = some (.cells #[c0, c1, c2] 101 (0, 0))) :
 (results Tryz.f61 tmps).run Tryz.prog w = .ok (.tuple #[.agg #[c0, c1, c2], tmps.getD 3 undef]) w := by
 obtain ⟨e0, e1, e2⟩ := cells3 hb
 have h2' : tmps[2]?.getD undef = .pointer (some ⟨b, 0, none⟩) := by rw [← h2]; simp
 simp [results]
 go_simp
set_option maxRecDepth 100000 in
set_option maxHeartbeats 4000000 in
theorem rowOf_any (op : Int) (w : World) : Calls Tryz.prog 61 #[.int .i64 op] w fun e w' => e = .returned (.tuple #[rwV (rowR (rowF op)), .bool (rowF op).isSome]) ∧ Below w.heap.size w w' := by
 obtain ⟨X, hX⟩ : ∃ X, Hid (rowF op = X) := ⟨_, Lib.hid rfl⟩
 have HX0 : Hid ((rowsL.drop 0).find? (fun t => t.1 == op) = X) := Lib.hid (by rw [← hX.out] <;> rfl)
 rw [hX.out]
 have HB0 : Hid (Below w.heap.size w (w.alloc (rwObj 0 [] []))) := Lib.hid ((Below.refl _ _).alloc (Nat.le_refl _) _)
 have HE0 : Hid ((w.alloc (rwObj 0 [] [])).heap[w.heap.size]? = some (rwObj 0 [] [])) := Lib.hid (heap_alloc_new _ _)
 obtain ⟨P, hP⟩ : ∃ P, w.heap.size = P := ⟨_, rfl⟩
 have HPE := Lib.hid hP
 go_enter Tryz.func61, Tryz.ntmps61
 go_upto_region 1 with fail
 (try simp only [hP])
 rw [hP] at HB0 HE0
 generalize w.alloc (rwObj 0 [] []) = W0 at *
 have HRW := Lib.hid (rows_any W0)
 clear hP
 go_wp2_with fail
 ((with_reducible refine HRW.out.mono ?_))
 rintro e w1 ⟨v, rfl, hr, hb1⟩
 have HB1 : Hid (Below P w w1) := Lib.hid (bel_then HB0.out (by have := HPE.out; omega) hb1)
 have HE1 := Lib.hid (blk_below HE0.out hb1)
 obtain ⟨g, c, rfl, hcell⟩ := rowsI_cells hr
 have HC := Lib.hid hcell
 clear hr hb1 hcell HB0 HE0 HRW
 go_wp2_with fail
 go_loopw [5] (fun i wr => ∃ k : Nat, i = .int .i64 k ∧ k ≤ 56 ∧ Hid ((rowsL.drop k).find? (fun t => t.1 == op) = X) ∧ w1 = wr) (fun i _ => 56 - (intOf i).toNat)
 case atStart => exact ⟨0, rfl, by omega, HX0, rfl⟩
 case round =>
  clear HX0
  obtain ⟨k, rfl, hk, HX, rfl⟩ := hrel
  obtain ⟨w3, rfl⟩ : ∃ y : World, y = w1 := ⟨_, rfl⟩
  have f0 := free3 HE1.out 0
  have f1 := free3 HE1.out 1
  have f2 := free3 HE1.out 2
  obtain ⟨e0, e1, e2⟩ := cells3 HE1.out
  by_cases hlt : k < 56
  ·have hlt' : (k : Int) < 56 := by omega
   have hkl : k < rowsL.length := by rw [rowsL_len]; exact hlt
   obtain ⟨c0, c1, c2⟩ := HC.out k hkl
   have HXS := Lib.hid (find_step (fun t => t.1 == op) k hkl)
   obtain ⟨t, ht⟩ : ∃ t, rowsL[k] = t := ⟨_, rfl⟩
   rw [ht] at HXS c0 c1 c2
   rw [HX.out] at HXS
   obtain ⟨ta, tb, tc⟩ := t
   simp only at c0 c1 c2
   have HE9 := Lib.hid (HE1.out)
   clear ht HX
   cases htest : (ta == op) with
   | true =>
     have HX2 : Hid (X = some (ta, tb, tc)) := Lib.hid (by rw [HXS.out, if_pos htest])
     go_wp2_with fail
     exact bodyPost_ret (ret_rowOf _ _ _ _ _ _ rfl (put3 HE1.out _ _ _)) rfl ⟨by rw [HX2.out]; rfl, by rw [HPE.out]; exact bel3 HB1.out (Nat.le_refl _) _ _ _⟩
   | false =>
     have HX2 : Hid ((rowsL.drop (k + 1)).find? (fun t => t.1 == op) = X) := Lib.hid (by rw [HXS.out, if_neg (by rw [htest]; decide)])
     clear HXS e0 e1 e2 f0 f1 f2
     go_wp2_with fail
     go_roundw
     case rel => exact ⟨k + 1, by go_num, by omega, HX2, by trivial⟩
     case measure => simp [intOf]; omega
  ·obtain rfl : k = 56 := by omega
   have HX2 : Hid (X = none) := Lib.hid (by rw [← HX.out] <;> rfl)
   clear HX
   go_wp2_with fail
   exact bodyPost_ret (ret_rowOf _ _ _ _ _ _ rfl (put3 HE1.out _ _ _)) rfl ⟨by rw [HX2.out]; rfl, by rw [HPE.out]; exact bel3 HB1.out (Nat.le_refl _) _ _ _⟩
theorem ret_wordOf (tmps : Array Value) (w : World) (b : Nat) (c0 c1 c2 : Value) (h2 : tmps.getD 2 undef = .pointer (some ⟨b, 0, none⟩)) (hb : w.heap[b]? = some (.cells #[c0, c1, c2] 101 (0, 0))) :
 (results Tryz.f143 tmps).run Tryz.prog w = .ok (.tuple #[.agg #[c0, c1, c2], tmps.getD 3 undef]) w := by
 obtain ⟨e0, e1, e2⟩ := cells3 hb
 have h2' : tmps[2]?.getD undef = .pointer (some ⟨b, 0, none⟩) := by rw [← h2]; simp
 simp [results]
 go_simp
set_option maxRecDepth 100000 in
set_option maxHeartbeats 4000000 in
theorem wordOf_any (s : List UInt8) (w : World) (hs : s.length ≤ 1000000) : Calls Tryz.prog 143 #[.string ⟨s.toArray⟩] w fun e w' => e = .returned (.tuple #[rwV (rowR (wordF s)), .bool (wordF s).isSome]) ∧ Below w.heap.size w w' := by
 obtain ⟨X, hX⟩ : ∃ X, Hid (wordF s = X) := ⟨_, Lib.hid rfl⟩
 have HX0 : Hid ((rowsL.drop 0).find? (fun t => t.2.1 == s) = X) := Lib.hid (by rw [← hX.out] <;> rfl)
 rw [hX.out]
 have HB0 : Hid (Below w.heap.size w (w.alloc (rwObj 0 [] []))) := Lib.hid ((Below.refl _ _).alloc (Nat.le_refl _) _)
 have HE0 : Hid ((w.alloc (rwObj 0 [] [])).heap[w.heap.size]? = some (rwObj 0 [] [])) := Lib.hid (heap_alloc_new _ _)
 obtain ⟨P, hP⟩ : ∃ P, w.heap.size = P := ⟨_, rfl⟩
 have HPE := Lib.hid hP
 go_enter Tryz.func143, Tryz.ntmps143
 go_upto_region 1 with fail
 (try simp only [hP])
 rw [hP] at HB0 HE0
 generalize w.alloc (rwObj 0 [] []) = W0 at *
 have HRW := Lib.hid (rows_any W0)
 clear hP
 go_wp2_with fail
 ((with_reducible refine HRW.out.mono ?_))
 rintro e w1 ⟨v, rfl, hr, hb1⟩
 have HB1 : Hid (Below P w w1) := Lib.hid (bel_then HB0.out (by have := HPE.out; omega) hb1)
 have HE1 := Lib.hid (blk_below HE0.out hb1)
 obtain ⟨g, c, rfl, hcell⟩ := rowsI_cells hr
 have HC := Lib.hid hcell
 clear hr hb1 hcell HB0 HE0 HRW
 go_wp2_with fail
 go_loopw [5] (fun i wr => ∃ k : Nat, i = .int .i64 k ∧ k ≤ 56 ∧ Hid ((rowsL.drop k).find? (fun t => t.2.1 == s) = X) ∧ w1 = wr) (fun i _ => 56 - (intOf i).toNat)
 case atStart => exact ⟨0, rfl, by omega, HX0, rfl⟩
 case round =>
  clear HX0
  obtain ⟨k, rfl, hk, HX, rfl⟩ := hrel
  obtain ⟨w3, rfl⟩ : ∃ y : World, y = w1 := ⟨_, rfl⟩
  have f0 := free3 HE1.out 0
  have f1 := free3 HE1.out 1
  have f2 := free3 HE1.out 2
  obtain ⟨e0, e1, e2⟩ := cells3 HE1.out
  by_cases hlt : k < 56
  ·have hlt' : (k : Int) < 56 := by omega
   have hkl : k < rowsL.length := by rw [rowsL_len]; exact hlt
   obtain ⟨c0, c1, c2⟩ := HC.out k hkl
   have HXS := Lib.hid (find_step (fun t => t.2.1 == s) k hkl)
   obtain ⟨t, ht⟩ : ∃ t, rowsL[k] = t := ⟨_, rfl⟩
   rw [ht] at HXS c0 c1 c2
   rw [HX.out] at HXS
   obtain ⟨ta, tb, tc⟩ := t
   simp only at c0 c1 c2
   have HE9 := Lib.hid (HE1.out)
   clear ht HX
   cases htest : (tb == s) with
   | true =>
     have HX2 : Hid (X = some (ta, tb, tc)) := Lib.hid (by rw [HXS.out, if_pos htest])
     go_wp2_with fail
     exact bodyPost_ret (ret_wordOf _ _ _ _ _ _ rfl (put3 HE1.out _ _ _)) rfl ⟨by rw [HX2.out]; rfl, by rw [HPE.out]; exact bel3 HB1.out (Nat.le_refl _) _ _ _⟩
   | false =>
     have HX2 : Hid ((rowsL.drop (k + 1)).find? (fun t => t.2.1 == s) = X) := Lib.hid (by rw [HXS.out, if_neg (by rw [htest]; decide)])
     clear HXS e0 e1 e2 f0 f1 f2
     go_wp2_with fail
     go_roundw
     case rel => exact ⟨k + 1, by go_num, by omega, HX2, by trivial⟩
     case measure => simp [intOf]; omega
  ·obtain rfl : k = 56 := by omega
   have HX2 : Hid (X = none) := Lib.hid (by rw [← HX.out] <;> rfl)
   clear HX
   go_wp2_with fail
   exact bodyPost_ret (ret_wordOf _ _ _ _ _ _ rfl (put3 HE1.out _ _ _)) rfl ⟨by rw [HX2.out]; rfl, by rw [HPE.out]; exact bel3 HB1.out (Nat.le_refl _) _ _ _⟩
end
end Go.Proofs.YtnicnfchkdmieaaGreatDoor
