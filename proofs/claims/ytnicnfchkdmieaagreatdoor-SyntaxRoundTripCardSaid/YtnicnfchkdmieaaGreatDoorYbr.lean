/- Fh Pc Pd -/
import Derived.Test.YtnicnfchkdmieaaGreatDoorYbq
import Derived.Test.YtnicnfchkdmieaaGreatDoorYbn
set_option linter.unusedVariables false
set_option linter.unusedSimpArgs false
namespace Go.Proofs.YtnicnfchkdmieaaGreatDoor
section
open Go.RowKit
end
section
open Go.RowKit
attribute [local go_sem] ByteArray.mk_append_mk bs_get bs_cut bs_end
theorem seg_keep (C : Nat) (n : Int) (w : World) (h : CSt w C) :
  Calls Tryz.prog 64 #[.int .i64 n] w fun e w' => ∃ s : List UInt8, e = .returned (.string ⟨s.toArray⟩) ∧ s.length ≤ 4 ∧ CSt w' C ∧ Keep C w w' :=
 (seg_any n w).mono fun e w' ⟨s, h1, h2, h3⟩ => ⟨s, h1, h2, h.keep h3, Keep.of h3⟩
theorem gname_any (C : Nat) (w : World) (h : CSt w C) :
  Calls Tryz.prog 114 #[.pointer (some ⟨C, 0, none⟩)] w fun e w' => ∃ s : List UInt8, e = .returned (.string ⟨s.toArray⟩) ∧ s.length ≤ 5 ∧ CSt w' C ∧ Keep C w w' := by
 have HN := Lib.hid (next_any C 6 w h (by omega) (by omega))
 clear h
 go_enter Tryz.func114, Tryz.ntmps114
 go_wp2_with fail
 ((with_reducible refine HN.out.mono ?_))
 rintro e w1 ⟨k, rfl, hk, hc1, hk1⟩
 have HN2 := Lib.hid (next_any C 10 w1 hc1 (by omega) (by omega))
 have HK1 := Lib.hid hk1
 have hcs : (((k : Int) == 4) = true) ∨ (((k : Int) == 4) = false ∧ ((k : Int) == 5) = true) ∨ (((k : Int) == 4) = false ∧ ((k : Int) == 5) = false) := by
  cases (k : Int) == 4 <;> cases (k : Int) == 5 <;> simp
 clear hc1 hk1 HN hk
 rcases hcs with t1 | ⟨t1, t2⟩ | ⟨t1, t2⟩
 all_goals
  go_wp2_with fail
  ((with_reducible refine HN2.out.mono ?_))
  rintro e w2 ⟨k2, rfl, hk2, hc2, hkk2⟩
  have HS := Lib.hid (seg_keep C k2 w2 hc2)
  have HK2 := Lib.hid (HK1.out.trans hkk2)
  clear hc2 hkk2 hk2
  go_wp2_with fail
  ((with_reducible refine HS.out.mono ?_))
  rintro e w3 ⟨s, rfl, hs, hc3, hk3⟩
  have HC3 := Lib.hid hc3
  have HK3 := Lib.hid (HK2.out.trans hk3)
  clear hc3 hk3
  go_wp2_with fail
  go_ret
  exact ⟨_, rfl, by first | omega | (simp only [List.length_append, List.length_cons, List.length_nil]; omega), HC3.out, HK3.out⟩
theorem gnumber_any (C : Nat) (w : World) (h : CSt w C) :
  Calls Tryz.prog 115 #[.pointer (some ⟨C, 0, none⟩)] w fun e w' => ∃ n : Int, e = .returned (.int .u64 n) ∧ (0 ≤ n ∧ n ≤ 18446744073709551615) ∧ CSt w' C ∧ Keep C w w' := by
 have HN := Lib.hid (next_any C 8 w h (by omega) (by omega))
 clear h
 go_enter Tryz.func115, Tryz.ntmps115
 go_wp2_with fail
 ((with_reducible refine HN.out.mono ?_))
 rintro e w1 ⟨k, rfl, hk, hc1, hk1⟩
 have HC1 := Lib.hid hc1
 have HN2 := Lib.hid (next_any C 9 w1 hc1 (by omega) (by omega))
 have HN3 := Lib.hid (next_any C 1073741824 w1 hc1 (by omega) (by omega))
 have HK1 := Lib.hid hk1
 have hcs : (((k : Int) == 6) = true) ∨ (((k : Int) == 6) = false ∧ ((k : Int) == 7) = true) ∨ (((k : Int) == 6) = false ∧ ((k : Int) == 7) = false) := by
  cases (k : Int) == 6 <;> cases (k : Int) == 7 <;> simp
 clear hc1 hk1 HN hk
 rcases hcs with t1 | ⟨t1, t2⟩ | ⟨t1, t2⟩
 ·go_wp2_with fail
  go_ret
  exact ⟨_, rfl, by omega, HC1.out, HK1.out⟩
 ·go_wp2_with fail
  ((with_reducible refine HN3.out.mono ?_))
  rintro e w2 ⟨k2, rfl, hk2, hc2, hkk2⟩
  have HC2 := Lib.hid hc2
  have HK2 := Lib.hid (HK1.out.trans hkk2)
  clear hc2 hkk2
  go_wp2_with fail
  go_ret
  exact ⟨_, rfl, by omega, HC2.out, HK2.out⟩
 ·go_wp2_with fail
  ((with_reducible refine HN2.out.mono ?_))
  rintro e w2 ⟨k2, rfl, hk2, hc2, hkk2⟩
  have HC2 := Lib.hid hc2
  have HK2 := Lib.hid (HK1.out.trans hkk2)
  clear hc2 hkk2
  go_wp2_with fail
  go_ret
  exact ⟨_, rfl, by omega, HC2.out, HK2.out⟩
def KRow (w : World) (B : Nat) (v : Value) (vs : List Value) : Prop := w.ownsRow B 33 1 v vs.length vs
theorem infoKids : (Tryz.prog.info? 33).map (fun i => (i.zero, i.size, i.bytes)) = some (some (.slice none 0 0), 1, 24) := by kernel_rfl
theorem KRow.form {w : World} {B : Nat} {v : Value} {vs : List Value} (h : KRow w B v vs) : ∃ a c, v = .slice a vs.length c := by
 rcases h.2 with ⟨rfl, h0⟩ | ⟨g, cap, cur, rfl, _⟩
 ·exact ⟨none, 0, by rw [h0]⟩
 ·exact ⟨_, cap, rfl⟩
theorem KRow.sl {w : World} {B : Nat} {v : Value} {vs : List Value} (h : KRow w B v vs) : KSl w v vs := by
 rcases h.2 with ⟨rfl, h0⟩ | ⟨g, cap, cur, rfl, _⟩
 ·exact ⟨none, 0, by rw [h0], fun hn => absurd (List.eq_nil_of_length_eq_zero h0) hn⟩
 ·exact ⟨_, cap, rfl, fun _ => ⟨g, 0, rfl, fun i hi => by rw [World.ownsRow.cellAt h (0 + i) (by omega), Nat.zero_add, List.getElem?_eq_getElem hi]⟩⟩
theorem KRow.below {w w' : World} {B : Nat} {v : Value} {vs : List Value} (h : KRow w B v vs) (hb : Below w.heap.size w w') : KRow w' B v vs := own_below h hb
theorem KRow.keep {w w' : World} {B C : Nat} {v : Value} {vs : List Value} (h : KRow w B v vs) (hC : CSt w C) (hk : Keep C w w') : KRow w' B v vs := by
 obtain ⟨a, cap, i, l, hc, _⟩ := hC
 refine own_grown h hk (fun g hg e => ?_)
 injection e with e
 obtain ⟨cur, hcur⟩ := own_type h hg
 rw [← e, hc] at hcur
 injection hcur with hcur
 injection hcur with _ h2 _
 exact absurd h2 (by decide)
theorem KRow.nil (w : World) (B : Nat) : KRow w B (.slice none 0 0) [] := ⟨rfl, .inl ⟨rfl, rfl⟩⟩
theorem wpList_append_kid {w : World} {ops : Array Oper} {rest : List Oper} {o : Oper} {a : Act} {Q : Exit → Act → World → Prop} (hgd : o.guard = none) (s x : Operand)
  (ho : o.op = .call { callee := .builtin .append, args := #[s, x], argTypes := #[137, 137] })
  (B : Nat) (v : Value) (vs : List Value) (hs : a.eval s = v) (hown : KRow w B v vs) (g : Nat) (t : Value) (ht : t.oneCell' = true)
  (hx : a.eval x = .slice (some ⟨g, 0, none⟩) 1 1) (hb : w.heap[g]? = some (.cells #[t] 33 (0, 0))) (hlen : vs.length ≤ 100000) (hB : B ≤ w.heap.size)
  (h : ∀ v' w', KRow w' B v' (vs ++ [t]) → w.grownBy w' v.ownBlock → wpList Tryz.prog ops Q rest (a.put o.dst v') w') : wpList Tryz.prog ops Q (o :: rest) a w := by
 obtain ⟨i0, hi, hz0, hz1, hz2⟩ := info_parts infoKids
 refine wpList_append_own _ hgd s x _ ho B 33 i0 _ 1 24 Tryz.underlying137 hi hz0 hz1 hz2 rfl (by decide) v vs.length _ hs hown ⟨g, 0, none⟩ 1 1 [t] hx rfl ?_ ?_ (by unfold maxLen; omega) (by omega) hB ?_
 ·intro j z hj
  match j, hj with
  | 0, hj => cases hj; exact cell_of_row w g 0 _ _ (0, 0) hb
 ·intro z hz
  simp only [List.mem_cons, List.not_mem_nil, or_false] at hz
  rw [hz]; exact ht
 ·intro v' w' h1 h2 _
  refine h v' w' ?_ h2
  unfold KRow
  rw [List.length_append]
  exact h1
def GPost (C N : Nat) (w : World) (e : Ending) (w' : World) : Prop := ∃ v, e = .returned v ∧ NV w' w.heap.size N v ∧ CSt w' C ∧ Keep C w w'
theorem GPost.more {C N M : Nat} {w w' : World} {e : Ending} (h : GPost C N w e w') (hN : N ≤ M) : GPost C M w e w' := by
 obtain ⟨v, h1, h2, h3, h4⟩ := h
 exact ⟨v, h1, h2.more hN, h3, h4⟩
theorem NV.one {w : World} {B N : Nat} {v : Value} (h : NV w B N v) : v.oneCell' = true := by
 obtain ⟨ns, h1, _⟩ := h
 obtain ⟨a, c, rfl⟩ := h1.form
 rfl
def NVs (w : World) (N : Nat) (vs : List Value) : Prop := ∀ v ∈ vs, NV w 0 N v
theorem NVs.keep {w w' : World} {N C : Nat} {vs : List Value} (h : NVs w N vs) (hC : CSt w C) (hk : Keep C w w') : NVs w' N vs := fun v hv => (h v hv).keep hC hk
theorem NVs.below {w w' : World} {N : Nat} {vs : List Value} (h : NVs w N vs) (hb : Below w.heap.size w w') : NVs w' N vs := fun v hv => (h v hv).below hb
theorem NVs.nil (w : World) (N : Nat) : NVs w N [] := fun v hv => by cases hv
theorem NVs.snoc {w : World} {N : Nat} {vs : List Value} {v : Value} (h : NVs w N vs) (hv : NV w 0 N v) : NVs w N (vs ++ [v]) := fun x hx => by
 rcases List.mem_append.1 hx with hx | hx
 ·exact h x hx
 ·simp only [List.mem_cons, List.not_mem_nil, or_false] at hx; subst hx; exact hv
theorem NV.grownRow {w w' : World} {B B2 N : Nat} {v kv : Value} {vs : List Value} (h : NV w B N v) (hk : KRow w B2 kv vs) (hg : w.grownBy w' kv.ownBlock) : NV w' B N v := by
 obtain ⟨ns, h1, h2, h3⟩ := h
 refine ⟨ns, own_grown h1 hg (fun g hv e => ?_), h2, h3⟩
 obtain ⟨cur, hc⟩ := own_type h1 hv
 obtain ⟨cur2, hc2⟩ := own_type hk e
 rw [hc] at hc2
 injection hc2 with hc2
 injection hc2 with _ h2 _
 exact absurd h2 (by decide)
theorem NVs.grownRow {w w' : World} {B2 N : Nat} {us vs : List Value} {kv : Value} (h : NVs w N us) (hk : KRow w B2 kv vs) (hg : w.grownBy w' kv.ownBlock) : NVs w' N us := fun v hv => (h v hv).grownRow hk hg
theorem NVs.each {w : World} {N : Nat} {vs : List Value} (h : NVs w N vs) : ∀ i (hi : i < vs.length) (h2 : i < (List.replicate vs.length N).length), NV w 0 (List.replicate vs.length N)[i] vs[i] := fun i hi h2 => by
 rw [List.getElem_replicate]; exact h _ (List.getElem_mem hi)
end
section
open Go.RowKit
attribute [local go_sem] ByteArray.mk_append_mk bs_get bs_cut bs_end
theorem NV.form {w : World} {B N : Nat} {v : Value} (h : NV w B N v) : ∃ a n c, v = .slice a n c := by
 obtain ⟨ns, h1, _⟩ := h
 obtain ⟨a, c, rfl⟩ := h1.form
 exact ⟨a, _, c, rfl⟩
theorem KSl.lit (w : World) (vs : List Value) (n : Nat) (hn : n = vs.length) : KSl (w.alloc (.cells vs.toArray 33)) (.slice (some ⟨w.heap.size, 0, none⟩) n n) vs := by
 subst hn
 refine ⟨_, _, rfl, fun _ => ⟨_, 0, rfl, fun i hi => ?_⟩⟩
 rw [cell_of_row _ _ _ _ _ (0, 0) (heap_alloc_new w (.cells vs.toArray 33)), Nat.zero_add]
 simp [hi]
abbrev dsO : Obj := .cells #[.string ⟨#[]⟩, .string ⟨#[120]⟩, .string ⟨#[48, 70]⟩, .string ⟨#[49, 50, 97, 98]⟩, .string ⟨#[0, 255, 34, 92]⟩] 9
def dsL : List (List UInt8) := [[], [120], [48, 70], [49, 50, 97, 98], [0, 255, 34, 92]]
theorem ds_at : ∀ k : Fin 5, ∃ x ∈ dsL, dsL[k.val]? = some x ∧ x.length ≤ 4 := by decide +kernel
theorem ds_cell {w : World} {A : Nat} (h : w.heap[A]? = some dsO) (k : Nat) (hk : k < 5) : ∃ x : List UInt8, x.length ≤ 4 ∧ w.cell? ⟨A, k, none⟩ = some (.string ⟨x.toArray⟩) := by
 obtain ⟨x, _, h1, h2⟩ := ds_at ⟨k, hk⟩
 refine ⟨x, h2, ?_⟩
 rw [cell_of_row w A k _ _ (0, 0) h]
 have e : (dsL.map strV).toArray[k]? = some (strV x) := by
  have h1' : dsL[k]? = some x := h1
  rw [List.getElem?_toArray, List.getElem?_map, h1']
  rfl
 exact e
theorem sum_rep (m K : Nat) : (List.replicate m K).sum = m * K := by
 induction m with
 | zero => simp
 | succ m ih => rw [List.replicate_succ, List.sum_cons, ih, Nat.add_mul]; omega
def dataN : Nat → Nat
 | 0 => 6
 | d + 1 => 3 + 3 * dataN d
theorem dataN_le (d : Nat) (h : d ≤ 5) : dataN d ≤ 3000 := by
 match d, h with
 | 0, _ => exact (by decide)
 | 1, _ => exact (by decide)
 | 2, _ => exact (by decide)
 | 3, _ => exact (by decide)
 | 4, _ => exact (by decide)
 | 5, _ => exact (by decide)
theorem dataN_pos : ∀ d, 6 ≤ dataN d
 | 0 => Nat.le_refl _
 | d + 1 => by have := dataN_pos d; unfold dataN; omega
def DataOk (C d : Nat) : Prop := ∀ w, CSt w C → Calls Tryz.prog 72 #[.pointer (some ⟨C, 0, none⟩), .int .i64 d] w (GPost C (dataN d) w)
set_option maxRecDepth 100000 in
set_option maxHeartbeats 8000000 in
theorem data_step (C d : Nat) (hd : d ≤ 5) (ih : ∀ d', d = d' + 1 → DataOk C d') : DataOk C d := by
 intro w hc
 have IH := Lib.hid ih
 have HN := Lib.hid (next_any C 5 w hc (by omega) (by omega))
 have HPOS := Lib.hid (dataN_pos d)
 have HCW := Lib.hid hc
 clear hc ih
 go_enter Tryz.func72, Tryz.ntmps72
 go_wp2_with fail
 ((with_reducible refine HN.out.mono ?_))
 rintro e w1 ⟨k, rfl, hk, hc1, hk1⟩
 have HC1 := Lib.hid hc1
 have HK1 := Lib.hid hk1
 clear hc1 hk1 HN
 by_cases c1 : k = 1
 ·subst c1
  have hA : (w1.alloc dsO).heap[w1.heap.size]? = some dsO := heap_alloc_new _ _
  have hB : Below w1.heap.size w1 (w1.alloc dsO) := (Below.refl _ _).alloc (Nat.le_refl _) _
  have HC2 := Lib.hid (HC1.out.keep hB)
  have HK2 : Hid (Keep C w (w1.alloc dsO)) := Lib.hid (HK1.out.trans (Keep.of hB))
  have hCA : C < w1.heap.size := HC1.out.lt
  have HA := Lib.hid hA
  have HNX := Lib.hid (next_any C 5 (w1.alloc dsO) HC2.out (by omega) (by omega))
  clear hA hB
  go_wp2_with fail
  ((with_reducible refine HNX.out.mono ?_))
  rintro e w2 ⟨k2, rfl, hk2, hc3, hk3⟩
  have hA2 : w2.heap[w1.heap.size]? = some dsO := (hk3.block _ (lt_of_block HA.out) (fun e => by injection e with e; omega)).trans HA.out
  obtain ⟨x, hx, e0⟩ := ds_cell hA2 k2 (by omega)
  have hk25 : (k2 : Int) < 5 := hk2
  have HK3 := Lib.hid (HK2.out.trans hk3)
  have HC3 := Lib.hid hc3
  have HG := Lib.hid (gnode_any 2 0 x _ [] [] w2 (by omega) (by omega) (fun h => by unfold NestP at h; omega) (KSl.nil w2) rfl (fun i h => by cases h) (by simp) (by simp))
  simp only [List.sum_nil, Nat.add_zero] at HG
  clear hc3 hk3 HNX HC2 HK2 hA2 HA
  go_wp2_with fail
  ((with_reducible refine HG.out.mono ?_))
  rintro e w3 ⟨v, rfl, hv, hb⟩
  have HV := Lib.hid ((hv.base (B' := w.heap.size) HK3.out.size).more (M := dataN d) (by have := HPOS.out; omega))
  have HC4 := Lib.hid (HC3.out.keep hb)
  have HK4 := Lib.hid (HK3.out.trans (Keep.of hb))
  clear hv hb
  go_wp2_with fail
  go_ret
  exact ⟨_, rfl, HV.out, HC4.out, HK4.out⟩
 have t1 : ((k : Int) == 1) = false := by rw [beq_eq_false_iff_ne]; omega
 by_cases c2 : k = 2
 ·subst c2
  have HNX := Lib.hid (next_any C 4 w1 HC1.out (by omega) (by omega))
  go_wp2_with fail
  ((with_reducible refine HNX.out.mono ?_))
  rintro e w2 ⟨k2, rfl, hk2, hc3, hk3⟩
  have HK3 := Lib.hid (HK1.out.trans hk3)
  have HC3 := Lib.hid hc3
  clear hc3 hk3 HNX
  go_wp2_with fail
  go_loopw [5, 6] (fun x i wr => ∃ (v : Value) (vs : List Value) (q : Nat), v = x ∧ i = .int .i64 q ∧ q + vs.length ≤ 3 ∧ Hid (KRow wr w.heap.size v vs) ∧ Hid (NVs wr 1 vs) ∧ Hid (CSt wr C) ∧ Hid (Keep C w wr)) (fun _ i _ => (intOf i).toNat)
  case atStart => exact ⟨_, [], k2, rfl, rfl, by simp; omega, Lib.hid (KRow.nil _ _), Lib.hid (NVs.nil _ _), HC3, HK3⟩
  case round =>
   clear HC3 HK3
   obtain ⟨v, vs, q, rfl, rfl, hq, HR, HV, HC, HK⟩ := hrel
   obtain ⟨w3, rfl⟩ : ∃ y : World, y = wr := ⟨_, rfl⟩
   by_cases hq0 : 0 < q
   ·have hq1 : (0 : Int) < (q : Int) := by omega
    have HNY := Lib.hid (next_any C 256 w3 HC.out (by omega) (by omega))
    go_wp2_with fail
    ((with_reducible refine HNY.out.mono ?_))
    rintro e w4 ⟨k4, rfl, hk4, hc4, hkk4⟩
    have HR4 := Lib.hid (HR.out.keep HC.out hkk4)
    have HV4 := Lib.hid (HV.out.keep HC.out hkk4)
    have HK4 := Lib.hid (HK.out.trans hkk4)
    have HC4 := Lib.hid hc4
    have HIN := Lib.hid (gInt_any k4 w4 (by omega))
    have hk4' : (k4 : Int) < 256 := hk4
    clear hc4 hkk4 HR HV HK HC HNY
    go_wp2_with fail
    ((with_reducible refine HIN.out.mono ?_))
    rintro e w5 ⟨v5, rfl, hv5, hb5⟩
    obtain ⟨a5, n5, c5, rfl⟩ := hv5.form
    have HR5 := Lib.hid (HR4.out.below hb5)
    have HV5 := Lib.hid (HV4.out.below hb5)
    have HC5 := Lib.hid (HC4.out.keep hb5)
    have HK5 := Lib.hid (HK4.out.trans (Keep.of hb5))
    have HT5 := Lib.hid hv5
    clear hv5 hb5 HR4 HV4 HC4 HK4
    have hal : Below w5.heap.size w5 (w5.alloc (.cells #[.slice a5 n5 c5] 33)) := (Below.refl _ _).alloc (Nat.le_refl _) _
    have HR6 := Lib.hid (HR5.out.below hal)
    have HV6 := Lib.hid ((HV5.out.below hal).snoc ((HT5.out.below hal).base (Nat.zero_le _)))
    have HC6 := Lib.hid (HC5.out.keep hal)
    have HK6 := Lib.hid (HK5.out.trans (Keep.of hal))
    have HNN : Hid ((w5.alloc (.cells #[.slice a5 n5 c5] 33)).heap[w5.heap.size]? = some (.cells #[.slice a5 n5 c5] 33 (0, 0))) := Lib.hid (heap_alloc_new _ _)
    have hone := HT5.out.one
    clear HR5 HV5 HC5 HK5 hal
    go_wp2_with (at_builtin; refine wpList_append_kid rfl _ _ rfl w.heap.size v vs rfl HR6.out w5.heap.size (.slice a5 n5 c5) hone rfl HNN.out (by omega) HK6.out.size ?_; intro v7 w7 ho hg; have HO := Lib.hid ho; have HG7 := Lib.hid hg; clear ho hg)
    have HV7 := Lib.hid (HV6.out.grownRow HR6.out HG7.out)
    have HC7 := Lib.hid (HC6.out.grown HG7.out (fun g h => by have := own_row HR6.out h; have := HCW.out.lt; omega))
    have HK7 := Lib.hid (HK6.out.grown HG7.out (fun g h => own_row HR6.out h))
    clear HR6 HV6 HC6 HK6 HNN HG7 hone HT5
    go_wp2_with fail
    go_roundw
    case rel => first | exact ⟨vs ++ [.slice a5 n5 c5], q - 1, by go_num, by rw [List.length_append, List.length_singleton]; omega, HO, HV7, HC7, HK7⟩ | exact ⟨_, vs ++ [.slice a5 n5 c5], q - 1, rfl, by go_num, by rw [List.length_append, List.length_singleton]; omega, HO, HV7, HC7, HK7⟩
    case measure => simp [intOf]; omega
   ·have hq1 : ¬ (0 : Int) < (q : Int) := by omega
    have hqz : q = 0 := by omega
    obtain ⟨a, cp, rfl⟩ := HR.out.form
    have HNY := Lib.hid (next_any C 3 w3 HC.out (by omega) (by omega))
    have HKF := Lib.hid (HR.out)
    go_wp2_with fail
    ((with_reducible refine HNY.out.mono ?_))
    rintro e w4 ⟨k4, rfl, hk4, hc4, hkk4⟩
    have HR4 := Lib.hid (HR.out.keep HC.out hkk4)
    have HV4 := Lib.hid (HV.out.keep HC.out hkk4)
    have HK4 := Lib.hid (HK.out.trans hkk4)
    have HC4 := Lib.hid hc4
    have HIN := Lib.hid (gInt_any ((vs.length : Int) + k4) w4 (by omega))
    have hk4' : (k4 : Int) < 3 := hk4
    clear hc4 hkk4 HR HV HK HC HNY HKF
    go_wp2_with fail
    ((with_reducible refine HIN.out.mono ?_))
    rintro e w5 ⟨v5, rfl, hv5, hb5⟩
    obtain ⟨a5, n5, c5, rfl⟩ := hv5.form
    have HKN := Lib.hid (kNode_any 4 _ vs (List.replicate vs.length 1) w5 (fun h => by unfold NestP at h; omega) (HR4.out.below hb5).sl (by simp) (HV4.out.below hb5).each (by omega) (by rw [sum_rep]; omega))
    rw [sum_rep] at HKN
    have HC5 := Lib.hid (HC4.out.keep hb5)
    have HK5 := Lib.hid (HK4.out.trans (Keep.of hb5))
    have HT5 := Lib.hid hv5
    clear hv5 hb5 HR4 HV4 HC4 HK4 HIN
    go_wp2_with fail
    ((with_reducible refine HKN.out.mono ?_))
    rintro e w6 ⟨v6, rfl, hv6, hb6⟩
    obtain ⟨a6, n6, c6, rfl⟩ := hv6.form
    have HT56 := Lib.hid (HT5.out.below hb6)
    have HC6 := Lib.hid (HC5.out.keep hb6)
    have HK6 := Lib.hid (HK5.out.trans (Keep.of hb6))
    have hal : Below w6.heap.size w6 (w6.alloc (.cells #[.slice a5 n5 c5, .slice a6 n6 c6] 33)) := (Below.refl _ _).alloc (Nat.le_refl _) _
    have HT57 := Lib.hid ((HT56.out.below hal).base (B' := 0) (Nat.zero_le _))
    have HT67 := Lib.hid ((hv6.below hal).base (B' := 0) (Nat.zero_le _))
    have HC7 := Lib.hid (HC6.out.keep hal)
    have HK7 := Lib.hid (HK6.out.trans (Keep.of hal))
    have HKL := Lib.hid (KSl.lit w6 [.slice a5 n5 c5, .slice a6 n6 c6] 2 rfl)
    have HN2 := Lib.hid (kNode_any 50 _ [.slice a5 n5 c5, .slice a6 n6 c6] [1, 1 + vs.length * 1] (w6.alloc (.cells #[.slice a5 n5 c5, .slice a6 n6 c6] 33)) (fun h => by unfold NestP at h; omega) HKL.out rfl (fun i h1 h2 => by
     match i, h1 with
     | 0, _ => exact HT57.out
     | 1, _ => exact HT67.out) (by simp) (by simp only [List.sum_cons, List.sum_nil]; omega))
    clear hv6 hb6 HC5 HK5 HT5 HT56 HC6 HK6 hal HKL HKN
    go_wp2_with fail
    ((with_reducible refine HN2.out.mono ?_))
    rintro e w8 ⟨v8, rfl, hv8, hb8⟩
    have HV8 := Lib.hid ((hv8.base (B' := w.heap.size) HK7.out.size).more (M := dataN d) (by simp only [List.sum_cons, List.sum_nil]; have := HPOS.out; omega))
    have HC8 := Lib.hid (HC7.out.keep hb8)
    have HK8 := Lib.hid (HK7.out.trans (Keep.of hb8))
    clear hv8 hb8
    go_wp2_with fail
    go_ret
    exact ⟨_, rfl, HV8.out, HC8.out, HK8.out⟩
 have t2 : ((k : Int) == 2) = false := by rw [beq_eq_false_iff_ne]; omega
 have HNU := Lib.hid (gnumber_any C w1 HC1.out)
 by_cases c3 : k = 3
 ·subst c3
  cases d with
  | zero =>
    go_wp2_with fail
    ((with_reducible refine HNU.out.mono ?_))
    rintro e w2 ⟨nu, rfl, hnu, hc2, hk2⟩
    have HC2 := Lib.hid hc2
    have HK2 := Lib.hid (HK1.out.trans hk2)
    have HIN := Lib.hid (gInt_any nu w2 hnu)
    clear hc2 hk2 HNU
    go_wp2_with fail
    ((with_reducible refine HIN.out.mono ?_))
    rintro e w3 ⟨v3, rfl, hv3, hb3⟩
    have HV3 := Lib.hid ((hv3.base (B' := w.heap.size) HK2.out.size).more (M := dataN 0) (by have := HPOS.out; omega))
    have HC3 := Lib.hid (HC2.out.keep hb3)
    have HK3 := Lib.hid (HK2.out.trans (Keep.of hb3))
    clear hv3 hb3
    go_wp2_with fail
    go_ret
    exact ⟨_, rfl, HV3.out, HC3.out, HK3.out⟩
  | succ d' =>
    have hd0 : (0 : Int) < ((d' + 1 : Nat) : Int) := by omega
    obtain ⟨K, hKe⟩ : ∃ K, dataN d' = K := ⟨_, rfl⟩
    have hK6 : 6 ≤ K := by rw [← hKe]; exact dataN_pos d'
    have hK3 : K ≤ 3000 := by rw [← hKe]; exact dataN_le d' (by omega)
    have HDK : Hid (dataN (d' + 1) = 3 + 3 * K) := Lib.hid (by rw [← hKe] <;> rfl)
    have HDA := Lib.hid (IH.out d' rfl)
    have HKE := Lib.hid hKe
    unfold DataOk at HDA
    rw [hKe] at HDA
    clear hKe HNU
    have HNX := Lib.hid (next_any C 4 w1 HC1.out (by omega) (by omega))
    go_wp2_with fail
    ((with_reducible refine HNX.out.mono ?_))
    rintro e w2 ⟨k2, rfl, hk2, hc3, hk3⟩
    have HK3 := Lib.hid (HK1.out.trans hk3)
    have HC3 := Lib.hid hc3
    clear hc3 hk3 HNX
    go_wp2_with fail
    go_loopw [7, 8] (fun x i wr => ∃ (v : Value) (vs : List Value) (q : Nat), v = x ∧ i = .int .i64 q ∧ q + vs.length ≤ 3 ∧ Hid (KRow wr w.heap.size v vs) ∧ Hid (NVs wr K vs) ∧ Hid (CSt wr C) ∧ Hid (Keep C w wr)) (fun _ i _ => (intOf i).toNat)
    case atStart => exact ⟨_, [], k2, rfl, rfl, by simp; omega, Lib.hid (KRow.nil _ _), Lib.hid (NVs.nil _ _), HC3, HK3⟩
    case round =>
     clear HC3 HK3
     obtain ⟨v, vs, q, rfl, rfl, hq, HR, HV, HC, HK⟩ := hrel
     obtain ⟨w3, rfl⟩ : ∃ y : World, y = wr := ⟨_, rfl⟩
     by_cases hq0 : 0 < q
     ·have hq1 : (0 : Int) < (q : Int) := by omega
      have HNY := Lib.hid (next_any C 3 w3 HC.out (by omega) (by omega))
      go_wp2_with fail
      ((with_reducible refine HNY.out.mono ?_))
      rintro e w4 ⟨k4, rfl, hk4, hc4, hkk4⟩
      have HR4 := Lib.hid (HR.out.keep HC.out hkk4)
      have HV4 := Lib.hid (HV.out.keep HC.out hkk4)
      have HK4 := Lib.hid (HK.out.trans hkk4)
      have HC4 := Lib.hid hc4
      clear hc4 hkk4 HR HV HK HC HNY
      cases h2 : (k4 : Int) == 2 with
      | true =>
        have HNM := Lib.hid (gname_any C w4 HC4.out)
        go_wp2_with fail
        ((with_reducible refine HNM.out.mono ?_))
        rintro e wn ⟨sn, rfl, hsn, hcn, hkn⟩
        have HRn := Lib.hid (HR4.out.keep HC4.out hkn)
        have HVn := Lib.hid (HV4.out.keep HC4.out hkn)
        have HKn := Lib.hid (HK4.out.trans hkn)
        have HCn := Lib.hid hcn
        have HNO := Lib.hid (nameOf_any sn wn (by omega))
        clear hcn hkn HR4 HV4 HK4 HC4 HNM
        go_wp2_with fail
        ((with_reducible refine HNO.out.mono ?_))
        rintro e w5 ⟨v5, rfl, hv51, hb5⟩
        have hv5 := hv51.more (M := K) (by omega)
        clear hv51
        have hk5 : Keep C wn w5 := Keep.of hb5
        have hc5 := HCn.out.keep hb5
        obtain ⟨a5, n5, c5, rfl⟩ := hv5.form
        have HR5 := Lib.hid (HRn.out.keep HCn.out hk5)
        have HV5 := Lib.hid (HVn.out.keep HCn.out hk5)
        have HC5 := Lib.hid hc5
        have HK5 := Lib.hid (HKn.out.trans hk5)
        have HT5 := Lib.hid hv5
        clear hv5 hc5 hk5 HRn HVn HCn HKn
        have hal : Below w5.heap.size w5 (w5.alloc (.cells #[.slice a5 n5 c5] 33)) := (Below.refl _ _).alloc (Nat.le_refl _) _
        have HR6 := Lib.hid (HR5.out.below hal)
        have HV6 := Lib.hid ((HV5.out.below hal).snoc ((HT5.out.below hal).base (Nat.zero_le _)))
        have HC6 := Lib.hid (HC5.out.keep hal)
        have HK6 := Lib.hid (HK5.out.trans (Keep.of hal))
        have HNN : Hid ((w5.alloc (.cells #[.slice a5 n5 c5] 33)).heap[w5.heap.size]? = some (.cells #[.slice a5 n5 c5] 33 (0, 0))) := Lib.hid (heap_alloc_new _ _)
        have hone := HT5.out.one
        clear HR5 HV5 HC5 HK5 hal
        go_wp2_with (at_builtin; refine wpList_append_kid rfl _ _ rfl w.heap.size v vs rfl HR6.out w5.heap.size (.slice a5 n5 c5) hone rfl HNN.out (by omega) HK6.out.size ?_; intro v7 w7 ho hg; have HO := Lib.hid ho; have HG7 := Lib.hid hg; clear ho hg)
        have HV7 := Lib.hid (HV6.out.grownRow HR6.out HG7.out)
        have HC7 := Lib.hid (HC6.out.grown HG7.out (fun g h => by have := own_row HR6.out h; have := HCW.out.lt; omega))
        have HK7 := Lib.hid (HK6.out.grown HG7.out (fun g h => own_row HR6.out h))
        clear HR6 HV6 HC6 HK6 HNN HG7 hone HT5
        go_wp2_with fail
        go_roundw
        case rel => first | exact ⟨vs ++ [.slice a5 n5 c5], q - 1, by go_num, by rw [List.length_append, List.length_singleton]; omega, HO, HV7, HC7, HK7⟩ | exact ⟨_, vs ++ [.slice a5 n5 c5], q - 1, rfl, by go_num, by rw [List.length_append, List.length_singleton]; omega, HO, HV7, HC7, HK7⟩
        case measure => simp [intOf]; omega
      | false =>
        have HDD := Lib.hid (HDA.out w4 HC4.out)
        unfold GPost at HDD
        have hdd : ((d' + 1 : Nat) : Int) - 1 = (d' : Int) := by omega
        go_wp2_with fail
        ((with_reducible refine HDD.out.mono ?_))
        rintro e w5 ⟨v5, rfl, hv5, hc5, hk5⟩
        obtain ⟨a5, n5, c5, rfl⟩ := hv5.form
        have HR5 := Lib.hid (HR4.out.keep HC4.out hk5)
        have HV5 := Lib.hid (HV4.out.keep HC4.out hk5)
        have HC5 := Lib.hid hc5
        have HK5 := Lib.hid (HK4.out.trans hk5)
        have HT5 := Lib.hid hv5
        clear hv5 hc5 hk5 HR4 HV4 HC4 HK4
        have hal : Below w5.heap.size w5 (w5.alloc (.cells #[.slice a5 n5 c5] 33)) := (Below.refl _ _).alloc (Nat.le_refl _) _
        have HR6 := Lib.hid (HR5.out.below hal)
        have HV6 := Lib.hid ((HV5.out.below hal).snoc ((HT5.out.below hal).base (Nat.zero_le _)))
        have HC6 := Lib.hid (HC5.out.keep hal)
        have HK6 := Lib.hid (HK5.out.trans (Keep.of hal))
        have HNN : Hid ((w5.alloc (.cells #[.slice a5 n5 c5] 33)).heap[w5.heap.size]? = some (.cells #[.slice a5 n5 c5] 33 (0, 0))) := Lib.hid (heap_alloc_new _ _)
        have hone := HT5.out.one
        clear HR5 HV5 HC5 HK5 hal
        go_wp2_with (at_builtin; refine wpList_append_kid rfl _ _ rfl w.heap.size v vs rfl HR6.out w5.heap.size (.slice a5 n5 c5) hone rfl HNN.out (by omega) HK6.out.size ?_; intro v7 w7 ho hg; have HO := Lib.hid ho; have HG7 := Lib.hid hg; clear ho hg)
        have HV7 := Lib.hid (HV6.out.grownRow HR6.out HG7.out)
        have HC7 := Lib.hid (HC6.out.grown HG7.out (fun g h => by have := own_row HR6.out h; have := HCW.out.lt; omega))
        have HK7 := Lib.hid (HK6.out.grown HG7.out (fun g h => own_row HR6.out h))
        clear HR6 HV6 HC6 HK6 HNN HG7 hone HT5
        go_wp2_with fail
        go_roundw
        case rel => first | exact ⟨vs ++ [.slice a5 n5 c5], q - 1, by go_num, by rw [List.length_append, List.length_singleton]; omega, HO, HV7, HC7, HK7⟩ | exact ⟨_, vs ++ [.slice a5 n5 c5], q - 1, rfl, by go_num, by rw [List.length_append, List.length_singleton]; omega, HO, HV7, HC7, HK7⟩
        case measure => simp [intOf]; omega
     ·have hq1 : ¬ (0 : Int) < (q : Int) := by omega
      have hqz : q = 0 := by omega
      have HMUL : Hid (vs.length * K ≤ 3 * K) := Lib.hid (Nat.mul_le_mul_right K (by omega))
      obtain ⟨a, cp, rfl⟩ := HR.out.form
      have HNY := Lib.hid (next_any C 3 w3 HC.out (by omega) (by omega))
      have HKF := Lib.hid (HR.out)
      go_wp2_with fail
      ((with_reducible refine HNY.out.mono ?_))
      rintro e w4 ⟨k4, rfl, hk4, hc4, hkk4⟩
      have HR4 := Lib.hid (HR.out.keep HC.out hkk4)
      have HV4 := Lib.hid (HV.out.keep HC.out hkk4)
      have HK4 := Lib.hid (HK.out.trans hkk4)
      have HC4 := Lib.hid hc4
      have HIN := Lib.hid (gInt_any ((vs.length : Int) + k4) w4 (by omega))
      have hk4' : (k4 : Int) < 3 := hk4
      clear hc4 hkk4 HR HV HK HC HNY HKF
      go_wp2_with fail
      ((with_reducible refine HIN.out.mono ?_))
      rintro e w5 ⟨v5, rfl, hv5, hb5⟩
      obtain ⟨a5, n5, c5, rfl⟩ := hv5.form
      have HKN := Lib.hid (kNode_any 4 _ vs (List.replicate vs.length K) w5 (fun h => by unfold NestP at h; omega) (HR4.out.below hb5).sl (by simp) (HV4.out.below hb5).each (by omega) (by rw [sum_rep]; (have := HMUL.out; omega)))
      rw [sum_rep] at HKN
      have HC5 := Lib.hid (HC4.out.keep hb5)
      have HK5 := Lib.hid (HK4.out.trans (Keep.of hb5))
      have HT5 := Lib.hid hv5
      clear hv5 hb5 HR4 HV4 HC4 HK4 HIN
      go_wp2_with fail
      ((with_reducible refine HKN.out.mono ?_))
      rintro e w6 ⟨v6, rfl, hv6, hb6⟩
      obtain ⟨a6, n6, c6, rfl⟩ := hv6.form
      have HT56 := Lib.hid (HT5.out.below hb6)
      have HC6 := Lib.hid (HC5.out.keep hb6)
      have HK6 := Lib.hid (HK5.out.trans (Keep.of hb6))
      have hal : Below w6.heap.size w6 (w6.alloc (.cells #[.slice a5 n5 c5, .slice a6 n6 c6] 33)) := (Below.refl _ _).alloc (Nat.le_refl _) _
      have HT57 := Lib.hid ((HT56.out.below hal).base (B' := 0) (Nat.zero_le _))
      have HT67 := Lib.hid ((hv6.below hal).base (B' := 0) (Nat.zero_le _))
      have HC7 := Lib.hid (HC6.out.keep hal)
      have HK7 := Lib.hid (HK6.out.trans (Keep.of hal))
      have HKL := Lib.hid (KSl.lit w6 [.slice a5 n5 c5, .slice a6 n6 c6] 2 rfl)
      have HN2 := Lib.hid (kNode_any 51 _ [.slice a5 n5 c5, .slice a6 n6 c6] [1, 1 + vs.length * K] (w6.alloc (.cells #[.slice a5 n5 c5, .slice a6 n6 c6] 33)) (fun h => by unfold NestP at h; omega) HKL.out rfl (fun i h1 h2 => by
       match i, h1 with
       | 0, _ => exact HT57.out
       | 1, _ => exact HT67.out) (by simp) (by simp only [List.sum_cons, List.sum_nil]; (have := HMUL.out; omega)))
      clear hv6 hb6 HC5 HK5 HT5 HT56 HC6 HK6 hal HKL HKN
      go_wp2_with fail
      ((with_reducible refine HN2.out.mono ?_))
      rintro e w8 ⟨v8, rfl, hv8, hb8⟩
      have HV8 := Lib.hid ((hv8.base (B' := w.heap.size) HK7.out.size).more (M := dataN (d' + 1)) (by simp only [List.sum_cons, List.sum_nil]; have := HMUL.out; have := HDK.out; omega))
      have HC8 := Lib.hid (HC7.out.keep hb8)
      have HK8 := Lib.hid (HK7.out.trans (Keep.of hb8))
      clear hv8 hb8
      go_wp2_with fail
      go_ret
      exact ⟨_, rfl, HV8.out, HC8.out, HK8.out⟩
 have t3 : ((k : Int) == 3) = false := by rw [beq_eq_false_iff_ne]; omega
 go_wp2_with fail
 ((with_reducible refine HNU.out.mono ?_))
 rintro e w2 ⟨nu, rfl, hnu, hc2, hk2⟩
 have HC2 := Lib.hid hc2
 have HK2 := Lib.hid (HK1.out.trans hk2)
 have HIN := Lib.hid (gInt_any nu w2 hnu)
 clear hc2 hk2 HNU
 go_wp2_with fail
 ((with_reducible refine HIN.out.mono ?_))
 rintro e w3 ⟨v3, rfl, hv3, hb3⟩
 have HV3 := Lib.hid ((hv3.base (B' := w.heap.size) HK2.out.size).more (M := dataN d) (by have := HPOS.out; omega))
 have HC3 := Lib.hid (HC2.out.keep hb3)
 have HK3 := Lib.hid (HK2.out.trans (Keep.of hb3))
 clear hv3 hb3
 go_wp2_with fail
 go_ret
 exact ⟨_, rfl, HV3.out, HC3.out, HK3.out⟩
theorem data_ok (C : Nat) : ∀ d, d ≤ 5 → DataOk C d
 | 0, h => data_step C 0 h (fun d' e => by omega)
 | d + 1, h => data_step C (d + 1) h (fun d' e => by
   have e2 : d = d' := by omega
   subst e2
   exact data_ok C d (by omega))
end
end Go.Proofs.YtnicnfchkdmieaaGreatDoor
