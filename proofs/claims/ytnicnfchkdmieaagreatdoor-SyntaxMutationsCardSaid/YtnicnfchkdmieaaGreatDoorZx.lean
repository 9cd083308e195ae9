/- Pn Hc Sxd Opx Opy -/
import Derived.Test.YtnicnfchkdmieaaGreatDoorZr
import Derived.Test.YtnicnfchkdmieaaGreatDoorZu
import Derived.Test.YtnicnfchkdmieaaGreatDoorZl
import Derived.Test.YtnicnfchkdmieaaGreatDoorZk
import Derived.Test.YtnicnfchkdmieaaGreatDoorZw
import Derived.Deep.CutBlock
import Derived.Test.YtnicnfchkdmieaaGreatDoorRows
import Derived.Test.YtnicnfchkdmieaaGreatDoorChecked
import Derived.LaidSub
import Derived.Lib.LaidTab
import Derived.ProofKit
import Derived.Shelf.Vars
import Derived.Test.YtnicnfchkdmieaaGreatDoorZByt
import Derived.OpenShut
import Derived.SizedLaws
import Derived.SliceStrings
import Derived.Lib.SmallJoins
import Derived.ChangeSlices
import Derived.Test.YtnicnfchkdmieaaGreatDoorZo
import Derived.Test.YtnicnfchkdmieaaGreatDoorZn
import Derived.Test.YtnicnfchkdmieaaGreatDoorCards
import Derived.Deep.Slices
import Derived.ChangeSame
set_option linter.unusedVariables false
set_option linter.unusedSimpArgs false
namespace Go.Proofs.YtnicnfchkdmieaaGreatDoor
section
open Go.RowKit
attribute [local go_sem] ByteArray.mk_append_mk bs_get bs_cut bs_end
def ProgPost (w : World) (e : Ending) (w' : World) : Prop := ∃ v ns, e = .returned v ∧ NodesI w' w.heap.size v ns ∧ (∀ t ∈ ns, NdG t) ∧ validL ns = true ∧ Below w.heap.size w w'
theorem NodesI.keepC {w w' : World} {B C : Nat} {v : Value} {ns : List Nd} (h : NodesI w B v ns) (hC : CSt w C) (hk : Keep C w w') : NodesI w' B v ns := by
 obtain ⟨a, cap, i, l, hc, _⟩ := hC
 exact own_grown h hk (fun g hg e => own_ch h hc (by rw [hg, e]))
theorem NodesI.slG {w : World} {B : Nat} {v : Value} {l : List Nd} (h : NodesI w B v l) (hs : ∀ t ∈ l, NdG t) : NSl w v l := h.sl (fun t ht => ⟨by have := (hs t ht).1; omega, (hs t ht).2.1⟩)
set_option maxRecDepth 100000 in
set_option maxHeartbeats 8000000 in
theorem program_any (v0 : Value) (l : List Int) (w : World) (h : IArg w v0 l) :
 Calls Tryz.prog 13 #[v0] w (ProgPost w) := by
 have HNW := Lib.hid (new_any v0 l w h)
 obtain ⟨a0, cap0, rfl, _⟩ := h
 obtain ⟨C, hCe⟩ : ∃ C, w.heap.size = C := ⟨_, rfl⟩
 unfold ProgPost
 rw [hCe] at HNW
 rw [hCe]
 clear hCe
 go_enter Tryz.func13, Tryz.ntmps13
 go_wp2_with fail
 ((with_reducible refine HNW.out.mono ?_))
 rintro e w1 ⟨rfl, hc1, hb1⟩
 have HC1 := Lib.hid hc1
 have HB1 := Lib.hid hb1
 have HN := Lib.hid (next_any C 5 w1 hc1 (by omega) (by omega))
 have hCP : C < w1.heap.size := hc1.lt
 clear hc1 hb1 HNW
 go_wp2_with fail
 ((with_reducible refine HN.out.mono ?_))
 rintro e w2 ⟨k2, rfl, hk2, hc2, hkk2⟩
 have HK2 := Lib.hid hkk2
 have HC2 := Lib.hid hc2
 have hk2' : (k2 : Int) < 5 := hk2
 clear hc2 hkk2 HN
 have HDE := Lib.hid (decl_2 C)
 unfold DeclOk at HDE
 go_wp2_with fail
 go_loopw [4, 5] (fun x i wr => ∃ (v : Value) (ns : List Nd) (q : Nat), v = x ∧ i = .int .i64 q ∧ q ≤ 5 ∧ ns.length ≤ (5 - q) * 54533 ∧ Hid (NodesI wr w1.heap.size v ns) ∧ Hid (∀ t ∈ ns, NdG t) ∧ Hid (CSt wr C) ∧ Hid (Keep C w1 wr)) (fun _ i _ => (intOf i).toNat)
 case atStart => exact ⟨_, [], k2 + 1, rfl, by go_num, by omega, by simp, Lib.hid (NodesI.nil _ _), Lib.hid (by intro t ht; cases ht), HC2, HK2⟩
 case round =>
  clear HC2 HK2 HC1
  obtain ⟨v, ns, q, rfl, rfl, hq, hnl, HR, HG, HC, HK⟩ := hrel
  obtain ⟨w3, rfl⟩ : ∃ y : World, y = wr := ⟨_, rfl⟩
  by_cases hq0 : 0 < q
  ·have hq1 : (0 : Int) < (q : Int) := by omega
   have HLF := Lib.hid (left_any C w3 HC.out)
   go_wp2_with fail
   ((with_reducible refine HLF.out.mono ?_))
   rintro e w4 ⟨lb, rfl, hc4, hkk4⟩
   have HR4 := Lib.hid (HR.out.keepC HC.out hkk4)
   have HK4 := Lib.hid (HK.out.trans hkk4)
   have HC4 := Lib.hid hc4
   clear hc4 hkk4 HR HK HC HLF
   cases lb with
   | false =>
     have HB9 : Hid (Below C w w4) := Lib.hid (HB1.out.trans (HK4.out.below (Nat.le_of_lt hCP) (Nat.le_refl _)))
     obtain ⟨vb, hvb⟩ : ∃ vb, Hid (validL ns = vb) := ⟨_, Lib.hid rfl⟩
     have HVL := Lib.hid (rvalid_is ns (fun t ht => by have := (HG.out t ht).1; omega) vb hvb v w4 (HR4.out.slG HG.out) (by omega))
     obtain ⟨av, cv, rfl⟩ := HR4.out.form
     have hsz9 : C ≤ w4.heap.size := Nat.le_trans (Nat.le_of_lt hCP) HK4.out.size
     cases vb with
     | true =>
       go_wp2_with fail
       ((with_reducible refine HVL.out.mono ?_))
       rintro e w9 ⟨rfl, hb9⟩
       have HR9 := Lib.hid ((HR4.out.below hb9).base (B' := C) (by omega))
       have HB10 := Lib.hid (HB9.out.trans (hb9.mono hsz9))
       clear hb9
       go_wp2_with fail
       go_ret
       exact ⟨_, ns, rfl, HR9.out, HG.out, hvb.out, HB10.out⟩
     | false =>
       go_wp2_with fail
       ((with_reducible refine HVL.out.mono ?_))
       rintro e w9 ⟨rfl, hb9⟩
       have HB10 := Lib.hid (HB9.out.trans (hb9.mono hsz9))
       clear hb9
       go_wp2_with fail
       go_ret
       exact ⟨_, [], rfl, NodesI.nil _ _, (by intro t ht; cases ht), (by decide), HB10.out⟩
   | true =>
     have HDD := Lib.hid (HDE.out w4 HC4.out)
     unfold GPost at HDD
     go_wp2_with fail
     ((with_reducible refine HDD.out.mono ?_))
     rintro e w5 ⟨v5, rfl, hv5, hc5, hk5⟩
     have HR5 := Lib.hid (HR4.out.keepC HC4.out hk5)
     have HK5 := Lib.hid (HK4.out.trans hk5)
     have HC5 := Lib.hid hc5
     obtain ⟨l2, j1, j2, j3, _⟩ := hv5
     have HY := Lib.hid j1
     have HG2 := Lib.hid j2
     have hsz : w1.heap.size ≤ w5.heap.size := HK5.out.size
     clear hc5 hk5 j1 j2 HR4 HK4 HC4 HDD
     go_wp2_with (at_builtin; refine wpList_append_nodes rfl _ _ rfl w1.heap.size v ns rfl HR5.out _ v5 l2 rfl HY.out (by omega) hsz ?_; intro v6 w6 ho hg; have HO := Lib.hid ho; have HGR := Lib.hid hg; clear ho hg)
     have HC6 := Lib.hid (HC5.out.grown HGR.out (fun g h => by have := own_row HR5.out h; omega))
     have HK6 := Lib.hid (HK5.out.grown HGR.out (fun g h => own_row HR5.out h))
     have HG6 : Hid (∀ t ∈ ns ++ l2, NdG t) := Lib.hid (fun t ht => by
      rcases List.mem_append.1 ht with h | h
      ·exact HG.out t h
      ·exact HG2.out t h)
     have hln : (ns ++ l2).length ≤ (5 - (q - 1)) * 54533 := by rw [List.length_append]; omega
     clear HGR HY HR5 HC5 HK5 HG HG2
     go_wp2_with fail
     go_roundw
     case rel => first | exact ⟨ns ++ l2, q - 1, by go_num, by omega, hln, HO, HG6, HC6, HK6⟩ | exact ⟨_, ns ++ l2, q - 1, rfl, by go_num, by omega, hln, HO, HG6, HC6, HK6⟩
     case measure => simp [intOf]; omega
  ·have hq1 : ¬ (0 : Int) < (q : Int) := by omega
   have HB9 : Hid (Below C w w3) := Lib.hid (HB1.out.trans (HK.out.below (Nat.le_of_lt hCP) (Nat.le_refl _)))
   obtain ⟨vb, hvb⟩ : ∃ vb, Hid (validL ns = vb) := ⟨_, Lib.hid rfl⟩
   have HVL := Lib.hid (rvalid_is ns (fun t ht => by have := (HG.out t ht).1; omega) vb hvb v w3 (HR.out.slG HG.out) (by omega))
   obtain ⟨av, cv, rfl⟩ := HR.out.form
   have hsz9 : C ≤ w3.heap.size := Nat.le_trans (Nat.le_of_lt hCP) HK.out.size
   cases vb with
   | true =>
     go_wp2_with fail
     ((with_reducible refine HVL.out.mono ?_))
     rintro e w9 ⟨rfl, hb9⟩
     have HR9 := Lib.hid ((HR.out.below hb9).base (B' := C) (by omega))
     have HB10 := Lib.hid (HB9.out.trans (hb9.mono hsz9))
     clear hb9
     go_wp2_with fail
     go_ret
     exact ⟨_, ns, rfl, HR9.out, HG.out, hvb.out, HB10.out⟩
   | false =>
     go_wp2_with fail
     ((with_reducible refine HVL.out.mono ?_))
     rintro e w9 ⟨rfl, hb9⟩
     have HB10 := Lib.hid (HB9.out.trans (hb9.mono hsz9))
     clear hb9
     go_wp2_with fail
     go_ret
     exact ⟨_, [], rfl, NodesI.nil _ _, (by intro t ht; cases ht), (by decide), HB10.out⟩
end
section
open Go.RowKit
attribute [local go_sem] ByteArray.mk_append_mk bs_get bs_cut bs_end
set_option maxRecDepth 100000 in
set_option maxHeartbeats 32000000 in
theorem law_mutations (l : List Int) (v0 : Value) (at_ kind : Int) (oth : Nat) (m : Int) (W : World) (hl : IArg W v0 l) (ho : oth ≤ 255) (hm : SynG m W) :
 Calls Tryz.prog 4 #[v0, .int .i64 at_, .int .i64 kind, .int .u8 oth] W fun e w' => e = .returned (.bool true) ∧ Below W.heap.size W w' := by
 have HM0 := Lib.hid hm
 have HPR := Lib.hid (program_any v0 l W hl)
 unfold ProgPost at HPR
 obtain ⟨ia, ic, rfl, _⟩ := hl
 obtain ⟨A, hA⟩ : ∃ A, W.heap.size = A := ⟨_, rfl⟩
 have HAE := Lib.hid hA
 have hAw : A ≤ W.heap.size := Nat.le_of_eq hA.symm
 rw [hA] at HPR ⊢
 obtain ⟨IL, hIL⟩ : ∃ L, l.length = L := ⟨_, rfl⟩
 rw [hIL] at HPR ⊢
 clear hm hA hIL
 go_enter Tryz.func4, Tryz.ntmps4
 go_wp2_with fail
 ((with_reducible refine HPR.out.mono ?_))
 rintro e w1 ⟨v, ns, rfl, hn, hg, hv, hb⟩
 have HNU : Hid (NumsOk ns) := Lib.hid (fun t ht => (hg t ht).2)
 have HF := Lib.hid (rformat_any ns v w1 (hn.slG hg) (fun t ht => (hg t ht).1) HNU.out hv)
 have HTV := Lib.hid (scan_tv ns HNU.out hv)
 have hFL := fmtP_ln ns HNU.out (fun t ht => (hg t ht).1) hv
 have HB1 := Lib.hid hb
 obtain ⟨qa, qc, rfl⟩ := hn.form
 obtain ⟨F, hF⟩ : ∃ F, fmtP ns = F := ⟨_, rfl⟩
 rw [hF] at HF HTV hFL
 obtain ⟨NL, hNL⟩ : ∃ F, ns.length = F := ⟨_, rfl⟩
 rw [hNL] at HF ⊢
 clear hn hg hv hb hF hNL HNU HPR
 go_wp2_with fail
 ((with_reducible refine HF.out.mono ?_))
 rintro e w2 ⟨rfl, hb2⟩
 have HB2 : Hid (Below A W w2) := Lib.hid (bel_then HB1.out hAw hb2)
 have HSC := Lib.hid (rScan_any F w2 (by omega))
 clear hb2 HF HB1
 unfold ScanPost at HSC
 obtain ⟨SR, hSR⟩ : ∃ x, scanL F = x := ⟨_, rfl⟩
 have hSL := scanL_len F
 rw [hSR] at HSC HTV hSL
 clear hSR hFL
 obtain ⟨M0, so, se⟩ := SR
 go_wp2_with fail
 ((with_reducible refine HSC.out.mono ?_))
 rintro e w3 ⟨v2, rfl, ht3, hb3⟩
 have HB3 : Hid (Below A W w3) := Lib.hid (bel_then HB2.out hAw hb3)
 have HO3 := Lib.hid ht3.toI
 have hz2 : w2.heap.size ≤ w3.heap.size := hb3.size
 have hAz : A ≤ w2.heap.size := Nat.le_trans hAw HB2.out.size
 have HTV0 : Hid (∀ t ∈ M0.map Tok.toI, TV t) := HTV
 have hSL0 : M0.length ≤ 65536 := hSL
 clear HTV hSL
 obtain ⟨M, hM⟩ : ∃ F, M0.map Tok.toI = F := ⟨_, rfl⟩
 have hml : M.length ≤ 65536 := by rw [← hM, List.length_map]; exact hSL0
 have HO3 : Hid (ToksI w3 w2.heap.size v2 (M0.map Tok.toI)) := HO3
 rw [hM] at HO3 HTV0
 clear ht3 hb3 HSC HB2 hM hSL0
 obtain ⟨B, hB⟩ : ∃ B, w2.heap.size = B := ⟨_, rfl⟩
 rw [hB] at HO3 hz2 hAz
 clear hB
 have HA4 : Hid ((w3.alloc mutO).heap[w3.heap.size]? = some mutO) := Lib.hid (heap_alloc_new _ _)
 have HB4 : Hid (Below A W (w3.alloc mutO)) := Lib.hid (HB3.out.alloc (by omega) _)
 have HO4 : Hid (ToksI (w3.alloc mutO) B v2 M) := Lib.hid (HO3.out.alloc _)
 obtain ⟨C, hC⟩ : ∃ C, w3.heap.size = C := ⟨_, rfl⟩
 have hz4 : (w3.alloc mutO).heap.size = C + 1 := by rw [← hC]; simp
 rw [hC] at HA4
 go_upto_region 3 with fail
 (try simp only [hC])
 rw [hC] at hz2
 generalize w3.alloc mutO = w4 at HA4 HB4 HO4 hz4 ⊢
 clear HB3 HO3 hC
 obtain ⟨a2, c2, rfl⟩ := HO4.out.form
 have hm1 : ((oth : Int).tmod 11) = ((oth % 11 : Nat) : Int) := (Int.ofNat_tmod oth 11).symm
 have hm2 : oth % 11 < 11 := Nat.mod_lt _ (by decide)
 obtain ⟨q, hq⟩ : ∃ q, oth % 11 = q := ⟨_, rfl⟩
 rw [hq] at hm1 hm2
 clear hq
 obtain ⟨⟨tk, tn, ts, tp⟩, htv, ⟨c0, c1, c3, c4⟩⟩ := mut_cell HA4.out q hm2
 have HTX := Lib.hid htv
 simp only at c0 c1 c3 c4
 have hq11 : (q : Int) < 11 := by omega
 clear htv
 go_upto_region 4 with fail
 have HX5 : Hid ((w4.alloc (tObj tk tn ts tp)).heap[C + 1]? = some (tObj tk tn ts tp)) := Lib.hid (by rw [← hz4]; exact heap_alloc_new _ _)
 have HB5 : Hid (Below A W (w4.alloc (tObj tk tn ts tp))) := Lib.hid (HB4.out.alloc (by omega) _)
 have HO5 : Hid (ToksI (w4.alloc (tObj tk tn ts tp)) B (.slice a2 M.length c2) M) := Lib.hid (HO4.out.alloc _)
 have hz5 : (w4.alloc (tObj tk tn ts tp)).heap.size = C + 2 := by simp [hz4]
 (try simp only [hz4])
 generalize w4.alloc (tObj tk tn ts tp) = w5 at HX5 HB5 HO5 hz5 ⊢
 clear HB4 HO4 HA4 c0 c1 c3 c4 hm1 hm2 hq11
 obtain ⟨n, hn⟩ : ∃ n, M.length = n := ⟨_, rfl⟩
 have HNL := Lib.hid hn
 rw [hn] at HO5 hml ⊢
 (try simp only [hn])
 clear hn
 have HG5 := Lib.hid (HM0.out.below HB5.out (by rw [← HAE.out]; exact HM0.out.low))
 obtain ⟨D, hD⟩ : ∃ D, w5.heap.size = D := ⟨_, rfl⟩
 have HDE := Lib.hid hD
 have hCD : C + 1 < D := by omega
 have hBD : B ≤ D := by omega
 have hAD : A ≤ D := by omega
 clear hz5 hD hz4 hz2 hAz
 by_cases h0 : n = 0
 ·subst h0
  have HAW := Lib.hid (awake_any m w5 HG5.out)
  go_wp2_with fail
  ((with_reducible refine HAW.out.mono ?_))
  rintro e w6 ⟨rfl, hb6⟩
  have HB6 : Hid (Below A W w6) := Lib.hid (bel_then HB5.out hAw hb6)
  clear hb6
  go_wp2_with fail
  go_ret
  exact ⟨rfl, HB6.out⟩
 have h0p : (0 : Int) < (n : Int) := by omega
 have h0n : ¬ (n : Int) = 0 := by omega
 have HMD := Lib.hid (fun w => mod_any at_ n w h0p (by omega))
 have hnn := modV_nonneg at_ n h0p
 have hln := modV_lt at_ n h0p
 obtain ⟨k, hk⟩ : ∃ k : Nat, modV at_ n = k := ⟨(modV at_ n).toNat, by omega⟩
 rw [hk] at HMD hln
 clear hk hnn
 have hkn : k < n := by omega
 have HM5 := Lib.hid (fun w => mod_any kind 5 w (by omega) (by omega))
 have h5n := modV_nonneg kind 5 (by omega)
 have h5l := modV_lt kind 5 (by omega)
 obtain ⟨r, hr⟩ : ∃ r : Nat, modV kind 5 = r := ⟨(modV kind 5).toNat, by omega⟩
 rw [hr] at HM5 h5l
 clear hr h5n
 have hr5 : r = 0 ∨ r = 1 ∨ r = 2 ∨ r = 3 ∨ r = 4 := by omega
 clear h5l
 obtain ⟨LA, t, LC, hms, hla⟩ : ∃ LA t LC, M = LA ++ (t :: LC) ∧ LA.length = k := by
  have hkM : k < M.length := by rw [HNL.out]; exact hkn
  exact ⟨M.take k, M[k], M.drop (k + 1), by rw [← List.drop_eq_getElem_cons, List.take_append_drop], by rw [List.length_take]; omega⟩
 subst hms
 have ha2 : ∃ g, a2 = some ⟨g, 0, none⟩ := by
  rcases HO5.out.2 with ⟨hv, h1⟩ | ⟨g, cap, cur, hv, _⟩
  ·simp at h1
  ·injection hv with e1 _ _; exact ⟨g, e1⟩
 obtain ⟨g, rfl⟩ := ha2
 have HT5 := Lib.hid (HO5.out.at hla)
 have hgD : g < D := by rw [← HDE.out]; exact World.block_lt_of_cell? w5 _ HT5.out.1
 have HTT := Lib.hid (HTV0.out t (by simp))
 have HTA : Hid (∀ x ∈ LA, TV x) := Lib.hid (fun x hx => HTV0.out x (by simp [hx]))
 have HTC : Hid (∀ x ∈ LC, TV x) := Lib.hid (fun x hx => HTV0.out x (by simp [hx]))
 have hnc : n ≤ c2 := HO5.out.cap
 have HLA := Lib.hid hla
 have HLC : Hid (LC.length + k + 1 = n) := Lib.hid (by have := HNL.out; simp only [List.length_append, List.length_cons] at this; omega)
 have hkc : (k : Int) ≤ (c2 : Int) := by omega
 have hkc0 : (k : Int) ≤ (n : Int) := by omega
 have hkc1 : (k : Int) + 1 ≤ (n : Int) := by omega
 have hkc2 : (k : Int) + 1 ≤ (c2 : Int) := by omega
 obtain ⟨sk, sn, ss, sp⟩ := t
 clear HNL hla HTV0 h0 HM0
 go_wp2_with fail
 ((with_reducible refine (HMD.out _).mono ?_))
 rintro e w6 ⟨rfl, rfl⟩
 go_upto_region 8 with (at_builtin; refine wpList_append_part rfl _ _ rfl D (.slice none 0 0) [] rfl (ToksI.nil _ _) B g n c2 0 [] LA (⟨sk, sn, ss, sp⟩ :: LC) HO5.out rfl _ _ _ rfl (fun _ => rfl) (by have := HLA.out; omega) (by have := HLA.out; simp only [List.length_nil]; omega) (by rw [HDE.out]; exact Nat.le_refl _) ?_; intro v6 w6 ho hg; have HO6 := Lib.hid ho; have HGR := Lib.hid hg; clear ho hg)
 rw [List.nil_append] at HO6
 have HB6 : Hid (Below D w5 w6) := Lib.hid ((Below.refl _ _).grown HGR.out (by rw [HDE.out]; exact Nat.le_refl _) (fun k hk => by cases hk))
 clear HGR
 obtain ⟨a6, c6, rfl⟩ := HO6.out.form
 rw [HLA.out] at HO6 ⊢
 (try simp only [HLA.out])
 go_wp2_with fail
 ((with_reducible refine (HM5.out _).mono ?_))
 rintro e w7 ⟨rfl, rfl⟩
 clear HM5 HMD
 go_upto_block 0 with fail
 go_cut [15] (fun z wx => ∃ (a : Option Addr) (c N : Nat) (ms : List TokI), z = .slice a N c ∧ ms.length = N ∧ N ≤ 70000 ∧ Hid (ToksI wx D (.slice a N c) ms) ∧ Hid (∀ t ∈ ms, TV t) ∧ Hid (Below D w5 wx))
 case first =>
  have HO7 := Lib.hid (HO5.out.below (by rw [HDE.out]; exact HB6.out))
  have hz6 : D ≤ w6.heap.size := by rw [← HDE.out]; exact HB6.out.size
  rcases hr5 with rfl | rfl | rfl | rfl | rfl
  ·by_cases hc : c2 = k + 1
   ·subst hc
    have HOZ : Hid (ToksI w6 B (.slice (some ⟨g, 0, none⟩) n (k + 1)) ((LA ++ [⟨sk, sn, ss, sp⟩]) ++ (LC ++ []))) := by simpa using HO7
    go_wp2_with (at_builtin; refine wpList_append_part rfl _ _ rfl D (.slice a6 k c6) (LA) rfl HO6.out B g n ((k + 1)) (k + 1) (LA ++ [⟨sk, sn, ss, sp⟩]) LC [] HOZ.out (by have := HLA.out; rw [List.length_append, List.length_singleton]; omega) _ _ _ rfl (fun hne => absurd (List.eq_nil_of_length_eq_zero (by have h5 := HLC.out; omega)) hne) (by have := HLC.out; omega) (by have h1 := HLC.out; have h2 := HLA.out; omega) hz6 ?_; intro v9 w9 ho hg; have HO9 := Lib.hid ho; have HG9 := Lib.hid hg; clear ho hg)
    go_wp2_with fail
    go_meet
    obtain ⟨a9, c9, rfl⟩ := HO9.out.form
    exact ⟨_, _, _, _, rfl, rfl, by have h1 := HLC.out; have h2 := HLA.out; simp only [List.length_append, List.length_cons, List.length_nil]; omega, HO9, Lib.hid (fun x hx => by rcases List.mem_append.1 hx with hx | hx; exact HTA.out x hx; exact HTC.out x hx), Lib.hid (HB6.out.grown HG9.out hz6 (fun b hb => own_row HO6.out hb))⟩
   ·have HOZ : Hid (ToksI w6 B (.slice (some ⟨g, 0, none⟩) n c2) ((LA ++ [⟨sk, sn, ss, sp⟩]) ++ (LC ++ []))) := by simpa using HO7
    go_wp2_with (at_builtin; refine wpList_append_part rfl _ _ rfl D (.slice a6 k c6) (LA) rfl HO6.out B g n (c2) (k + 1) (LA ++ [⟨sk, sn, ss, sp⟩]) LC [] HOZ.out (by have := HLA.out; rw [List.length_append, List.length_singleton]; omega) _ _ _ rfl (fun _ => rfl) (by have := HLC.out; omega) (by have h1 := HLC.out; have h2 := HLA.out; omega) hz6 ?_; intro v9 w9 ho hg; have HO9 := Lib.hid ho; have HG9 := Lib.hid hg; clear ho hg)
    go_wp2_with fail
    go_meet
    obtain ⟨a9, c9, rfl⟩ := HO9.out.form
    exact ⟨_, _, _, _, rfl, rfl, by have h1 := HLC.out; have h2 := HLA.out; simp only [List.length_append, List.length_cons, List.length_nil]; omega, HO9, Lib.hid (fun x hx => by rcases List.mem_append.1 hx with hx | hx; exact HTA.out x hx; exact HTC.out x hx), Lib.hid (HB6.out.grown HG9.out hz6 (fun b hb => own_row HO6.out hb))⟩
  ·by_cases hc : c2 = k + 1
   ·subst hc
    go_upto_region 12 with fail
    have m0 : ∀ x, Below D w5 x → x.cell? ⟨C + 1, 0, none⟩ = some (.int .i64 tk) := fun x hx => (hx.cell (p := ⟨C + 1, 0, none⟩) (by omega)).trans (cells4 HX5.out).1
    have m1 : ∀ x, Below D w5 x → x.cell? ⟨C + 1, 1, none⟩ = some (.int .u64 tn) := fun x hx => (hx.cell (p := ⟨C + 1, 1, none⟩) (by omega)).trans (cells4 HX5.out).2.1
    have m2 : ∀ x, Below D w5 x → x.cell? ⟨C + 1, 2, none⟩ = some (.string ⟨ts.toArray⟩) := fun x hx => (hx.cell (p := ⟨C + 1, 2, none⟩) (by omega)).trans (cells4 HX5.out).2.2.1
    have m3 : ∀ x, Below D w5 x → x.cell? ⟨C + 1, 3, none⟩ = some (.int .i64 tp) := fun x hx => (hx.cell (p := ⟨C + 1, 3, none⟩) (by omega)).trans (cells4 HX5.out).2.2.2
    refine wp_region_plan (Below D w5) 9 [.reads [0, 1, 4, 5, 6, 7], .act 2, .act 3, .act 8, .act 9] (by kernel_rfl) (by kernel_rfl) (by kernel_rfl) (by kernel_rfl) (by kernel_rfl) (fun _ _ d _ _ h => by cases d <;> exact h) (Below.drew HB6.out) ?_
    refine wpPlan_reads ?_
    simp only [pickOps, List.drop_succ_cons, List.drop_zero, List.take_succ_cons, List.take_zero, List.cons_append, List.nil_append]
    repeat (go_big_quiet_step (first | (intro hb; rw [m0 _ hb]; simp only [Result.andThen]; rw [m1 _ hb]; simp only; rw [m2 _ hb]; simp only; rw [m3 _ hb]; exact ⟨rfl, rfl⟩) | (intro _; rfl)))
    have HO5C : Hid (ToksI w5 B (.slice (some ⟨g, 0, none⟩) n (k + 1)) ((LA ++ [⟨sk, sn, ss, sp⟩]) ++ (LC ++ []))) := by simpa using HO5
    have HBd : Hid (Below D w5 (w6.alloc (tObj tk tn ts tp)).drew) := Lib.hid (Below.drew (HB6.out.alloc hz6 _))
    have HNd : Hid ((w6.alloc (tObj tk tn ts tp)).drew.heap[w6.heap.size]? = some (tObj tk tn ts tp)) := Lib.hid (heap_alloc_new _ _)
    have HGd : Hid (Below w6.heap.size w6 (w6.alloc (tObj tk tn ts tp)).drew) := Lib.hid (Below.drew ((Below.refl _ _).alloc (Nat.le_refl _) _))
    have HOd : Hid (ToksI (w6.alloc (tObj tk tn ts tp)).drew D (.slice a6 k c6) LA) := Lib.hid (HO6.out.below HGd.out)
    have hsz7 : D ≤ (w6.alloc (tObj tk tn ts tp)).drew.heap.size := Nat.le_trans hz6 HGd.out.size
    clear HGd
    refine wpQuiet_nil ?_
    refine wpPlan_act rfl ?_
    simp only [pickOps, List.drop_succ_cons, List.drop_zero, List.take_succ_cons, List.take_zero, List.cons_append, List.nil_append]
    go_wp2_with fail
    generalize (w6.alloc (tObj tk tn ts tp)).drew = w7 at HBd HNd HOd hsz7 ⊢
    refine ⟨fun _ => HBd.out, ?_⟩
    refine wpPlan_act rfl ?_
    simp only [pickOps, List.drop_succ_cons, List.drop_zero, List.take_succ_cons, List.take_zero, List.cons_append, List.nil_append]
    go_wp2_with (at_builtin; refine wpList_append_tl rfl _ _ rfl D (.slice a6 k c6) LA rfl HOd.out ⟨w6.heap.size, 0, none⟩ 1 1 [⟨tk, tn, ts, tp⟩] rfl rfl (part_one HNd.out) (by have h2 := HLA.out; rw [List.length_singleton]; omega) hsz7 ?_; intro v8 w8 ho hg; have HO8 := Lib.hid ho; have HG8 := Lib.hid hg; clear ho hg)
    have HB8 : Hid (Below D w5 w8) := Lib.hid (HBd.out.grown HG8.out hsz7 (fun b hb => own_row HOd.out hb))
    have HOZ := Lib.hid (HO5C.out.below (by rw [HDE.out]; exact HB8.out))
    have hz8 : D ≤ w8.heap.size := by rw [← HDE.out]; exact HB8.out.size
    refine ⟨fun _ => HB8.out, ?_⟩
    refine wpPlan_act rfl ?_
    simp only [pickOps, List.drop_succ_cons, List.drop_zero, List.take_succ_cons, List.take_zero, List.cons_append, List.nil_append]
    go_wp2_with (at_builtin; refine wpList_append_part rfl _ _ rfl D (v8) (LA ++ [⟨tk, tn, ts, tp⟩]) rfl HO8.out B g n ((k + 1)) (k + 1) (LA ++ [⟨sk, sn, ss, sp⟩]) LC [] HOZ.out (by have := HLA.out; rw [List.length_append, List.length_singleton]; omega) _ _ _ rfl (fun hne => absurd (List.eq_nil_of_length_eq_zero (by have h5 := HLC.out; omega)) hne) (by have := HLC.out; omega) (by have h1 := HLC.out; have h2 := HLA.out; rw [List.length_append, List.length_singleton]; omega) hz8 ?_; intro v9 w9 ho hg; have HO9 := Lib.hid ho; have HG9 := Lib.hid hg; clear ho hg)
    have HB9 : Hid (Below D w5 w9) := Lib.hid (HB8.out.grown HG9.out hz8 (fun b hb => own_row HO8.out hb))
    refine ⟨fun _ => HB9.out, ?_⟩
    refine wpPlan_act rfl ?_
    simp only [pickOps, List.drop_succ_cons, List.drop_zero, List.take_succ_cons, List.take_zero, List.cons_append, List.nil_append]
    go_wp2_with fail
    refine ⟨fun h => absurd h (by decide), wpPlan_nil ?_⟩
    go_wp2_with fail
    go_meet
    obtain ⟨a9, c9, rfl⟩ := HO9.out.form
    exact ⟨_, _, _, _, rfl, rfl, by have h1 := HLC.out; have h2 := HLA.out; simp only [List.length_append, List.length_cons, List.length_nil]; omega, HO9, Lib.hid (fun y hy => by rcases List.mem_append.1 hy with hy | hy; rcases List.mem_append.1 hy with hy | hy; exact HTA.out y hy; rw [List.mem_singleton.1 hy]; exact HTX.out; exact HTC.out y hy), Lib.hid (HB9.out)⟩
   ·go_upto_region 12 with fail
    have m0 : ∀ x, Below D w5 x → x.cell? ⟨C + 1, 0, none⟩ = some (.int .i64 tk) := fun x hx => (hx.cell (p := ⟨C + 1, 0, none⟩) (by omega)).trans (cells4 HX5.out).1
    have m1 : ∀ x, Below D w5 x → x.cell? ⟨C + 1, 1, none⟩ = some (.int .u64 tn) := fun x hx => (hx.cell (p := ⟨C + 1, 1, none⟩) (by omega)).trans (cells4 HX5.out).2.1
    have m2 : ∀ x, Below D w5 x → x.cell? ⟨C + 1, 2, none⟩ = some (.string ⟨ts.toArray⟩) := fun x hx => (hx.cell (p := ⟨C + 1, 2, none⟩) (by omega)).trans (cells4 HX5.out).2.2.1
    have m3 : ∀ x, Below D w5 x → x.cell? ⟨C + 1, 3, none⟩ = some (.int .i64 tp) := fun x hx => (hx.cell (p := ⟨C + 1, 3, none⟩) (by omega)).trans (cells4 HX5.out).2.2.2
    refine wp_region_plan (Below D w5) 9 [.reads [0, 1, 4, 5, 6, 7], .act 2, .act 3, .act 8, .act 9] (by kernel_rfl) (by kernel_rfl) (by kernel_rfl) (by kernel_rfl) (by kernel_rfl) (fun _ _ d _ _ h => by cases d <;> exact h) (Below.drew HB6.out) ?_
    refine wpPlan_reads ?_
    simp only [pickOps, List.drop_succ_cons, List.drop_zero, List.take_succ_cons, List.take_zero, List.cons_append, List.nil_append]
    repeat (go_big_quiet_step (first | (intro hb; rw [m0 _ hb]; simp only [Result.andThen]; rw [m1 _ hb]; simp only; rw [m2 _ hb]; simp only; rw [m3 _ hb]; exact ⟨rfl, rfl⟩) | (intro _; rfl)))
    have HO5C : Hid (ToksI w5 B (.slice (some ⟨g, 0, none⟩) n c2) ((LA ++ [⟨sk, sn, ss, sp⟩]) ++ (LC ++ []))) := by simpa using HO5
    have HBd : Hid (Below D w5 (w6.alloc (tObj tk tn ts tp)).drew) := Lib.hid (Below.drew (HB6.out.alloc hz6 _))
    have HNd : Hid ((w6.alloc (tObj tk tn ts tp)).drew.heap[w6.heap.size]? = some (tObj tk tn ts tp)) := Lib.hid (heap_alloc_new _ _)
    have HGd : Hid (Below w6.heap.size w6 (w6.alloc (tObj tk tn ts tp)).drew) := Lib.hid (Below.drew ((Below.refl _ _).alloc (Nat.le_refl _) _))
    have HOd : Hid (ToksI (w6.alloc (tObj tk tn ts tp)).drew D (.slice a6 k c6) LA) := Lib.hid (HO6.out.below HGd.out)
    have hsz7 : D ≤ (w6.alloc (tObj tk tn ts tp)).drew.heap.size := Nat.le_trans hz6 HGd.out.size
    clear HGd
    refine wpQuiet_nil ?_
    refine wpPlan_act rfl ?_
    simp only [pickOps, List.drop_succ_cons, List.drop_zero, List.take_succ_cons, List.take_zero, List.cons_append, List.nil_append]
    go_wp2_with fail
    generalize (w6.alloc (tObj tk tn ts tp)).drew = w7 at HBd HNd HOd hsz7 ⊢
    refine ⟨fun _ => HBd.out, ?_⟩
    refine wpPlan_act rfl ?_
    simp only [pickOps, List.drop_succ_cons, List.drop_zero, List.take_succ_cons, List.take_zero, List.cons_append, List.nil_append]
    go_wp2_with (at_builtin; refine wpList_append_tl rfl _ _ rfl D (.slice a6 k c6) LA rfl HOd.out ⟨w6.heap.size, 0, none⟩ 1 1 [⟨tk, tn, ts, tp⟩] rfl rfl (part_one HNd.out) (by have h2 := HLA.out; rw [List.length_singleton]; omega) hsz7 ?_; intro v8 w8 ho hg; have HO8 := Lib.hid ho; have HG8 := Lib.hid hg; clear ho hg)
    have HB8 : Hid (Below D w5 w8) := Lib.hid (HBd.out.grown HG8.out hsz7 (fun b hb => own_row HOd.out hb))
    have HOZ := Lib.hid (HO5C.out.below (by rw [HDE.out]; exact HB8.out))
    have hz8 : D ≤ w8.heap.size := by rw [← HDE.out]; exact HB8.out.size
    refine ⟨fun _ => HB8.out, ?_⟩
    refine wpPlan_act rfl ?_
    simp only [pickOps, List.drop_succ_cons, List.drop_zero, List.take_succ_cons, List.take_zero, List.cons_append, List.nil_append]
    go_wp2_with (at_builtin; refine wpList_append_part rfl _ _ rfl D (v8) (LA ++ [⟨tk, tn, ts, tp⟩]) rfl HO8.out B g n (c2) (k + 1) (LA ++ [⟨sk, sn, ss, sp⟩]) LC [] HOZ.out (by have := HLA.out; rw [List.length_append, List.length_singleton]; omega) _ _ _ rfl (fun _ => rfl) (by have := HLC.out; omega) (by have h1 := HLC.out; have h2 := HLA.out; rw [List.length_append, List.length_singleton]; omega) hz8 ?_; intro v9 w9 ho hg; have HO9 := Lib.hid ho; have HG9 := Lib.hid hg; clear ho hg)
    have HB9 : Hid (Below D w5 w9) := Lib.hid (HB8.out.grown HG9.out hz8 (fun b hb => own_row HO8.out hb))
    refine ⟨fun _ => HB9.out, ?_⟩
    refine wpPlan_act rfl ?_
    simp only [pickOps, List.drop_succ_cons, List.drop_zero, List.take_succ_cons, List.take_zero, List.cons_append, List.nil_append]
    go_wp2_with fail
    refine ⟨fun h => absurd h (by decide), wpPlan_nil ?_⟩
    go_wp2_with fail
    go_meet
    obtain ⟨a9, c9, rfl⟩ := HO9.out.form
    exact ⟨_, _, _, _, rfl, rfl, by have h1 := HLC.out; have h2 := HLA.out; simp only [List.length_append, List.length_cons, List.length_nil]; omega, HO9, Lib.hid (fun y hy => by rcases List.mem_append.1 hy with hy | hy; rcases List.mem_append.1 hy with hy | hy; exact HTA.out y hy; rw [List.mem_singleton.1 hy]; exact HTX.out; exact HTC.out y hy), Lib.hid (HB9.out)⟩
  ·have hck : ¬ c2 = k := by omega
   go_upto_region 14 with fail
   have m0 : ∀ x, Below D w5 x → x.cell? ⟨g, k * 4, none⟩ = some (.int .i64 sk) := fun x hx => (hx.cell (p := ⟨g, k * 4, none⟩) (by omega)).trans HT5.out.1
   have m1 : ∀ x, Below D w5 x → x.cell? ⟨g, k * 4 + 1, none⟩ = some (.int .u64 sn) := fun x hx => (hx.cell (p := ⟨g, k * 4 + 1, none⟩) (by omega)).trans HT5.out.2.1
   have m2 : ∀ x, Below D w5 x → x.cell? ⟨g, k * 4 + 2, none⟩ = some (.string ⟨ss.toArray⟩) := fun x hx => (hx.cell (p := ⟨g, k * 4 + 2, none⟩) (by omega)).trans HT5.out.2.2.1
   have m3 : ∀ x, Below D w5 x → x.cell? ⟨g, k * 4 + 3, none⟩ = some (.int .i64 sp) := fun x hx => (hx.cell (p := ⟨g, k * 4 + 3, none⟩) (by omega)).trans HT5.out.2.2.2
   refine wp_region_plan (Below D w5) 11 [.reads [0, 1, 2, 3, 4, 7, 8, 9], .act 5, .act 6, .act 10, .act 11] (by kernel_rfl) (by kernel_rfl) (by kernel_rfl) (by kernel_rfl) (by kernel_rfl) (fun _ _ d _ _ h => by cases d <;> exact h) (Below.drew HB6.out) ?_
   refine wpPlan_reads ?_
   simp only [pickOps, List.drop_succ_cons, List.drop_zero, List.take_succ_cons, List.take_zero, List.cons_append, List.nil_append]
   repeat (go_big_quiet_step (first | (intro hb; rw [m0 _ hb]; simp only [Result.andThen]; rw [m1 _ hb]; simp only; rw [m2 _ hb]; simp only; rw [m3 _ hb]; exact ⟨rfl, rfl⟩) | (intro _; rfl)))
   have HO5C : Hid (ToksI w5 B (.slice (some ⟨g, 0, none⟩) n c2) (LA ++ ((⟨sk, sn, ss, sp⟩ :: LC) ++ []))) := by simpa using HO5
   have HBd : Hid (Below D w5 (w6.alloc (tObj sk sn ss sp)).drew) := Lib.hid (Below.drew (HB6.out.alloc hz6 _))
   have HNd : Hid ((w6.alloc (tObj sk sn ss sp)).drew.heap[w6.heap.size]? = some (tObj sk sn ss sp)) := Lib.hid (heap_alloc_new _ _)
   have HGd : Hid (Below w6.heap.size w6 (w6.alloc (tObj sk sn ss sp)).drew) := Lib.hid (Below.drew ((Below.refl _ _).alloc (Nat.le_refl _) _))
   have HOd : Hid (ToksI (w6.alloc (tObj sk sn ss sp)).drew D (.slice a6 k c6) LA) := Lib.hid (HO6.out.below HGd.out)
   have hsz7 : D ≤ (w6.alloc (tObj sk sn ss sp)).drew.heap.size := Nat.le_trans hz6 HGd.out.size
   clear HGd
   refine wpQuiet_nil ?_
   refine wpPlan_act rfl ?_
   simp only [pickOps, List.drop_succ_cons, List.drop_zero, List.take_succ_cons, List.take_zero, List.cons_append, List.nil_append]
   go_wp2_with fail
   generalize (w6.alloc (tObj sk sn ss sp)).drew = w7 at HBd HNd HOd hsz7 ⊢
   refine ⟨fun _ => HBd.out, ?_⟩
   refine wpPlan_act rfl ?_
   simp only [pickOps, List.drop_succ_cons, List.drop_zero, List.take_succ_cons, List.take_zero, List.cons_append, List.nil_append]
   go_wp2_with (at_builtin; refine wpList_append_tl rfl _ _ rfl D (.slice a6 k c6) LA rfl HOd.out ⟨w6.heap.size, 0, none⟩ 1 1 [⟨sk, sn, ss, sp⟩] rfl rfl (part_one HNd.out) (by have h2 := HLA.out; rw [List.length_singleton]; omega) hsz7 ?_; intro v8 w8 ho hg; have HO8 := Lib.hid ho; have HG8 := Lib.hid hg; clear ho hg)
   have HB8 : Hid (Below D w5 w8) := Lib.hid (HBd.out.grown HG8.out hsz7 (fun b hb => own_row HOd.out hb))
   have HOZ := Lib.hid (HO5C.out.below (by rw [HDE.out]; exact HB8.out))
   have hz8 : D ≤ w8.heap.size := by rw [← HDE.out]; exact HB8.out.size
   refine ⟨fun _ => HB8.out, ?_⟩
   refine wpPlan_act rfl ?_
   simp only [pickOps, List.drop_succ_cons, List.drop_zero, List.take_succ_cons, List.take_zero, List.cons_append, List.nil_append]
   go_wp2_with (at_builtin; refine wpList_append_part rfl _ _ rfl D (v8) (LA ++ [⟨sk, sn, ss, sp⟩]) rfl HO8.out B g n (c2) k LA ((⟨sk, sn, ss, sp⟩ : TokI) :: LC) [] HOZ.out HLA.out _ _ _ rfl (fun _ => rfl) (by have := HLC.out; rw [List.length_cons]; omega) (by have h1 := HLC.out; have h2 := HLA.out; rw [List.length_append, List.length_singleton]; rw [List.length_cons]; omega) hz8 ?_; intro v9 w9 ho hg; have HO9 := Lib.hid ho; have HG9 := Lib.hid hg; clear ho hg)
   have HB9 : Hid (Below D w5 w9) := Lib.hid (HB8.out.grown HG9.out hz8 (fun b hb => own_row HO8.out hb))
   refine ⟨fun _ => HB9.out, ?_⟩
   refine wpPlan_act rfl ?_
   simp only [pickOps, List.drop_succ_cons, List.drop_zero, List.take_succ_cons, List.take_zero, List.cons_append, List.nil_append]
   go_wp2_with fail
   refine ⟨fun h => absurd h (by decide), wpPlan_nil ?_⟩
   go_wp2_with fail
   go_meet
   obtain ⟨a9, c9, rfl⟩ := HO9.out.form
   exact ⟨_, _, _, _, rfl, rfl, by have h1 := HLC.out; have h2 := HLA.out; simp only [List.length_append, List.length_cons, List.length_nil]; omega, HO9, Lib.hid (fun y hy => by rcases List.mem_append.1 hy with hy | hy; rcases List.mem_append.1 hy with hy | hy; exact HTA.out y hy; rw [List.mem_singleton.1 hy]; exact HTT.out; rcases List.mem_cons.1 hy with hy | hy; rw [hy]; exact HTT.out; exact HTC.out y hy), Lib.hid (HB9.out)⟩
  ·have hck : ¬ c2 = k := by omega
   go_upto_region 16 with fail
   have m0 : ∀ x, Below D w5 x → x.cell? ⟨C + 1, 0, none⟩ = some (.int .i64 tk) := fun x hx => (hx.cell (p := ⟨C + 1, 0, none⟩) (by omega)).trans (cells4 HX5.out).1
   have m1 : ∀ x, Below D w5 x → x.cell? ⟨C + 1, 1, none⟩ = some (.int .u64 tn) := fun x hx => (hx.cell (p := ⟨C + 1, 1, none⟩) (by omega)).trans (cells4 HX5.out).2.1
   have m2 : ∀ x, Below D w5 x → x.cell? ⟨C + 1, 2, none⟩ = some (.string ⟨ts.toArray⟩) := fun x hx => (hx.cell (p := ⟨C + 1, 2, none⟩) (by omega)).trans (cells4 HX5.out).2.2.1
   have m3 : ∀ x, Below D w5 x → x.cell? ⟨C + 1, 3, none⟩ = some (.int .i64 tp) := fun x hx => (hx.cell (p := ⟨C + 1, 3, none⟩) (by omega)).trans (cells4 HX5.out).2.2.2
   refine wp_region_plan (Below D w5) 8 [.reads [0, 1, 4, 5, 6], .act 2, .act 3, .act 7, .act 8] (by kernel_rfl) (by kernel_rfl) (by kernel_rfl) (by kernel_rfl) (by kernel_rfl) (fun _ _ d _ _ h => by cases d <;> exact h) (Below.drew HB6.out) ?_
   refine wpPlan_reads ?_
   simp only [pickOps, List.drop_succ_cons, List.drop_zero, List.take_succ_cons, List.take_zero, List.cons_append, List.nil_append]
   repeat (go_big_quiet_step (first | (intro hb; rw [m0 _ hb]; simp only [Result.andThen]; rw [m1 _ hb]; simp only; rw [m2 _ hb]; simp only; rw [m3 _ hb]; exact ⟨rfl, rfl⟩) | (intro _; rfl)))
   have HO5C : Hid (ToksI w5 B (.slice (some ⟨g, 0, none⟩) n c2) (LA ++ ((⟨sk, sn, ss, sp⟩ :: LC) ++ []))) := by simpa using HO5
   have HBd : Hid (Below D w5 (w6.alloc (tObj tk tn ts tp)).drew) := Lib.hid (Below.drew (HB6.out.alloc hz6 _))
   have HNd : Hid ((w6.alloc (tObj tk tn ts tp)).drew.heap[w6.heap.size]? = some (tObj tk tn ts tp)) := Lib.hid (heap_alloc_new _ _)
   have HGd : Hid (Below w6.heap.size w6 (w6.alloc (tObj tk tn ts tp)).drew) := Lib.hid (Below.drew ((Below.refl _ _).alloc (Nat.le_refl _) _))
   have HOd : Hid (ToksI (w6.alloc (tObj tk tn ts tp)).drew D (.slice a6 k c6) LA) := Lib.hid (HO6.out.below HGd.out)
   have hsz7 : D ≤ (w6.alloc (tObj tk tn ts tp)).drew.heap.size := Nat.le_trans hz6 HGd.out.size
   clear HGd
   refine wpQuiet_nil ?_
   refine wpPlan_act rfl ?_
   simp only [pickOps, List.drop_succ_cons, List.drop_zero, List.take_succ_cons, List.take_zero, List.cons_append, List.nil_append]
   go_wp2_with fail
   generalize (w6.alloc (tObj tk tn ts tp)).drew = w7 at HBd HNd HOd hsz7 ⊢
   refine ⟨fun _ => HBd.out, ?_⟩
   refine wpPlan_act rfl ?_
   simp only [pickOps, List.drop_succ_cons, List.drop_zero, List.take_succ_cons, List.take_zero, List.cons_append, List.nil_append]
   go_wp2_with (at_builtin; refine wpList_append_tl rfl _ _ rfl D (.slice a6 k c6) LA rfl HOd.out ⟨w6.heap.size, 0, none⟩ 1 1 [⟨tk, tn, ts, tp⟩] rfl rfl (part_one HNd.out) (by have h2 := HLA.out; rw [List.length_singleton]; omega) hsz7 ?_; intro v8 w8 ho hg; have HO8 := Lib.hid ho; have HG8 := Lib.hid hg; clear ho hg)
   have HB8 : Hid (Below D w5 w8) := Lib.hid (HBd.out.grown HG8.out hsz7 (fun b hb => own_row HOd.out hb))
   have HOZ := Lib.hid (HO5C.out.below (by rw [HDE.out]; exact HB8.out))
   have hz8 : D ≤ w8.heap.size := by rw [← HDE.out]; exact HB8.out.size
   refine ⟨fun _ => HB8.out, ?_⟩
   refine wpPlan_act rfl ?_
   simp only [pickOps, List.drop_succ_cons, List.drop_zero, List.take_succ_cons, List.take_zero, List.cons_append, List.nil_append]
   go_wp2_with (at_builtin; refine wpList_append_part rfl _ _ rfl D (v8) (LA ++ [⟨tk, tn, ts, tp⟩]) rfl HO8.out B g n (c2) k LA ((⟨sk, sn, ss, sp⟩ : TokI) :: LC) [] HOZ.out HLA.out _ _ _ rfl (fun _ => rfl) (by have := HLC.out; rw [List.length_cons]; omega) (by have h1 := HLC.out; have h2 := HLA.out; rw [List.length_append, List.length_singleton]; rw [List.length_cons]; omega) hz8 ?_; intro v9 w9 ho hg; have HO9 := Lib.hid ho; have HG9 := Lib.hid hg; clear ho hg)
   have HB9 : Hid (Below D w5 w9) := Lib.hid (HB8.out.grown HG9.out hz8 (fun b hb => own_row HO8.out hb))
   refine ⟨fun _ => HB9.out, ?_⟩
   refine wpPlan_act rfl ?_
   simp only [pickOps, List.drop_succ_cons, List.drop_zero, List.take_succ_cons, List.take_zero, List.cons_append, List.nil_append]
   go_wp2_with fail
   refine ⟨fun h => absurd h (by decide), wpPlan_nil ?_⟩
   go_wp2_with fail
   go_meet
   obtain ⟨a9, c9, rfl⟩ := HO9.out.form
   exact ⟨_, _, _, _, rfl, rfl, by have h1 := HLC.out; have h2 := HLA.out; simp only [List.length_append, List.length_cons, List.length_nil]; omega, HO9, Lib.hid (fun y hy => by rcases List.mem_append.1 hy with hy | hy; rcases List.mem_append.1 hy with hy | hy; exact HTA.out y hy; rw [List.mem_singleton.1 hy]; exact HTX.out; rcases List.mem_cons.1 hy with hy | hy; rw [hy]; exact HTT.out; exact HTC.out y hy), Lib.hid (HB9.out)⟩
  ·go_wp2_with fail
   go_meet
   exact ⟨_, _, _, LA, rfl, HLA.out, by omega, HO6, HTA, HB6⟩
 case rest =>
 clear HO5 HO6 HB6 HT5 HTT HTA HTC
 obtain ⟨a8, c8, N, ms, rfl, hmn, hn70, HO8, HT8, HB8⟩ := hcut
 obtain ⟨w8, rfl⟩ : ∃ y : World, y = wc := ⟨_, rfl⟩
 have hb58 : Below w5.heap.size w5 w8 := by rw [HDE.out]; exact HB8.out
 have HG8 := Lib.hid (HG5.out.below hb58 HG5.out.low)
 have HW8 : Hid (Below A W w8) := Lib.hid (bel_then HB5.out hAw hb58)
 have HAW := Lib.hid (awake_any m w8 HG8.out)
 clear hb58 HB8 HB5 HG5
 go_wp2_with fail
 ((with_reducible refine HAW.out.mono ?_))
 rintro e w9 ⟨rfl, hb9⟩
 have HG9 := Lib.hid (HG8.out.below hb9 HG8.out.low)
 have HW9 : Hid (Below A W w9) := Lib.hid (bel_then HW8.out hAw hb9)
 have HO9 := Lib.hid (HO8.out.below hb9)
 have HRT := Lib.hid (rtoks_any ms _ w9 HO9.out.sl HT8.out (by omega))
 have hTL := words_ln ms true (fun t ht => okT_len (HT8.out t ht).1 (HT8.out t ht).2)
 clear hb9 HG8 HW8 HO8 HAW
 obtain ⟨TX, hTX⟩ : ∃ T, textP (wordsP true ms) = T := ⟨_, rfl⟩
 rw [hTX] at HRT hTL
 clear hTX
 go_wp2_with fail
 ((with_reducible refine HRT.out.mono ?_))
 rintro e w10 ⟨rfl, hb10⟩
 have HG10 := Lib.hid (HG9.out.below hb10 HG9.out.low)
 have HW10 : Hid (Below A W w10) := Lib.hid (bel_then HW9.out hAw hb10)
 have HAG := Lib.hid (agrees_any TX m w10 HG10.out (by omega))
 clear hb10 HG9 HW9 HO9 HRT
 go_wp2_with fail
 ((with_reducible refine HAG.out.mono ?_))
 rintro e w11 ⟨rfl, hb11⟩
 have HW11 : Hid (Below A W w11) := Lib.hid (bel_then HW10.out hAw hb11)
 clear hb11 HAG HW10
 go_wp2_with fail
 go_ret
 exact ⟨rfl, HW11.out⟩
theorem law_mutationsI (l : List Int) (v0 : Value) (at_ kind oth : Int) (m : Int) (W : World) (hl : IArg W v0 l) (h0 : 0 ≤ oth) (h1 : oth ≤ 255) (hm : SynG m W) :
 Calls Tryz.prog 4 #[v0, .int .i64 at_, .int .i64 kind, .int .u8 oth] W fun e w' => e = .returned (.bool true) ∧ Below W.heap.size W w' := by
 obtain ⟨k, rfl⟩ := Int.eq_ofNat_of_zero_le h0
 exact law_mutations l v0 at_ kind k m W hl (by omega) hm
end
section
open Go.RowKit
set_option maxRecDepth 100000
def formData {H : Type} (T : List (List UInt8 × List UInt8)) : DataW H := .agg (T.map fun x => .agg [.lit (.string x.1), .lit (.string x.2)])
theorem cells_of_forms {H : Type} {enc : TypeId × Value → H} {P : Program} {w : World} {base : Nat} {sp : Nat → Bool} {held : Bool} {fuel : Nat} {t e tS n : Nat} {fs : Array Field} {f0 f1 : Field} {cs : List Value} {T : List (List UInt8 × List UInt8)} {p : List MemPlace}
 (ht : P.underlying t = some (.array n e)) (he : P.underlying e = some (.struct fs)) (hce : P.cellsOf e = 2) (hS : P.underlying tS = some .string) (hcS : P.cellsOf tS = 1)
 (h0 : fs[0]? = some f0) (h1 : fs[1]? = some f1) (o0 : f0.offset = 0) (o1 : f1.offset = 1) (t0 : f0.type = tS) (t1 : f1.type = tS)
 (h : DataW.trod enc P w base sp held fuel t cs = some (formData T, p)) (i : Nat) (hi : i < T.length) :
 cs[2 * i]? = some (.string ⟨T[i].1.toArray⟩) ∧ cs[2 * i + 1]? = some (.string ⟨T[i].2.toArray⟩) := by
 cases fuel with
 | zero => simp [DataW.trod] at h
 | succ fuel =>
   simp only [DataW.trod, ht, hce] at h
   split at h
   ·obtain ⟨xs, hm, hx⟩ := Option.map_eq_some_iff.1 h
    have hxs : xs.map (·.1) = T.map fun x => (DataW.agg [.lit (.string x.1), .lit (.string x.2)] : DataW H) := by
     have := congrArg Prod.fst hx
     simpa [formData] using this
    have hxl : xs.length = n := by simpa using Lib.mapM_length hm
    have hTl : T.length = xs.length := by
     have h9 : (xs.map (·.1)).length = (T.map fun x => (DataW.agg [.lit (.string x.1), .lit (.string x.2)] : DataW H)).length := by rw [hxs]
     rw [List.length_map, List.length_map] at h9
     exact h9.symm
    have hin : i < n := by omega
    obtain ⟨b, hb, hf⟩ := Lib.mapM_at hm i i (List.getElem?_range hin)
    have hb1 : b.1 = .agg [.lit (.string T[i].1), .lit (.string T[i].2)] := by
     have h2 : (xs.map (·.1))[i]? = some b.1 := by simp [hb]
     rw [hxs] at h2
     simp [List.getElem?_map, hi] at h2
     exact h2.symm
    obtain ⟨ys, m, -, e1, e2, e3, e4⟩ := DataW.trod_struct he hf
    rw [e1] at hb1
    simp only [DataW.agg.injEq] at hb1
    have y0 := e4 0 f0 h0
    have y1 := e4 1 f1 h1
    rw [o0, t0, hcS] at y0
    rw [o1, t1, hcS] at y1
    have g0 : (ys.map (·.1))[0]? = some (DataW.lit (.string T[i].1) : DataW H) := by rw [hb1]; rfl
    have g1 : (ys.map (·.1))[1]? = some (DataW.lit (.string T[i].2) : DataW H) := by rw [hb1]; rfl
    rw [List.getElem?_map, Option.map_eq_some_iff] at g0 g1
    obtain ⟨z0, q0, r0⟩ := g0
    obtain ⟨z1, q1, r1⟩ := g1
    rw [q0] at y0
    rw [q1] at y1
    obtain ⟨s0, c0, d0, -⟩ := DataW.trod_string hS y0
    obtain ⟨s1, c1, d1, -⟩ := DataW.trod_string hS y1
    rw [d0] at r0
    rw [d1] at r1
    simp only [DataW.lit.injEq, Lit.string.injEq] at r0 r1
    have k0 := congrArg (·[0]?) c0
    have k1 := congrArg (·[0]?) c1
    simp [List.getElem?_take, List.getElem?_drop] at k0 k1
    rw [Nat.mul_comm 2 i]
    refine ⟨?_, ?_⟩
    ·rw [k0, ← r0]
    ·rw [k1, ← r1]
   ·cases h
theorem forms_of_head {P : Program} {W : World} {name : String} {T : List (List UInt8 × List UInt8)} {rest : List (String × DataW Unit)} {g t e tS n : Nat} {fs : Array Field} {f0 f1 : Field}
 (hg : P.globalNamed name = some g) (hty : (P.globals[g]?).map (·.type) = some t) (ht : P.underlying t = some (.array n e)) (he : P.underlying e = some (.struct fs)) (hce : P.cellsOf e = 2) (hS : P.underlying tS = some .string) (hcS : P.cellsOf tS = 1)
 (h0 : fs[0]? = some f0) (h1 : fs[1]? = some f1) (o0 : f0.offset = 0) (o1 : f1.offset = 1) (t0 : f0.type = tS) (t1 : f1.type = tS)
 (h : laidMet P ((name, formData T) :: rest) W) (i : Nat) (hi : i < T.length) :
 W.cell? ⟨g, 2 * i, none⟩ = some (.string ⟨T[i].1.toArray⟩) ∧ W.cell? ⟨g, 2 * i + 1, none⟩ = some (.string ⟨T[i].2.toArray⟩) := by
 obtain ⟨ps, ⟨g', t', cs, fuel, p, q, hg', ht', hvar, hd, _, _⟩, _⟩ := h
 obtain rfl := Option.some.inj (hg.symm.trans hg')
 obtain rfl := Option.some.inj (hty.symm.trans ht')
 obtain ⟨a, b⟩ := cells_of_forms ht he hce hS hcS h0 h1 o0 o1 t0 t1 hd i hi
 exact ⟨by rw [World.var?_cell hg hvar]; simpa using a, by rw [World.var?_cell hg hvar]; simpa using b⟩
theorem laid_expr {W : World} (h : laidMetH Tryz.prog Rows.syntaxMutationsRow.laid W) (i : Nat) (hi : i < exprT.length) :
 W.cell? ⟨2, 2 * i, none⟩ = some (.string ⟨exprT[i].1.toArray⟩) ∧ W.cell? ⟨2, 2 * i + 1, none⟩ = some (.string ⟨exprT[i].2.toArray⟩) := by
 have h1 := h.filter fun x => x.1 == "platformfw/syntax.expressionForms"
 rw [show (Rows.syntaxMutationsRow.laid.filter fun x => x.1 == "platformfw/syntax.expressionForms") = [("platformfw/syntax.expressionForms", formData exprT)] by kernel_rfl] at h1
 exact forms_of_head (rest := []) (name := "platformfw/syntax.expressionForms") (t := 152) (e := 119) (tS := 9) (by kernel_rfl) (by kernel_rfl) Tryz.underlying152 Tryz.underlying119 (by kernel_rfl) Tryz.underlying9 (by kernel_rfl) rfl rfl rfl rfl rfl rfl h1 i hi
theorem laid_stmt {W : World} (h : laidMetH Tryz.prog Rows.syntaxMutationsRow.laid W) (i : Nat) (hi : i < stmtT.length) :
 W.cell? ⟨1, 2 * i, none⟩ = some (.string ⟨stmtT[i].1.toArray⟩) ∧ W.cell? ⟨1, 2 * i + 1, none⟩ = some (.string ⟨stmtT[i].2.toArray⟩) := by
 have h1 := h.filter fun x => x.1 == "platformfw/syntax.statementForms"
 rw [show (Rows.syntaxMutationsRow.laid.filter fun x => x.1 == "platformfw/syntax.statementForms") = [("platformfw/syntax.statementForms", formData stmtT)] by kernel_rfl] at h1
 exact forms_of_head (rest := []) (name := "platformfw/syntax.statementForms") (t := 151) (e := 119) (tS := 9) (by kernel_rfl) (by kernel_rfl) Tryz.underlying151 Tryz.underlying119 (by kernel_rfl) Tryz.underlying9 (by kernel_rfl) rfl rfl rfl rfl rfl rfl h1 i hi
theorem laid_decl {W : World} (h : laidMetH Tryz.prog Rows.syntaxMutationsRow.laid W) (i : Nat) (hi : i < declT.length) :
 W.cell? ⟨0, 2 * i, none⟩ = some (.string ⟨declT[i].1.toArray⟩) ∧ W.cell? ⟨0, 2 * i + 1, none⟩ = some (.string ⟨declT[i].2.toArray⟩) := by
 have h1 := h.filter fun x => x.1 == "platformfw/syntax.declarationForms"
 rw [show (Rows.syntaxMutationsRow.laid.filter fun x => x.1 == "platformfw/syntax.declarationForms") = [("platformfw/syntax.declarationForms", formData declT)] by kernel_rfl] at h1
 exact forms_of_head (rest := []) (name := "platformfw/syntax.declarationForms") (t := 150) (e := 119) (tS := 9) (by kernel_rfl) (by kernel_rfl) Tryz.underlying150 Tryz.underlying119 (by kernel_rfl) Tryz.underlying9 (by kernel_rfl) rfl rfl rfl rfl rfl rfl h1 i hi
theorem laid_syn {W : World} {m : Int} (h : laidMetH Tryz.prog Rows.syntaxMutationsRow.laid W) (hm : W.cell? ⟨3, 0, none⟩ = some (.int .i64 m)) : SynG m W :=
 ⟨hm, laid_expr h, laid_stmt h, laid_decl h⟩
theorem max_cell {W : World} (h : W.ShapedOpen Tryz.prog) : ∃ m, W.cell? ⟨3, 0, none⟩ = some (.int .i64 m) :=
 Go.Proofs.cell_of_shapedOpen_int (zero := #[.int .i64 0]) (t := 3) h (of_decide_eq_true (by kernel_rfl)) (by kernel_rfl) rfl (by kernel_rfl) (by kernel_rfl) Tryz.underlying3
end
section
open Go.ChangeShapes Go.WideShapes Go.RowKit Go.Joins
theorem sized_each {H : Type} {P : Program} {ts : List TypeId} {ds : List (DataW H)} (h : (DataW.weightsEach P ts ds).all (· ≤ reachBytes) = true) {j : Nat} {t : TypeId} {d : DataW H} (ht : ts[j]? = some t) (hd : ds[j]? = some d) : ∀ m ∈ d.weights P t, m ≤ reachBytes := by
 intro m hm
 have := List.all_eq_true.1 h m (DataW.weights_mem_each ht hd m hm)
 simpa using this
end
section
open Go.ChangeShapes Go.WideShapes Go.Deep Go.RowKit Go.Joins
theorem cellsT_int : Tryz.prog.cellsOf 3 = 1 := by kernel_rfl
theorem bytesT_int : Tryz.prog.bytesOf 3 = 8 := by kernel_rfl
theorem add_zero_addr' (b o k : Nat) : (⟨b, o, none⟩ : Addr).add k = ⟨b, o + k, none⟩ := by by_cases h : k = 0 <;> simp [Addr.add, h]
theorem open_intsV {H : Type} {enc : TypeId × Value → H} {W : World} {fuel : Nat} {v : Value} {y : DataW H × List MemPlace} (h : DataW.trod enc Tryz.prog W 0 (fun _ => true) true fuel 27 [v] = some y) (hw : ∀ m ∈ y.1.weights Tryz.prog 27, m ≤ reachBytes) :
 ∃ l, IArg W v l := by
 rcases open_ints Tryz.underlying27 Tryz.underlying3 cellsT_int h with ⟨hcs, hx⟩ | ⟨a, len, cap, zs, hcs, _, hl, hm, hz, hx, hcell, hwz⟩
 ·cases hcs
  exact ⟨[], none, 0, rfl, by simp, (fun h => absurd rfl h), by simp⟩
 ·cases hcs
  subst hx
  simp only [if_true] at hz
  have h1 : ((lits (H := H) .i64 (zs.take len)).length + (lits (H := H) .i64 (zs.drop len)).length) * Tryz.prog.bytesOf 3 ≤ reachBytes := by
   apply hw
   simp only [DataW.weights, Tryz.underlying27]
   exact List.mem_cons_self ..
  rw [bytesT_int] at h1
  simp only [lits, List.length_map, List.length_take, List.length_drop] at h1
  have hr : reachBytes = 140737488351232 := rfl
  rw [hr] at h1
  have hlen : (zs.take len).length = len := by simp; omega
  refine ⟨zs.take len, some a, cap, by rw [hlen], by rw [hlen]; omega, (fun hn => ?_), fun x hx => bounds_i64 (hwz x (List.mem_of_mem_take hx))⟩
  have hpos : 0 < len := by
   rcases Nat.eq_zero_or_pos len with h0 | h0
   ·subst h0; simp at hn
   ·exact h0
  obtain ⟨b, o, spot⟩ := a
  have hsp : spot = none := by
   have h1 := hcell 0 (by omega)
   simpa [Addr.add] using World.cell?_spot h1
  subst hsp
  refine ⟨b, o, rfl, fun k hk => ?_⟩
  rw [hlen] at hk
  have h2 := hcell k (by omega)
  rw [add_zero_addr'] at h2
  rw [h2]
  simp [List.getD, List.getElem?_eq_getElem (show k < zs.length by omega)]
set_option maxRecDepth 100000 in
theorem open_intsA {H : Type} {enc : TypeId × Value → H} {W : World} {b0 : Nat} {v : Value} {d : DataW H} {p : List MemPlace} (hv : Value.okWide Tryz.prog W .any b0 27 v) (h : DataW.Trod enc Tryz.prog W 0 (fun _ => true) true 27 v d p) (hw : ∀ m ∈ d.weights Tryz.prog 27, m ≤ reachBytes) :
 ∃ l, IArg W v l := by
 obtain ⟨a0, len, cap, rfl⟩ := okWide_slice Tryz.underlying27 hv
 obtain ⟨fuel, hf⟩ := h
 exact open_intsV (by simpa [Value.cells] using hf) hw
end
end Go.Proofs.YtnicnfchkdmieaaGreatDoor
