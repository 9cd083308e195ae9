/- Pn Jh -/
import Derived.Test.YtnicnfchkdmieaaGreatDoorYbw
import Derived.Test.YtnicnfchkdmieaaGreatDoorYbj
import Derived.Test.YtnicnfchkdmieaaGreatDoorYbp
import Derived.Test.YtnicnfchkdmieaaGreatDoorYbr
set_option linter.unusedVariables false
set_option linter.unusedSimpArgs false
namespace Go.Proofs.YtnicnfchkdmieaaGreatDoor
section
open Go.RowKit
attribute [local go_sem] ByteArray.mk_append_mk bs_get bs_cut bs_end
def ProgPost (w : World) (e : Ending) (w' : World) : Prop := ∃ v ns, e = .returned v ∧ NodesI w' w.heap.size v ns ∧ (∀ t ∈ ns, NdG t) ∧ (validL ns = true ∧ For6 ns) ∧ Below w.heap.size w w'
theorem NodesI.keepC {w w' : World} {B C : Nat} {v : Value} {ns : List Nd} (h : NodesI w B v ns) (hC : CSt w C) (hk : Keep C w w') : NodesI w' B v ns := by
 obtain ⟨a, cap, i, l, hc, _⟩ := hC
 exact own_grown h hk (fun g hg e => own_ch h hc (by rw [hg, e]))
theorem NodesI.slG {w : World} {B : Nat} {v : Value} {l : List Nd} (h : NodesI w B v l) (hs : ∀ t ∈ l, NdG t) : NSl w v l := h.sl (fun t ht => ⟨by have := (hs t ht).1; omega, (hs t ht).2.1⟩)
set_option maxRecDepth 100000 in
set_option maxHeartbeats 8000000 in
theorem program_any (v0 : Value) (l : List Int) (w : World) (h : IArg w v0 l) :
  Calls Tryz.prog 13 #[v0] w (ProgPost w) := by
 have HNW := Lib.hid (new_any v0 l w h)
 obtain ⟨a0, cap0, rfl, _⟩ := h
 obtain ⟨C, hCe⟩ : ∃ C, w.heap.size = C := ⟨_, rfl⟩
 unfold ProgPost
 rw [hCe] at HNW
 rw [hCe]
 clear hCe
 go_enter Tryz.func13, Tryz.ntmps13
 go_wp2_with fail
 ((with_reducible refine HNW.out.mono ?_))
 rintro e w1 ⟨rfl, hc1, hb1⟩
 have HC1 := Lib.hid hc1
 have HB1 := Lib.hid hb1
 have HN := Lib.hid (next_any C 5 w1 hc1 (by omega) (by omega))
 have hCP : C < w1.heap.size := hc1.lt
 clear hc1 hb1 HNW
 go_wp2_with fail
 ((with_reducible refine HN.out.mono ?_))
 rintro e w2 ⟨k2, rfl, hk2, hc2, hkk2⟩
 have HK2 := Lib.hid hkk2
 have HC2 := Lib.hid hc2
 have hk2' : (k2 : Int) < 5 := hk2
 clear hc2 hkk2 HN
 have HDE := Lib.hid (decl_2 C)
 unfold DeclOk at HDE
 go_wp2_with fail
 go_loopw [4, 5] (fun x i wr => ∃ (v : Value) (ns : List Nd) (q : Nat), v = x ∧ i = .int .i64 q ∧ q ≤ 5 ∧ ns.length ≤ (5 - q) * 54533 ∧ Hid (NodesI wr w1.heap.size v ns) ∧ Hid (∀ t ∈ ns, NdG t) ∧ Hid (For6 ns) ∧ Hid (CSt wr C) ∧ Hid (Keep C w1 wr)) (fun _ i _ => (intOf i).toNat)
 case atStart => exact ⟨_, [], k2 + 1, rfl, by go_num, by omega, by simp, Lib.hid (NodesI.nil _ _), Lib.hid (by intro t ht; cases ht), Lib.hid For6.nil, HC2, HK2⟩
 case round =>
  clear HC2 HK2 HC1
  obtain ⟨v, ns, q, rfl, rfl, hq, hnl, HR, HG, HFO, HC, HK⟩ := hrel
  obtain ⟨w3, rfl⟩ : ∃ y : World, y = wr := ⟨_, rfl⟩
  by_cases hq0 : 0 < q
  ·have hq1 : (0 : Int) < (q : Int) := by omega
   have HLF := Lib.hid (left_any C w3 HC.out)
   go_wp2_with fail
   ((with_reducible refine HLF.out.mono ?_))
   rintro e w4 ⟨lb, rfl, hc4, hkk4⟩
   have HR4 := Lib.hid (HR.out.keepC HC.out hkk4)
   have HK4 := Lib.hid (HK.out.trans hkk4)
   have HC4 := Lib.hid hc4
   clear hc4 hkk4 HR HK HC HLF
   cases lb with
   | false =>
     have HB9 : Hid (Below C w w4) := Lib.hid (HB1.out.trans (HK4.out.below (Nat.le_of_lt hCP) (Nat.le_refl _)))
     obtain ⟨vb, hvb⟩ : ∃ vb, Hid (validL ns = vb) := ⟨_, Lib.hid rfl⟩
     have HVL := Lib.hid (rvalid_is ns (fun t ht => by have := (HG.out t ht).1; omega) vb hvb v w4 (HR4.out.slG HG.out) (by omega))
     obtain ⟨av, cv, rfl⟩ := HR4.out.form
     have hsz9 : C ≤ w4.heap.size := Nat.le_trans (Nat.le_of_lt hCP) HK4.out.size
     cases vb with
     | true =>
       go_wp2_with fail
       ((with_reducible refine HVL.out.mono ?_))
       rintro e w9 ⟨rfl, hb9⟩
       have HR9 := Lib.hid ((HR4.out.below hb9).base (B' := C) (by omega))
       have HB10 := Lib.hid (HB9.out.trans (hb9.mono hsz9))
       clear hb9
       go_wp2_with fail
       go_ret
       exact ⟨_, ns, rfl, HR9.out, HG.out, ⟨hvb.out, HFO.out⟩, HB10.out⟩
     | false =>
       go_wp2_with fail
       ((with_reducible refine HVL.out.mono ?_))
       rintro e w9 ⟨rfl, hb9⟩
       have HB10 := Lib.hid (HB9.out.trans (hb9.mono hsz9))
       clear hb9
       go_wp2_with fail
       go_ret
       exact ⟨_, [], rfl, NodesI.nil _ _, (by intro t ht; cases ht), ⟨by decide, For6.nil⟩, HB10.out⟩
   | true =>
     have HDD := Lib.hid (HDE.out w4 HC4.out)
     unfold GPost at HDD
     go_wp2_with fail
     ((with_reducible refine HDD.out.mono ?_))
     rintro e w5 ⟨v5, rfl, hv5, hc5, hk5⟩
     have HR5 := Lib.hid (HR4.out.keepC HC4.out hk5)
     have HK5 := Lib.hid (HK4.out.trans hk5)
     have HC5 := Lib.hid hc5
     obtain ⟨l2, j1, j2, j3, _, j5⟩ := hv5
     have HFO6 := Lib.hid (HFO.out.snoc (j5.mono (dpN_le _)))
     have HY := Lib.hid j1
     have HG2 := Lib.hid j2
     have hsz : w1.heap.size ≤ w5.heap.size := HK5.out.size
     clear hc5 hk5 j1 j2 j5 HFO HR4 HK4 HC4 HDD
     go_wp2_with (at_builtin; refine wpList_append_nodes rfl _ _ rfl w1.heap.size v ns rfl HR5.out _ v5 l2 rfl HY.out (by omega) hsz ?_; intro v6 w6 ho hg; have HO := Lib.hid ho; have HGR := Lib.hid hg; clear ho hg)
     have HC6 := Lib.hid (HC5.out.grown HGR.out (fun g h => by have := own_row HR5.out h; omega))
     have HK6 := Lib.hid (HK5.out.grown HGR.out (fun g h => own_row HR5.out h))
     have HG6 : Hid (∀ t ∈ ns ++ l2, NdG t) := Lib.hid (fun t ht => by
      rcases List.mem_append.1 ht with h | h
      ·exact HG.out t h
      ·exact HG2.out t h)
     have hln : (ns ++ l2).length ≤ (5 - (q - 1)) * 54533 := by rw [List.length_append]; omega
     clear HGR HY HR5 HC5 HK5 HG HG2
     go_wp2_with fail
     go_roundw
     case rel => first | exact ⟨ns ++ l2, q - 1, by go_num, by omega, hln, HO, HG6, HFO6, HC6, HK6⟩ | exact ⟨_, ns ++ l2, q - 1, rfl, by go_num, by omega, hln, HO, HG6, HFO6, HC6, HK6⟩
     case measure => simp [intOf]; omega
  ·have hq1 : ¬ (0 : Int) < (q : Int) := by omega
   have HB9 : Hid (Below C w w3) := Lib.hid (HB1.out.trans (HK.out.below (Nat.le_of_lt hCP) (Nat.le_refl _)))
   obtain ⟨vb, hvb⟩ : ∃ vb, Hid (validL ns = vb) := ⟨_, Lib.hid rfl⟩
   have HVL := Lib.hid (rvalid_is ns (fun t ht => by have := (HG.out t ht).1; omega) vb hvb v w3 (HR.out.slG HG.out) (by omega))
   obtain ⟨av, cv, rfl⟩ := HR.out.form
   have hsz9 : C ≤ w3.heap.size := Nat.le_trans (Nat.le_of_lt hCP) HK.out.size
   cases vb with
   | true =>
     go_wp2_with fail
     ((with_reducible refine HVL.out.mono ?_))
     rintro e w9 ⟨rfl, hb9⟩
     have HR9 := Lib.hid ((HR.out.below hb9).base (B' := C) (by omega))
     have HB10 := Lib.hid (HB9.out.trans (hb9.mono hsz9))
     clear hb9
     go_wp2_with fail
     go_ret
     exact ⟨_, ns, rfl, HR9.out, HG.out, ⟨hvb.out, HFO.out⟩, HB10.out⟩
   | false =>
     go_wp2_with fail
     ((with_reducible refine HVL.out.mono ?_))
     rintro e w9 ⟨rfl, hb9⟩
     have HB10 := Lib.hid (HB9.out.trans (hb9.mono hsz9))
     clear hb9
     go_wp2_with fail
     go_ret
     exact ⟨_, [], rfl, NodesI.nil _ _, (by intro t ht; cases ht), ⟨by decide, For6.nil⟩, HB10.out⟩
end
section
open Go.RowKit
attribute [local go_sem] ByteArray.mk_append_mk bs_get bs_cut bs_end
theorem Tz16.bel {w w' : World} (h : Tz16 w) (hb : Below w.heap.size w w') : Tz16 w' := h.below hb (World.block_lt_of_cell? w _ h)
theorem SynG.bel {m : Int} {w w' : World} (h : SynG m w) (hb : Below w.heap.size w w') : SynG m w' := h.below hb h.low
set_option maxRecDepth 100000 in
set_option maxHeartbeats 16000000 in
theorem law_roundtrip (l : List Int) (v0 : Value) (m : Int) (W : World) (hl : IArg W v0 l) (hm : SynG m W) (hT : Tz16 W) :
  Calls Tryz.prog 7 #[v0] W fun e w' => e = .returned (.bool true) ∧ Below W.heap.size W w' := by
 have HM0 := Lib.hid hm
 have HZ0 := Lib.hid hT
 have HPR := Lib.hid (program_any v0 l W hl)
 unfold ProgPost at HPR
 obtain ⟨ia, ic, rfl, _⟩ := hl
 obtain ⟨IL, hIL⟩ : ∃ L, l.length = L := ⟨_, rfl⟩
 rw [hIL] at HPR ⊢
 clear hm hT hIL
 go_enter Tryz.func7, Tryz.ntmps7
 go_wp2_with fail
 ((with_reducible refine HPR.out.mono ?_))
 rintro e w1 ⟨v, ns, rfl, hn, hg, ⟨hv, hf6⟩, hb⟩
 have HNU : Hid (NumsOk ns) := Lib.hid (fun t ht => (hg t ht).2)
 have HST : Hid (∀ t ∈ ns, t.str.length ≤ 65536) := Lib.hid (fun t ht => by have := (hg t ht).1; omega)
 have HNS := Lib.hid (hn.slG hg)
 have hln := fmtP_ln6 ns hg hv hf6
 have HPP : Hid (parseL (fmtP ns) = (ns, 0, 0)) := Lib.hid (fmt_round ns HNU.out hv hln)
 have HSF := Lib.hid (fun w (h1 : NSl w v ns) (h2 : SynG m w) (h3 : Tz16 w) => sformat_any ns v m w h1 HST.out HNU.out hv h2 h3)
 have HRF := Lib.hid (fun w (h1 : NSl w v ns) => rformat_any ns v w h1 HST.out HNU.out hv)
 have HEQ := Lib.hid (fun w vb (h1 : NSl w v ns) (h2 : NSl w vb ns) => equal_nodes v vb ns w h1 h2 (by
  unfold validL at hv
  simp only [Bool.and_eq_true, decide_eq_true_eq] at hv
  omega))
 have HSLB : Hid (∀ w B vb, NodesI w B vb ns → NSl w vb ns) := Lib.hid (fun w B vb h => h.slG hg)
 have HB1 := Lib.hid hb
 have HM1 := Lib.hid (HM0.out.bel hb)
 have HZ1 := Lib.hid (HZ0.out.bel hb)
 obtain ⟨qa, qc, rfl⟩ := hn.form
 obtain ⟨F, hF⟩ : ∃ F, fmtP ns = F := ⟨_, rfl⟩
 rw [hF] at HPP HSF HRF hln
 have HPA := Lib.hid (fun w (h2 : SynG m w) => parse_is F ns 0 0 m HPP w h2 (by omega))
 have hln' : ¬ (65536 : Int) < (F.length : Int) := by omega
 obtain ⟨NL, hNL⟩ : ∃ F, ns.length = F := ⟨_, rfl⟩
 rw [hNL] at HSF HRF HEQ HNS ⊢
 clear hn hg hv hb hF hNL HNU HPR HM0 HZ0 hf6 HPP hln
 go_wp2_with fail
 ((with_reducible refine (HSF.out _ HNS.out HM1.out HZ1.out).mono ?_))
 rintro e w2 ⟨rfl, hb2⟩
 have HB2 := Lib.hid (bel_then HB1.out (Nat.le_refl _) hb2)
 have HN2 := Lib.hid (HNS.out.below hb2)
 have HM2 := Lib.hid (HM1.out.bel hb2)
 clear hb2 HSF HNS HM1 HZ1 HB1
 go_wp2_with fail
 ((with_reducible refine (HPA.out _ HM2.out).mono ?_))
 rintro e w3 ⟨vq, rfl, hq3, hb3⟩
 have HB3 := Lib.hid (bel_then HB2.out (Nat.le_refl _) hb3)
 have HN3 := Lib.hid (HN2.out.below hb3)
 have HQ3 := Lib.hid (HSLB.out _ _ _ hq3)
 have HM3 := Lib.hid (HM2.out.bel hb3)
 obtain ⟨ra, rc, rfl⟩ := hq3.form
 have HAW := Lib.hid (awake_any m w3 HM3.out)
 clear hq3 hb3 HPA HN2 HM2 HB2
 go_wp2_with fail
 ((with_reducible refine HAW.out.mono ?_))
 rintro e w4 ⟨rfl, hb4⟩
 have HB4 := Lib.hid (bel_then HB3.out (Nat.le_refl _) hb4)
 have HN4 := Lib.hid (HN3.out.below hb4)
 have HQ4 := Lib.hid (HQ3.out.below hb4)
 clear hb4 HAW HN3 HQ3 HB3 HM3
 go_wp2_with fail
 ((with_reducible refine (HRF.out _ HN4.out).mono ?_))
 rintro e w5 ⟨rfl, hb5⟩
 have HB5 := Lib.hid (bel_then HB4.out (Nat.le_refl _) hb5)
 have HN5 := Lib.hid (HN4.out.below hb5)
 have HQ5 := Lib.hid (HQ4.out.below hb5)
 clear hb5 HRF HN4 HQ4 HB4
 go_wp2_with fail
 ((with_reducible refine (HEQ.out _ _ HN5.out HQ5.out).mono ?_))
 rintro e w6 ⟨rfl, n6, rfl⟩
 go_wp2_with fail
 go_ret
 exact ⟨by simp, below_drewN HB5.out _⟩
end
end Go.Proofs.YtnicnfchkdmieaaGreatDoor
