/- Sq Pa Ja -/
import Derived.Test.YtnicnfchkdmieaaGreatDoorYau
import Derived.Maps.AppendAt
import Derived.Test.YtnicnfchkdmieaaGreatDoorYaa
import Derived.Shelf.Strings.Builder1
import Derived.Lib.OthersKept
import Derived.Lib.AppendStr
set_option linter.unusedVariables false
set_option linter.unusedSimpArgs false
namespace Go.Proofs.YtnicnfchkdmieaaGreatDoor
section
open Go.RowKit
attribute [local go_sem] ByteArray.mk_append_mk bs_get bs_cut bs_end
theorem toI_nds (l : List Tok) (h : ∀ t ∈ l, TokOk t) : NdsOk (l.map Tok.toI) := by
 intro t ht
 obtain ⟨x, hx, rfl⟩ := List.mem_map.1 ht
 refine ⟨Nat.le_trans (h x hx).1 (by omega), ?_⟩
 show (0 : Int) ≤ (x.num : Int)
 omega
set_option maxRecDepth 100000 in
set_option maxHeartbeats 8000000 in
theorem parse_syn (s : List UInt8) (m : Int) (w : World) (hm : SynG m w) (hs : s.length ≤ 4611686018427380000) :
  Calls Tryz.prog 24 #[.string ⟨s.toArray⟩] w (ParsePost w (parseL s)) := by
 have HSC := Lib.hid (tScan_any s m w hs hm.1)
 have HG := Lib.hid hm
 obtain ⟨Z, hZ⟩ : ∃ Z, Hid (parseL s = Z) := ⟨_, Lib.hid rfl⟩
 have htok := scanL_ok s
 have hlen := scanL_len s
 obtain ⟨x, hx⟩ : ∃ x, scanL s = x := ⟨_, rfl⟩
 rw [hx] at HSC htok hlen
 have HZ0 : Hid (Z = if x.2.2 ≠ 0 then ([], (x.2.1 : Int), (x.2.2 : Int)) else parseT s.length (x.1.map Tok.toI)) := Lib.hid (by rw [← hZ.out]; unfold parseL; rw [hx])
 obtain ⟨tl, pos, er⟩ := x
 simp only at htok hlen HZ0
 unfold ScanPost at HSC
 simp only at HSC
 have HTOK := Lib.hid htok
 clear hx hm htok
 go_enter Tryz.func24, Tryz.ntmps24
 go_wp2_with fail
 ((with_reducible refine HSC.out.mono ?_))
 rintro e w1 ⟨v, rfl, hv, hb1⟩
 have HG1 := Lib.hid (HG.out.below hb1 HG.out.low)
 have HB1 := Lib.hid hb1
 have HV := Lib.hid hv
 obtain ⟨va, vc, rfl⟩ := hv.form
 clear hb1 hv HSC HG
 by_cases he : er = 0
 ·subst he
  have HZ1 : Hid (Z = parseT s.length (tl.map Tok.toI)) := Lib.hid (by rw [HZ0.out, if_neg (fun h => h rfl)])
  obtain ⟨T, hT⟩ : ∃ T, tl.map Tok.toI = T := ⟨_, rfl⟩
  obtain ⟨Y, hY⟩ : ∃ Y, Hid (progF T.length T.length [] T = Y) := ⟨_, Lib.hid rfl⟩
  have HZ2 : Hid (Z = parseR s.length Y) := Lib.hid (by rw [HZ1.out, hT, ← hY.out] <;> rfl)
  have HNG : Hid (NG Y) := Lib.hid (by rw [← hY.out]; exact progF_ng _ _ _ _ .nil (by rw [← hT]; exact toI_nds _ HTOK.out))
  have htl : T.length = tl.length := by rw [← hT, List.length_map]
  have HTB : Hid (TokB w1 w1.heap.size (.slice va tl.length vc) T) := Lib.hid (by rw [← hT]; exact HV.out.tokB)
  have HTG : Hid (TGood T) := Lib.hid (by rw [← hT]; exact toks_good HTOK.out)
  obtain ⟨b, hb⟩ : ∃ b, w1.heap.size = b := ⟨_, rfl⟩
  have HBE := Lib.hid hb
  have hal : Below b w1 (w1.alloc (psObj (.slice va tl.length vc) (s.length : Int) 0 (.slice none 0 0))) := (Below.refl _ _).alloc (by omega) _
  have hsz0 : b ≤ (w1.alloc (psObj (.slice va tl.length vc) (s.length : Int) 0 (.slice none 0 0))).heap.size := by rw [← hb]; exact hal.size
  have HP0 : Hid (PSt m s.length b b (w1.alloc (psObj (.slice va tl.length vc) (s.length : Int) 0 (.slice none 0 0))) T []) := Lib.hid (by
   have h1 := heap_alloc_new w1 (psObj (.slice va tl.length vc) (s.length : Int) 0 (.slice none 0 0))
   rw [hb] at h1
   have h2 := HTB.out
   rw [hb] at h2
   exact ⟨⟨_, _, _, h1, h2.below hal, NodesI.nil _ _⟩, Nat.le_refl _, hsz0, HG1.out.below hal (by rw [← hb]; exact HG1.out.low), by rw [← hb]; exact HG1.out.low, HTG.out⟩)
  have HL0 := Lib.hid hal
  clear hT HZ0 HZ1 HTOK HV hal hsz0 HG1 HTB HTG hb
  go_wp2_with fail
  rw [HBE.out]
  generalize w1.alloc (psObj (.slice va tl.length vc) (s.length : Int) 0 (.slice none 0 0)) = W0 at *
  have HSUBS := Lib.hid (sub_ok m s.length b b T.length)
  have hT6 : T.length ≤ 65536 := by omega
  go_loopw [29] (fun _ wr => ∃ (f : Nat) (ns : List Nd) (q : List TokI), q.length ≤ f ∧ q.length ≤ T.length ∧ ns.length + q.length ≤ T.length ∧ Hid (progF T.length f ns q = Y) ∧ Hid (PSt m s.length b b wr q ns) ∧ Hid (Below b w1 wr)) (fun _ wr => tokLen wr b)
  case atStart => exact ⟨T.length, [], T, Nat.le_refl _, Nat.le_refl _, by simp, hY, HP0, HL0⟩
  case round =>
   clear HP0 HL0 hY
   obtain ⟨f, ns, q, hqf, hqT, hnq, HX, HP, HB⟩ := hrel
   obtain ⟨w3, rfl⟩ : ∃ y : World, y = wr := ⟨_, rfl⟩
   have HTL : Hid (tokLen w3 b = q.length) := Lib.hid HP.out.tokLen
   obtain ⟨tv, bad, nv, k1, k2, k3⟩ := HP.out.ex
   obtain ⟨ta, tcap, rfl, tl2, tc⟩ := k2
   obtain ⟨na, nc, rfl⟩ := k3.form
   obtain ⟨c0, c1, c2, c3⟩ := cells4 k1
   have HN := Lib.hid k3
   clear k1 k3 tc
   cases q with
   | nil =>
     have HX2 : Hid (Y = .ok [] ns) := Lib.hid (by
      rw [← HX.out]
      cases f with
      | zero => rw [progF]
      | succ f => rw [progF, if_pos rfl])
     have HZ3 : Hid (Z = if validL ns = true then (ns, 0, 0) else ([], 0, 11)) := Lib.hid (by rw [HZ2.out, HX2.out] <;> rfl)
     have hnd : NdsOk ns := by
      have h := HNG.out
      rw [HX2.out] at h
      exact h.2
     have HVA := Lib.hid (valid_any m ns _ w3 (HN.out.sl hnd) HP.out.syn (by omega))
     have HBW : Hid (Below w.heap.size w w3) := Lib.hid (HB1.out.trans (HB.out.mono (by rw [← HBE.out]; exact HB1.out.size)))
     obtain ⟨vb, hvb⟩ : ∃ z, validL ns = z := ⟨_, rfl⟩
     rw [hvb] at HVA HZ3
     clear HX hnd hvb HX2 HZ2 HNG
     go_wp2_with fail
     ((with_reducible refine HVA.out.mono ?_))
     rintro e w4 ⟨rfl, hb4⟩
     have HB4 : Hid (Below w.heap.size w w4) := Lib.hid (bel_then HBW.out (Nat.le_refl _) hb4)
     have HN4 := Lib.hid (HN.out.below hb4)
     have hp4 := (HP.out.below hb4).ex
     obtain ⟨tv4, bad4, nv4, k1, k2, k3⟩ := hp4
     have e3 : w4.cell? ⟨b, 3, none⟩ = some (.slice na ns.length nc) := (hb4.cell (p := ⟨b, 3, none⟩) (World.block_lt_of_cell? w3 ⟨b, 3, none⟩ c3)).trans c3
     clear k1 k2 k3 hb4 c0 c1 c2 c3
     cases vb with
     | false =>
       have HZ4 : Hid (Z = ([], 0, 11)) := Lib.hid (by rw [HZ3.out] <;> rfl)
       go_wp2_with fail
       go_ret3
       unfold ParsePost
       rw [hZ.out, HZ4.out]
       exact ⟨_, rfl, NodesI.nil _ _, HB4.out⟩
     | true =>
       have HZ4 : Hid (Z = (ns, 0, 0)) := Lib.hid (by rw [HZ3.out] <;> rfl)
       go_wp2_with fail
       go_ret3
       unfold ParsePost
       rw [hZ.out, HZ4.out]
       exact ⟨_, rfl, HN4.out.base (by rw [← HBE.out]; exact HB1.out.size), HB4.out⟩
   | cons t q2 =>
     obtain ⟨f, rfl⟩ : ∃ g, f = g + 1 := ⟨f - 1, by simp at hqf; omega⟩
     have hq0 : (0 : Int) < ((t :: q2).length : Int) := by simp only [List.length_cons]; omega
     have HSUB : Hid (Calls Tryz.prog 47 #[.pointer (some ⟨b, 0, none⟩), .int .u8 68] w3 (SynPost m s.length b b w3 ns (subP T.length 68 (t :: q2)))) := Lib.hid (HSUBS.out 68 (t :: q2) ns w3 HP.out hqT (by omega))
     have hgood := subP_good T.length 68 (t :: q2)
     have HX2 : Hid (Y = match subP T.length 68 (t :: q2) with | .no x => .no x | .ok r1 n1 => progF T.length f (ns ++ n1) r1) := Lib.hid (by rw [← HX.out, progF, if_neg (by simp)] <;> rfl)
     cases hx : subP T.length 68 (t :: q2) with
     | no x =>
       rw [hx] at HSUB HX2
       have HZ3 : Hid (Z = ([], posT s.length x, 2)) := Lib.hid (by rw [HZ2.out, HX2.out] <;> rfl)
       clear hx hgood HX HP
       go_wp2_with fail
       ((with_reducible refine HSUB.out.mono ?_))
       rintro e w4 ⟨hb4, rfl, tv4, nv4, hbad⟩
       have HB4 : Hid (Below w.heap.size w w4) := Lib.hid ((HB1.out.trans (HB.out.mono (by rw [← HBE.out]; exact HB1.out.size))).trans (hb4.mono (by rw [← HBE.out]; exact HB1.out.size)))
       have k0 : ∀ x, Grows w4 x → x.cell? ⟨b, 2, none⟩ = _ := fun x h => (cells4 (blk_below hbad h)).2.2.1
       clear hb4 hbad c0 c1 c2 c3
       go_upto_region 7 with fail
       refine wp_region_plan (Grows _) 5 [.reads [0, 1, 2, 3, 4], .act 5, .act 6] (by kernel_rfl) (by kernel_rfl) (by kernel_rfl) (by kernel_rfl) (by kernel_rfl) (fun _ _ d _ _ h => by cases d <;> exact h) (Grows.self _) ?_
       refine wpPlan_reads ?_
       simp only [pickOps, List.drop_succ_cons, List.drop_zero, List.take_succ_cons, List.take_zero, List.cons_append, List.nil_append]
       repeat (go_big_quiet_step (first | (intro hb; rw [k0 _ hb]; exact ⟨rfl, rfl⟩)))
       refine wpQuiet_nil ?_
       clear k0
       refine wpPlan_act rfl ?_
       simp only [pickOps, List.drop_succ_cons, List.drop_zero, List.take_succ_cons, List.take_zero, List.cons_append, List.nil_append]
       go_wp2_with fail
       refine ⟨fun h => absurd h (by decide), ?_⟩
       refine wpPlan_act rfl ?_
       simp only [pickOps, List.drop_succ_cons, List.drop_zero, List.take_succ_cons, List.take_zero, List.cons_append, List.nil_append]
       go_wp2_with fail
       refine ⟨fun h => absurd h (by decide), wpPlan_nil ?_⟩
       go_wp2_with fail
       go_ret3
       unfold ParsePost
       rw [hZ.out, HZ3.out]
       exact ⟨_, rfl, NodesI.nil _ _, below_drewN HB4.out _⟩
     | ok r1 n1 =>
       rw [hx] at HSUB HX2 hgood
       obtain ⟨d, hd1, hd2, hd3, hd4⟩ := hgood
       have hr1 : r1.length + d = (t :: q2).length := by rw [hd3, List.length_drop]; omega
       have HX3 : Hid (progF T.length f (ns ++ n1) r1 = Y) := Lib.hid HX2.out.symm
       clear hx HX hd3 HP
       go_wp2_with fail
       ((with_reducible refine HSUB.out.mono ?_))
       rintro e w4 ⟨hb4, rfl, hp4⟩
       have HB4 : Hid (Below b w1 w4) := Lib.hid (HB.out.trans hb4)
       have HP4 := Lib.hid hp4
       clear hb4 hp4 c0 c1 c2 c3
       go_wp2_with fail
       go_roundw
       case rel => exact ⟨f, ns ++ n1, r1, by omega, by omega, by simp only [List.length_append]; omega, HX3, HP4, HB4⟩
       case measure => rw [HTL.out, HP4.out.tokLen]; omega
 ·have f1 : ((er : Int) != 0) = true := by rw [bne_iff_ne]; omega
  have HZ1 : Hid (Z = ([], (pos : Int), (er : Int))) := Lib.hid (by rw [HZ0.out, if_pos he])
  clear he HZ0
  go_wp2_with fail
  go_ret3
  unfold ParsePost
  rw [hZ.out, HZ1.out]
  exact ⟨_, rfl, NodesI.nil _ _, HB1.out⟩
end
section
open Go.RowKit
attribute [local go_sem] ByteArray.mk_append_mk bs_get bs_cut bs_end
def Keep (C : Nat) (w w' : World) : Prop := w.grownBy w' (some C)
theorem Keep.refl (C : Nat) (w : World) : Keep C w w := World.grownBy.refl w _
theorem Keep.trans {C : Nat} {a b c : World} (h : Keep C a b) (k : Keep C b c) : Keep C a c := World.grownBy.trans h k
theorem Keep.of {C : Nat} {w w' : World} (h : Below w.heap.size w w') : Keep C w w' := ⟨h.os, h.tape, h.output, h.size, fun k hk _ => h.block k hk⟩
theorem Keep.drewN {C : Nat} {a w : World} (h : Keep C a w) (n : Nat) : Keep C a (w.drewN n) := ⟨h.os, h.tape, h.output, h.size, h.block⟩
theorem Keep.setC {C : Nat} {a w : World} (h : Keep C a w) (j : Nat) (v : Value) : Keep C a (w.setCell ⟨C, j, none⟩ v) :=
 h.trans ⟨rfl, rfl, rfl, by simp [World.setCell], fun k hk hne => Below.heap_setCell _ _ _ _ (fun e => hne (by rw [e]))⟩
theorem Keep.below {C B : Nat} {w w' : World} (h : Keep C w w') (hB : B ≤ w.heap.size) (hC : B ≤ C) : Below B w w' :=
 ⟨h.os, h.tape, h.output, h.size, fun k hk => h.block k (by omega) (fun e => by injection e with e; omega)⟩
abbrev chObj (tv : Value) (i : Int) : Obj := .cells #[tv, .int .i64 i] 106 (0, 0)
theorem cells2 {w : World} {b t : Nat} {c0 c1 : Value} (h : w.heap[b]? = some (.cells #[c0, c1] t (0, 0))) : w.cell? ⟨b, 0, none⟩ = some c0 ∧ w.cell? ⟨b, 1, none⟩ = some c1 :=
 ⟨cell_of_row w b 0 _ _ (0, 0) h, cell_of_row w b 1 _ _ (0, 0) h⟩
def CSt (w : World) (C : Nat) : Prop := ∃ (a : Option Addr) (cap i : Nat) (l : List Int), w.heap[C]? = some (chObj (.slice a l.length cap) i) ∧ i ≤ l.length ∧ l.length ≤ 140737488351232 ∧
 (l ≠ [] → ∃ b off, a = some ⟨b, off, none⟩ ∧ b < C ∧ ∀ k (h : k < l.length), w.cell? ⟨b, off + k, none⟩ = some (.int .i64 l[k])) ∧ ∀ x ∈ l, -9223372036854775808 ≤ x ∧ x ≤ 9223372036854775807
theorem CSt.keep {w w' : World} {C : Nat} (h : CSt w C) (hk : Below w.heap.size w w') : CSt w' C := by
 obtain ⟨a, cap, i, l, h1, h2, h3, h4, h5⟩ := h
 refine ⟨a, cap, i, l, blk_below h1 hk, h2, h3, fun hn => ?_, h5⟩
 obtain ⟨b, off, ha, hb, hc⟩ := h4 hn
 exact ⟨b, off, ha, hb, fun k hkl => (hk.cell (p := ⟨b, off + k, none⟩) (World.block_lt_of_cell? w _ (hc k hkl))).trans (hc k hkl)⟩
theorem CSt.lt {w : World} {C : Nat} (h : CSt w C) : C < w.heap.size := by
 obtain ⟨a, cap, i, l, h1, _⟩ := h
 exact lt_of_block h1
theorem CSt.grown {w w' : World} {C : Nat} {row : Option Nat} (h : CSt w C) (hg : w.grownBy w' row) (hr : ∀ g, row = some g → C < g) : CSt w' C := by
 obtain ⟨a, cap, i, l, h1, h2, h3, h4, h5⟩ := h
 refine ⟨a, cap, i, l, blk_grown h1 hg (fun e => by have := hr C e.symm; omega), h2, h3, fun hn => ?_, h5⟩
 obtain ⟨b, off, ha, hb, hc⟩ := h4 hn
 exact ⟨b, off, ha, hb, fun k hkl => hg.cell (hc k hkl) (fun e => by have := hr b e.symm; omega)⟩
theorem Keep.grown {C : Nat} {w a b : World} {row : Option Nat} (h : Keep C w a) (hg : a.grownBy b row) (hr : ∀ g, row = some g → w.heap.size ≤ g) : Keep C w b :=
 ⟨hg.os.trans h.os, hg.tape.trans h.tape, hg.output.trans h.output, Nat.le_trans h.size hg.size, fun k hk hne => (hg.block k (Nat.lt_of_lt_of_le hk h.size) (fun e => by have := hr k e.symm; omega)).trans (h.block k hk hne)⟩
theorem cell_setC {w : World} {b C j : Nat} {p : Nat} {v u : Value} (h : w.cell? ⟨b, p, none⟩ = some v) (hb : b ≠ C) : (w.setCell ⟨C, j, none⟩ u).cell? ⟨b, p, none⟩ = some v :=
 (World.cell?_of_block (a := ⟨b, p, none⟩) (heap_setCell_other w ⟨C, j, none⟩ b u hb)).trans h
theorem quiet_sameP {P : Program} {f : FuncId} {args : Array Value} {w : World} {n : Nat} {v : Value}
  (h : Calls P f args (w.drewN n) fun e w' => e = .returned v ∧ w.drewN n = w') : Calls P f args (w.drewN n) fun e w'' => e = .returned v ∧ ∃ m, w'' = w.drewN m :=
 h.mono fun _ _ ⟨he, hm⟩ => ⟨he, n, hm.symm⟩
set_option maxHeartbeats 2000000 in
theorem next_any (C : Nat) (n : Int) (w : World) (h : CSt w C) (hn : 0 < n) (hn2 : n ≤ 9223372036854775807) :
  Calls Tryz.prog 32 #[.pointer (some ⟨C, 0, none⟩), .int .i64 n] w fun e w' => ∃ k : Nat, e = .returned (.int .i64 k) ∧ (k : Int) < n ∧ CSt w' C ∧ Keep C w w' := by
 have HC := Lib.hid h
 obtain ⟨a, cap, i, l, h1, h2, h3, h4, h5⟩ := h
 obtain ⟨c0, c1⟩ := cells2 h1
 by_cases hlt : i < l.length
 ·have hi1 : ¬ (i : Int) ≥ (l.length : Int) := by omega
  have hi2 : (i : Int) < (l.length : Int) := by omega
  obtain ⟨b, off, rfl, hbC, hc⟩ := h4 (by rintro rfl; simp at hlt)
  have hb : b ≠ C := by omega
  have k0 := hc i hlt
  have hx := h5 l[i] (List.getElem_mem hlt)
  have HST : Hid (∀ q, CSt ((w.drewN q).setCell ⟨C, 1, none⟩ (.int .i64 ((i : Int) + 1))) C) := Lib.hid (fun q => by
   refine ⟨some ⟨b, off, none⟩, cap, i + 1, l, ?_, by omega, h3, fun _ => ⟨b, off, rfl, hbC, fun k hk => ?_⟩, h5⟩
   ·have := heap_setCell_same (w.drewN q) _ 1 _ _ (.int .i64 ((i : Int) + 1)) h1
    rw [this]
    rfl
   ·exact cell_setC (w := w.drewN q) (hc k hk) hb)
  obtain ⟨x, hxe⟩ : ∃ x, l[i] = x := ⟨_, rfl⟩
  rw [hxe] at k0 hx
  have HMD := Lib.hid (fun w => mod_any x n w hn hn2)
  have hnn := modV_nonneg x n hn
  have hln := modV_lt x n hn
  obtain ⟨z, hz⟩ : ∃ z : Nat, modV x n = z := ⟨(modV x n).toNat, by omega⟩
  rw [hz] at HMD hln
  have f1 := free3 h1 1
  have d0 : ∀ q, ((w.drewN q).setCell ⟨C, 1, none⟩ (.int .i64 ((i : Int) + 1))).cell? ⟨C, 0, none⟩ = some (.slice (some ⟨b, off, none⟩) l.length cap) := fun q => by
   have := heap_setCell_same (w.drewN q) _ 1 _ _ (.int .i64 ((i : Int) + 1)) h1
   exact (cells2 (c0 := .slice (some ⟨b, off, none⟩) l.length cap) (c1 := .int .i64 ((i : Int) + 1)) (by rw [this] <;> rfl)).1
  have d1 : ∀ q, ((w.drewN q).setCell ⟨C, 1, none⟩ (.int .i64 ((i : Int) + 1))).cell? ⟨C, 1, none⟩ = some (.int .i64 ((i : Int) + 1)) := fun q => by
   have := heap_setCell_same (w.drewN q) _ 1 _ _ (.int .i64 ((i : Int) + 1)) h1
   exact (cells2 (c0 := .slice (some ⟨b, off, none⟩) l.length cap) (c1 := .int .i64 ((i : Int) + 1)) (by rw [this] <;> rfl)).2
  have d2 : ∀ q, ((w.drewN q).setCell ⟨C, 1, none⟩ (.int .i64 ((i : Int) + 1))).cell? ⟨b, off + i, none⟩ = some (.int .i64 x) := fun q => cell_setC (w := w.drewN q) k0 hb
  have HKP : Hid (∀ q, Keep C w ((w.drewN q).setCell ⟨C, 1, none⟩ (.int .i64 ((i : Int) + 1)))) := Lib.hid (fun q => ((Keep.refl C w).drewN q).setC 1 _)
  clear h1 h4 h5 hc hxe hz hnn
  go_enter Tryz.func32, Tryz.ntmps32
  go_upto_region 1 with fail
  go_quiet (fail)
  go_wp2_with fail
  go_upto_region 4 with fail
  have e0 := d0 nq
  have e1 := d1 nq
  have e2 := d2 nq
  have HS2 := Lib.hid (HST.out nq)
  have HK2 := Lib.hid (HKP.out nq)
  clear d0 d1 d2 HST HKP c0 c1 k0 f1
  generalize (w.drewN nq).setCell ⟨C, 1, none⟩ (.int .i64 ((i : Int) + 1)) = W at e0 e1 e2 HS2 HK2 ⊢
  have hwr : IntKind.i64.wrap (i : Int) = (i : Int) := by rw [IntKind.wrap_i64]; omega
  go_quiet ((go_at_call 14; with_reducible refine quiet_sameP (HMD.out _)))
  go_wp2_with fail
  go_ret
  exact ⟨z, rfl, hln, HS2.out.keep (below_drewN (Below.refl _ _) _), HK2.out.drewN _⟩
 ·have hi1 : (i : Int) ≥ (l.length : Int) := by omega
  clear h4 h5 h1
  go_enter Tryz.func32, Tryz.ntmps32
  go_upto_region 1 with fail
  go_quiet (fail)
  go_wp2_with fail
  go_ret
  exact ⟨0, rfl, by omega, HC.out.keep (below_drewN (Below.refl _ _) _), (Keep.refl C w).drewN _⟩
theorem left_any (C : Nat) (w : World) (h : CSt w C) :
  Calls Tryz.prog 33 #[.pointer (some ⟨C, 0, none⟩)] w fun e w' => ∃ b, e = .returned (.bool b) ∧ CSt w' C ∧ Keep C w w' := by
 have HC := Lib.hid h
 obtain ⟨a, cap, i, l, h1, h2, h3, h4, h5⟩ := h
 obtain ⟨c0, c1⟩ := cells2 h1
 clear h1 h4 h5
 go_enter Tryz.func33, Tryz.ntmps33
 go_upto_region 1 with fail
 go_quiet (fail)
 go_wp2_with fail
 go_ret
 exact ⟨_, rfl, HC.out.keep (below_drewN (Below.refl _ _) _), (Keep.refl C w).drewN _⟩
def IArg (w : World) (v : Value) (l : List Int) : Prop :=
 ∃ (a : Option Addr) (cap : Nat), v = .slice a l.length cap ∧ l.length ≤ 140737488351232 ∧ (l ≠ [] → ∃ b off, a = some ⟨b, off, none⟩ ∧ ∀ k (h : k < l.length), w.cell? ⟨b, off + k, none⟩ = some (.int .i64 l[k])) ∧ ∀ x ∈ l, -9223372036854775808 ≤ x ∧ x ≤ 9223372036854775807
theorem new_any (v : Value) (l : List Int) (w : World) (h : IArg w v l) :
  Calls Tryz.prog 31 #[v] w fun e w' => e = .returned (.pointer (some ⟨w.heap.size, 0, none⟩)) ∧ CSt w' w.heap.size ∧ Below w.heap.size w w' := by
 obtain ⟨a, cap, rfl, hl, hc, hx⟩ := h
 have HC : Hid (CSt (w.alloc (chObj (.slice a l.length cap) 0)) w.heap.size) := Lib.hid (by
  refine ⟨a, cap, 0, l, heap_alloc_new _ _, Nat.zero_le _, hl, fun hn => ?_, hx⟩
  obtain ⟨b, off, ha, hk⟩ := hc hn
  have hb : b < w.heap.size := World.block_lt_of_cell? w ⟨b, off + 0, none⟩ (hk 0 (List.length_pos_iff.2 hn))
  exact ⟨b, off, ha, hb, fun k hkl => (Below.cell ((Below.refl _ _).alloc (Nat.le_refl _) _) (p := ⟨b, off + k, none⟩) hb).trans (hk k hkl)⟩)
 have HB : Hid (Below w.heap.size w (w.alloc (chObj (.slice a l.length cap) 0))) := Lib.hid ((Below.refl _ _).alloc (Nat.le_refl _) _)
 clear hc hx
 go_enter Tryz.func31, Tryz.ntmps31
 go_wp2_with fail
 go_ret
 exact ⟨rfl, HC.out, HB.out⟩
abbrev segO : Obj := .cells #[.string ⟨#[65]⟩, .string ⟨#[66]⟩, .string ⟨#[67]⟩, .string ⟨#[68, 69, 86, 48]⟩, .string ⟨#[80, 87, 82, 48]⟩, .string ⟨#[95, 83, 84, 65]⟩, .string ⟨#[77, 84, 88]⟩, .string ⟨#[69, 86, 84]⟩, .string ⟨#[70, 49]⟩, .string ⟨#[77]⟩] 9
def segL : List (List UInt8) := [[65], [66], [67], [68, 69, 86, 48], [80, 87, 82, 48], [95, 83, 84, 65], [77, 84, 88], [69, 86, 84], [70, 49], [77]]
theorem seg_at : ∀ k : Fin 10, ∃ x ∈ segL, segL[k.val]? = some x ∧ x.length ≤ 4 := by decide +kernel
theorem seg_cell {w : World} {A : Nat} (h : w.heap[A]? = some segO) (k : Nat) (hk : k < 10) : ∃ x : List UInt8, x.length ≤ 4 ∧ w.cell? ⟨A, k, none⟩ = some (.string ⟨x.toArray⟩) := by
 obtain ⟨x, _, h1, h2⟩ := seg_at ⟨k, hk⟩
 refine ⟨x, h2, ?_⟩
 rw [cell_of_row w A k _ _ (0, 0) h]
 have e : (segL.map strV).toArray[k]? = some (strV x) := by
  have h1' : segL[k]? = some x := h1
  rw [List.getElem?_toArray, List.getElem?_map, h1']
  rfl
 exact e
theorem seg_any (n : Int) (w : World) :
  Calls Tryz.prog 64 #[.int .i64 n] w fun e w' => ∃ s : List UInt8, e = .returned (.string ⟨s.toArray⟩) ∧ s.length ≤ 4 ∧ Below w.heap.size w w' := by
 have hA : (w.alloc segO).heap[w.heap.size]? = some segO := heap_alloc_new _ _
 have HB : Hid (Below w.heap.size w (w.alloc segO)) := Lib.hid ((Below.refl _ _).alloc (Nat.le_refl _) _)
 have hnn := modV_nonneg n 10 (by omega)
 have hln := modV_lt n 10 (by omega)
 obtain ⟨z, hz⟩ : ∃ z : Nat, modV n 10 = z := ⟨(modV n 10).toNat, by omega⟩
 have HMD := Lib.hid (fun w => mod_any n 10 w (by omega) (by omega))
 rw [hz] at HMD hln
 obtain ⟨x, hx, c0⟩ := seg_cell hA z (by omega)
 have hz10 : (z : Int) < 10 := hln
 clear hA hnn hz
 go_enter Tryz.func64, Tryz.ntmps64
 go_upto_region 2 with fail
 obtain ⟨A, hAe⟩ : ∃ A, w.heap.size = A := ⟨_, rfl⟩
 have HAE := Lib.hid hAe
 rw [hAe] at c0
 (try simp only [hAe])
 clear hAe
 generalize w.alloc segO = W at c0 HB ⊢
 go_wp2_with fail
 ((with_reducible refine (HMD.out _).mono ?_))
 rintro e w1 ⟨rfl, rfl⟩
 go_wp2_with fail
 go_ret
 exact ⟨x, rfl, hx, HB.out⟩
end
section
open Go.RowKit
def WrQ (w : World) (B b : Nat) (p : Value) (l : List UInt8) (q : Value) : Prop :=
 B ≤ b ∧ ∃ v, w.heap[b]? = some (.cells #[p, q, v] 77 (0, 0)) ∧ w.ownsRow B 5 1 v l.length (Lib.byteCells l) ∧ v.ownBlock ≠ some b
def Wr (w : World) (B b : Nat) (p : Value) (l : List UInt8) : Prop := (WrQ w B b p l (.pointer none) ∨ WrQ w B b p l (.pointer (some ⟨b, 1, none⟩))) ∧ B ≤ w.heap.size
def KeptW (b : Nat) (w w' : World) : Prop := Lib.OthersKept 5 (some b) w w'
theorem KeptW.blk {b : Nat} {w w' : World} (h : KeptW b w w') {k : Nat} {cs : Array Value} {t : Nat} (hk : w.heap[k]? = some (.cells cs t (0, 0))) (hb : k ≠ b) (ht : t ≠ 5) : w'.heap[k]? = some (.cells cs t (0, 0)) :=
 h k _ hk (fun e => hb (by injection e)) (fun c fz e => by injection e with _ e _; exact ht e)
theorem KeptW.trans {b : Nat} {w w' w'' : World} (h : KeptW b w w') (h' : KeptW b w' w'') : KeptW b w w'' := Lib.OthersKept.trans h h'
theorem KeptW.refl (b : Nat) (w : World) : KeptW b w w := Lib.OthersKept.refl _ _ _
theorem KeptW.of {b : Nat} {w w' : World} (h : Below w.heap.size w w') : KeptW b w w' := fun k o hk _ _ => (h.block k (lt_of_block hk)).trans hk
theorem WrQ.below {w w' : World} {B b : Nat} {p q : Value} {l : List UInt8} (h : WrQ w B b p l q) (hb : Below w.heap.size w w') : WrQ w' B b p l q := by
 obtain ⟨h1, v, h2, h3, h4⟩ := h
 exact ⟨h1, v, blk_below h2 hb, own_below h3 hb, h4⟩
theorem Wr.below {w w' : World} {B b : Nat} {p : Value} {l : List UInt8} (h : Wr w B b p l) (hb : Below w.heap.size w w') : Wr w' B b p l := by
 obtain ⟨h1, h2⟩ := h
 exact ⟨h1.elim (fun h => .inl (h.below hb)) (fun h => .inr (h.below hb)), Nat.le_trans h2 hb.size⟩
theorem Wr.alloc {w : World} {B b : Nat} {p : Value} {l : List UInt8} (h : Wr w B b p l) (o : Obj) : Wr (w.alloc o) B b p l := h.below ((Below.refl _ _).alloc (Nat.le_refl _) o)
theorem WrQ.lt {w : World} {B b : Nat} {p q : Value} {l : List UInt8} (h : WrQ w B b p l q) : b < w.heap.size := by
 obtain ⟨_, v, h2, _⟩ := h
 exact lt_of_block h2
theorem Wr.lt {w : World} {B b : Nat} {p : Value} {l : List UInt8} (h : Wr w B b p l) : b < w.heap.size := h.1.elim (fun h => h.lt) (fun h => h.lt)
theorem Wr.base {w : World} {B b : Nat} {p : Value} {l : List UInt8} (h : Wr w B b p l) : B ≤ b := h.1.elim (fun h => h.1) (fun h => h.1)
theorem Wr.prog {w : World} {B b : Nat} {p : Value} {l : List UInt8} (h : Wr w B b p l) : w.cell? ⟨b, 0, none⟩ = some p := by
 rcases h.1 with ⟨_, v, h2, _⟩ | ⟨_, v, h2, _⟩ <;> (rw [Lib.cell_of_heap h2] <;> rfl)
theorem own_kind {w : World} {B : Nat} {e : TypeId} {v : Value} {n : Nat} {xs : List Value} (h : w.ownsRow B e 1 v n xs) : ∀ g, v.ownBlock = some g → ∃ c fz, w.heap[g]? = some (.cells c e fz) := by
 intro g hg
 rcases h.2 with ⟨rfl, _⟩ | ⟨g', cap, cur, rfl, _, hgg, _⟩
 ·simp [Value.ownBlock] at hg
 ·simp [Value.ownBlock] at hg
  subst hg
  exact ⟨_, _, hgg⟩
theorem WrQ.put {w : World} {B b : Nat} {p q : Value} {v v' : Value} {l : List UInt8} (hB : B ≤ b) (hb : w.heap[b]? = some (.cells #[p, q, v] 77 (0, 0))) (hown : w.ownsRow B 5 1 v' l.length (Lib.byteCells l)) :
  WrQ (w.setCell ⟨b, 2, none⟩ v') B b p l q := by
 have hlt : b < w.heap.size := lt_of_block hb
 have hne : v'.ownBlock ≠ some b := by
  intro e
  obtain ⟨c, fz, h⟩ := own_kind hown b e
  rw [hb] at h
  injection h with h
  injection h with _ h _
  exact absurd h (by decide)
 refine ⟨hB, v', ?_, ?_, hne⟩
 ·simp [World.setCell, Array.getElem?_modify, hb]
 ·exact hown.kept (row := some b) ⟨rfl, rfl, rfl, by simp [World.setCell], fun k _ hk => Below.heap_setCell _ _ _ _ (fun e => hk (by simp [e]))⟩ (Or.inr hne)
theorem WrQ.used {w : World} {B b : Nat} {p q : Value} {l : List UInt8} (h : WrQ w B b p l q) (q' : Value) : WrQ (w.setCell ⟨b, 1, none⟩ q') B b p l q' := by
 obtain ⟨hB, v, hb, hown, hne⟩ := h
 refine ⟨hB, v, ?_, ?_, hne⟩
 ·simp [World.setCell, Array.getElem?_modify, hb]
 ·exact hown.kept (row := some b) ⟨rfl, rfl, rfl, by simp [World.setCell], fun k _ hk => Below.heap_setCell _ _ _ _ (fun e => hk (by simp [e]))⟩ (Or.inr hne)
theorem infoB : (Tryz.prog.info? 75).map (fun i => i.size) = some 2 := by kernel_rfl
theorem infoU : (Tryz.prog.info? 5).map (fun i => (i.zero, i.size, i.bytes)) = some (some (.int .u8 0), 1, 1) := by kernel_rfl
theorem liesB : liesAt Tryz.prog Tryz.prog.depth 77 (3 / Tryz.prog.cellsOf 77) 1 75 1 = true := by kernel_rfl
theorem ptrB : Tryz.prog.underlying 73 = some (.pointer 75) := by kernel_rfl
theorem unsB : Tryz.prog.underlying 153 = some .unsafePointer := by kernel_rfl
set_option maxRecDepth 100000 in
set_option maxHeartbeats 2000000 in
theorem wcheck_any (B b : Nat) (p : Value) (l : List UInt8) (w : World) (h : Wr w B b p l) :
  Calls Tryz.prog 83 #[.pointer (some ⟨b, 1, none⟩)] w fun e w' => e = .returned (.tuple #[]) ∧ WrQ w' B b p l (.pointer (some ⟨b, 1, none⟩)) ∧ Below B w w' ∧ KeptW b w w' := by
 obtain ⟨j, hj, hjs⟩ := Option.map_eq_some_iff.1 infoB
 rcases h.1 with h | h
 ·obtain ⟨hB, v, hb, hown, hne⟩ := h
  have c1 : w.cell? ⟨b, 1, none⟩ = some (.pointer none) := by rw [Lib.cell_of_heap hb]; rfl
  have hsh : w.shape? b = some (77, 3) := by simp [World.shape?, hb]
  have f1 : w.frozen? ⟨b, 1, none⟩ = false := Lib.frozen_of_heap hb 1
  have HQ := Lib.hid (WrQ.used ⟨hB, v, hb, hown, hne⟩ (.pointer (some ⟨b, 1, none⟩)))
  have HU1 := Lib.hid (Lib.run_to_unsafe (P := Tryz.prog) w ⟨b, 1, none⟩ ptrB unsB hj (by rw [hjs]; decide) hsh (by show 1 < 3; omega))
  have HU2 := Lib.hid (Lib.run_from_unsafe (P := Tryz.prog) w ⟨b, 1, none⟩ unsB ptrB hj hsh liesB)
  have HB := Lib.hid hB
  clear hb hown hne hsh hj hjs hB
  go_enter Tryz.func83, Tryz.ntmps83
  go_wp2_with fail
  rw [HU1.out]
  simp only [Result.andThen]
  rw [Oper.upon_value]
  go_wp2_with fail
  rw [run_callFunc_extern Tryz.func128 (by kernel_rfl) (by kernel_rfl) (by kernel_rfl) (e := Extern.AbiNoEscape.same) (by kernel_rfl)]
  rw [Lib.run_noEscape]
  simp only [Result.andThen]
  rw [Oper.upon_value]
  go_wp2_with fail
  rw [HU2.out]
  simp only [Result.andThen]
  rw [Oper.upon_value]
  go_wp2_with fail
  go_end0
  exact ⟨rfl, HQ.out, (Below.refl B w).setCell (p := ⟨b, 1, none⟩) HB.out _, (Lib.OthersKept.refl _ _ _).setCell ⟨b, 1, none⟩ rfl _⟩
 ·obtain ⟨hB, v, hb, hown, hne⟩ := h
  have c1 : w.cell? ⟨b, 1, none⟩ = some (.pointer (some ⟨b, 1, none⟩)) := by rw [Lib.cell_of_heap hb]; rfl
  have HQ := Lib.hid (show WrQ w B b p l (.pointer (some ⟨b, 1, none⟩)) from ⟨hB, v, hb, hown, hne⟩)
  have HJ := Lib.hid hj
  clear hb hown hne hj hjs hB
  go_enter Tryz.func83, Tryz.ntmps83
  go_wp2_with fail
  rw [Lib.run_neq_ptr_same w _ ptrB HJ.out]
  go_wp2_with fail
  go_end0
  exact ⟨rfl, HQ.out, Below.refl _ _, KeptW.refl _ _⟩
theorem put_ready {w1 w2 : World} {B b n : Nat} {p q v v' : Value} {xs : List Value} (hbk : w1.heap[b]? = some (.cells #[p, q, v] 77 (0, 0))) (hg : w1.grownBy w2 v.ownBlock) (hne : v.ownBlock ≠ some b) (ho : w2.ownsRow B 5 1 v' n xs) :
  w2.heap[b]? = some (.cells #[p, q, v] 77 (0, 0)) ∧ ∃ ao n' cap, v' = .slice ao n' cap := by
 refine ⟨by rw [hg.block b (lt_of_block hbk) (fun e => hne e.symm)]; exact hbk, ?_⟩
 rcases ho.2 with ⟨hv, _⟩ | ⟨g, cap, cur, hv, _⟩
 ·exact ⟨_, _, _, hv⟩
 ·exact ⟨_, _, _, hv⟩
theorem one_cell {w : World} {g : Nat} {x : Value} {t : Nat} (h : w.heap[g]? = some (.cells #[x] t (0, 0))) : ∀ (j : Nat) (u : Value), ([x] : List Value)[j]? = some u → w.cell? ((⟨g, 0, none⟩ : Addr).add j) = some u := by
 intro j u hj
 match j, hj with
 | 0, hj => cases hj; exact (by rw [show (⟨g, 0, none⟩ : Addr).add 0 = ⟨g, 0, none⟩ by simp [Addr.add], Lib.cell_of_heap h] <;> rfl)
def WrPo (w : World) (B b : Nat) (p : Value) (l : List UInt8) (w' : World) : Prop := Wr w' B b p l ∧ Below B w w' ∧ KeptW b w w'
set_option maxRecDepth 100000 in
set_option maxHeartbeats 2000000 in
theorem jstr_any (B b : Nat) (p : Value) (l s : List UInt8) (w : World) (h : Wr w B b p l) (hlen : l.length + s.length ≤ 140737488355328) :
  Calls Tryz.prog 78 #[.pointer (some ⟨b, 1, none⟩), .string ⟨s.toArray⟩] w fun e w' => e = .returned (.tuple #[.int .i64 s.length, .nilIface]) ∧ WrPo w B b p (l ++ s) w' := by
 obtain ⟨i0, hi, hz0, hz1, hz2⟩ := info_parts infoU
 have HI := Lib.hid hi
 have HZ0 := Lib.hid hz0
 have HZ1 := Lib.hid hz1
 have HZ2 := Lib.hid hz2
 have HC := Lib.hid (wcheck_any B b p l w h)
 have hBw : B ≤ w.heap.size := h.2
 have HSS : Hid ((⟨s.toArray⟩ : ByteArray).size = s.length) := Lib.hid (by rw [ByteArray.size_mk', List.size_toArray])
 clear h hi hz0 hz1 hz2
 go_enter Tryz.func78, Tryz.ntmps78
 go_wp2_with fail
 ((with_reducible refine HC.out.mono ?_))
 rintro e w1 ⟨rfl, h1, hb1, hk1⟩
 obtain ⟨hB, v, hbk, hown, hne⟩ := h1
 have c2 : w1.cell? ⟨b, 2, none⟩ = some v := by rw [Lib.cell_of_heap hbk]; rfl
 have HOW := Lib.hid hown
 have HBK := Lib.hid hbk
 have HB1 := Lib.hid hb1
 have HK1 := Lib.hid hk1
 have HNE := Lib.hid hne
 have HB := Lib.hid hB
 clear hown hbk hb1 hk1 hne hB HC
 go_wp2_with (at_builtin; refine Lib.wpList_append_own_string (P := Tryz.prog) _ rfl _ _ 22 9 rfl B 5 i0 (by kernel_rfl) (by kernel_rfl) HI.out HZ0.out HZ1.out HZ2.out v l.length (Lib.byteCells l) rfl HOW.out ⟨s.toArray⟩ rfl (by rw [HSS.out]; unfold maxLen; omega) (by rw [HSS.out]; exact hlen) (by have := HB1.out.size; omega) ?_; intro v' w2 ho hg _; have HO2 := Lib.hid ho; have HG2 := Lib.hid hg; clear ho hg; obtain ⟨hb2, ⟨ao, n', cap, rfl⟩⟩ := put_ready HBK.out HG2.out HNE.out HO2.out; have HB2 := Lib.hid hb2; have d2 : w2.cell? ⟨b, 2, none⟩ = some v := (by rw [Lib.cell_of_heap hb2] <;> rfl); have f2 : w2.frozen? ⟨b, 2, none⟩ = false := Lib.frozen_of_heap hb2 2; clear hb2)
 go_ret2
 have ho : w2.ownsRow B 5 1 (.slice ao n' cap) (l ++ s).length (Lib.byteCells (l ++ s)) := by
  rw [List.length_append, Lib.byteCells_append]
  exact HO2.out
 refine ⟨rfl, ⟨.inr (WrQ.put HB.out HB2.out ho), ?_⟩, ?_, ?_⟩
 ·have h1 := HB1.out.size
  have h2 := HG2.out.size
  simp only [World.size_setCell]
  omega
 ·exact (HB1.out.grown HG2.out (by have := HB1.out.size; omega) (fun k hk => (HOW.out.lt k hk).1)).setCell (p := ⟨b, 2, none⟩) HB.out _
 ·exact (Lib.OthersKept.grown HK1.out HG2.out (own_kind HOW.out)).setCell ⟨b, 2, none⟩ rfl _
set_option maxRecDepth 100000 in
set_option maxHeartbeats 2000000 in
theorem jbyte_any (B b : Nat) (p : Value) (l : List UInt8) (c : UInt8) (w : World) (h : Wr w B b p l) (hlen : l.length + 1 ≤ 140737488355328) :
  Calls Tryz.prog 45 #[.pointer (some ⟨b, 1, none⟩), .int .u8 c.toNat] w fun e w' => e = .returned .nilIface ∧ WrPo w B b p (l ++ [c]) w' := by
 obtain ⟨i0, hi, hz0, hz1, hz2⟩ := info_parts infoU
 have HI := Lib.hid hi
 have HZ0 := Lib.hid hz0
 have HZ1 := Lib.hid hz1
 have HZ2 := Lib.hid hz2
 have HC := Lib.hid (wcheck_any B b p l w h)
 have hBw : B ≤ w.heap.size := h.2
 clear h hi hz0 hz1 hz2
 go_enter Tryz.func45, Tryz.ntmps45
 go_wp2_with fail
 ((with_reducible refine HC.out.mono ?_))
 rintro e w1 ⟨rfl, h1, hb1, hk1⟩
 obtain ⟨hB, v, hbk, hown, hne⟩ := h1
 have c2 : w1.cell? ⟨b, 2, none⟩ = some v := by rw [Lib.cell_of_heap hbk]; rfl
 have hbz : B ≤ w1.heap.size := by have := hb1.size; omega
 have HOW := Lib.hid (hown.alloc (.cells #[.int .u8 c.toNat] 5))
 have HBK : Hid ((w1.alloc (.cells #[.int .u8 c.toNat] 5)).heap[b]? = some (.cells #[p, .pointer (some ⟨b, 1, none⟩), v] 77 (0, 0))) := Lib.hid (by rw [Lib.alloc_old w1 _ b (lt_of_block hbk)]; exact hbk)
 have HB1 := Lib.hid (hb1.alloc hbz (.cells #[.int .u8 c.toNat] 5))
 have HK1 : Hid (KeptW b w (w1.alloc (.cells #[.int .u8 c.toNat] 5))) := Lib.hid (Lib.OthersKept.alloc hk1 _)
 have HN1 : Hid ((w1.alloc (.cells #[.int .u8 c.toNat] 5)).heap[w1.heap.size]? = some (.cells #[.int .u8 c.toNat] 5 (0, 0))) := Lib.hid (heap_alloc_new _ _)
 have hsz : B ≤ (w1.alloc (.cells #[.int .u8 c.toNat] 5)).heap.size := Nat.le_trans hBw HB1.out.size
 have HNE := Lib.hid hne
 have HB := Lib.hid hB
 clear hown hbk hb1 hk1 hne hB HC
 go_wp2_with (at_builtin; refine wpList_append_own (P := Tryz.prog) _ rfl _ _ 22 rfl B 5 i0 (.int .u8 0) 1 1 (by kernel_rfl) HI.out HZ0.out HZ1.out HZ2.out rfl (by decide) v l.length (Lib.byteCells l) rfl HOW.out ⟨w1.heap.size, 0, none⟩ 1 1 [.int .u8 c.toNat] rfl rfl (one_cell HN1.out) (by intro u hu; simp at hu; subst hu; rfl) (by unfold maxLen; omega) (by omega) hsz ?_; intro v' w2 ho hg _; have HO2 := Lib.hid ho; have HG2 := Lib.hid hg; clear ho hg; obtain ⟨hb2, ⟨ao, n', cap, rfl⟩⟩ := put_ready HBK.out HG2.out HNE.out HO2.out; have HB2 := Lib.hid hb2; have d2 : w2.cell? ⟨b, 2, none⟩ = some v := (by rw [Lib.cell_of_heap hb2] <;> rfl); have f2 : w2.frozen? ⟨b, 2, none⟩ = false := Lib.frozen_of_heap hb2 2; clear hb2)
 go_ret
 have ho : w2.ownsRow B 5 1 (.slice ao n' cap) (l ++ [c]).length (Lib.byteCells (l ++ [c])) := by
  rw [List.length_append, Lib.byteCells_append]
  exact HO2.out
 refine ⟨rfl, ⟨.inr (WrQ.put HB.out HB2.out ho), ?_⟩, ?_, ?_⟩
 ·have h2 := HG2.out.size
  simp only [World.size_setCell]
  omega
 ·exact (HB1.out.grown HG2.out hsz (fun k hk => (HOW.out.lt k hk).1)).setCell (p := ⟨b, 2, none⟩) HB.out _
 ·exact (Lib.OthersKept.grown HK1.out HG2.out (own_kind HOW.out)).setCell ⟨b, 2, none⟩ rfl _
set_option maxRecDepth 100000 in
set_option maxHeartbeats 4000000 in
theorem jstring_any (B b : Nat) (p : Value) (l : List UInt8) (w : World) (h : Wr w B b p l) (h0 : l ≠ []) :
  Calls Tryz.prog 46 #[.pointer (some ⟨b, 1, none⟩)] w fun e w' => e = .returned (.string ⟨l.toArray⟩) ∧ Below B w w' := by
 obtain ⟨q, hB, v, hbk, hown, hne⟩ : ∃ q, WrQ w B b p l q := by
  rcases h.1 with h | h
  ·exact ⟨_, h⟩
  ·exact ⟨_, h⟩
 have hl0 : l.length ≠ 0 := by simpa using h0
 obtain ⟨g, cap, cur, rfl, hbg, hg, hnc, hcm, hcs, htake⟩ : ∃ g cap cur, v = .slice (some ⟨g, 0, none⟩) l.length cap ∧ B ≤ g ∧ w.heap[g]? = some (.cells cur 5 (0, 0)) ∧ l.length ≤ cap ∧ cap ≤ maxLen ∧ cur.size = cap * 1 ∧ cur.toList.take (l.length * 1) = Lib.byteCells l := by
  rcases hown.2 with ⟨_, hz⟩ | ⟨g, cap, cur, hv, r⟩
  ·exact absurd hz hl0
  ·exact ⟨g, cap, cur, hv, r⟩
 have c2 : w.drew.cell? ⟨b, 2, none⟩ = some (.slice (some ⟨g, 0, none⟩) l.length cap) := by
  have : w.drew.heap[b]? = some (.cells #[p, q, .slice (some ⟨g, 0, none⟩) l.length cap] 77 (0, 0)) := hbk
  rw [Lib.cell_of_heap this]; rfl
 have hSD : (Builtin.unsafeSliceData_ #[22] 122 #[.slice (some ⟨g, 0, none⟩) l.length cap]).run Tryz.prog w.drew = .ok (.pointer (some ⟨g, 0, none⟩)) w.drew :=
  Lib.run_unsafeSliceData_row _ _ _ _ _ _ (by omega)
 have hUS : (Builtin.unsafeString_ #[122, 3] 9 #[.pointer (some ⟨g, 0, none⟩), .int .i64 l.length]).run Tryz.prog w.drew = .ok (.string ⟨l.toArray⟩) (w.drew.freeze ⟨g, 0, none⟩ l.length) := by
  refine Lib.run_unsafeString_row w.drew 122 3 9 5 (by kernel_rfl) (by kernel_rfl) g cur.size (by have hg' : w.drew.heap[g]? = some (.cells cur 5 (0, 0)) := hg; simp [World.shape?, hg']) l h0 (by omega) (by unfold maxLen at hcm; omega) ?_
  intro j x hx
  have := hown.cells (g := g) rfl j (.int .u8 x.toNat) (by simp [Lib.byteCells, hx])
  exact this
 have HBG := Lib.hid hbg
 have mixed : Tryz.prog.follows Departure.mixedOrders = true := by kernel_rfl
 clear hown hbk hne hg htake hcs h
 go_enter Tryz.func46, Tryz.ntmps46
 go_wp2_with fail
 go_region_o
 all_goals (go_wp2; go_ret; exact ⟨rfl, Lib.below_freeze (Below.drew (Below.refl B w)) (p := ⟨g, 0, none⟩) HBG.out _⟩)
set_option maxRecDepth 100000 in
set_option maxHeartbeats 4000000 in
theorem jstring_nil (B b : Nat) (p q : Value) (w : World) (hbk : w.heap[b]? = some (.cells #[p, q, .slice none 0 0] 77 (0, 0))) :
  Calls Tryz.prog 46 #[.pointer (some ⟨b, 1, none⟩)] w fun e w' => e = .returned (.string ⟨#[]⟩) ∧ Below B w w' := by
 have hUS : ∀ (W : World) (q : Option Addr), (Builtin.unsafeString_ #[122, 3] 9 #[.pointer q, .int .i64 0]).run Tryz.prog W = .ok (.string .empty) W := fun W q => Lib.run_unsafeString_none W _ _ _ q
 have c2 : w.drew.cell? ⟨b, 2, none⟩ = some (.slice none 0 0) := by
  have : w.drew.heap[b]? = some (.cells #[p, q, .slice none 0 0] 77 (0, 0)) := hbk
  rw [Lib.cell_of_heap this]; rfl
 have hSD : (Builtin.unsafeSliceData_ #[22] 122 #[.slice none 0 0]).run Tryz.prog w.drew = .ok (.pointer none) w.drew := rfl
 have mixed : Tryz.prog.follows Departure.mixedOrders = true := by kernel_rfl
 clear hbk
 go_enter Tryz.func46, Tryz.ntmps46
 go_wp2_with fail
 go_region_o
 all_goals (go_wp2; go_ret; exact ⟨rfl, Below.drew (Below.refl B w)⟩)
end
end Go.Proofs.YtnicnfchkdmieaaGreatDoor
