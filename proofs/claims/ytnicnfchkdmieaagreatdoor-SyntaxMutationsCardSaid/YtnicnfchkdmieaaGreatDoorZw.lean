/- Rt Sr St Ru -/
import Derived.Test.YtnicnfchkdmieaaGreatDoorZu
import Derived.Test.YtnicnfchkdmieaaGreatDoorZRq
import Derived.Test.YtnicnfchkdmieaaGreatDoorZn
set_option linter.unusedVariables false
set_option linter.unusedSimpArgs false
namespace Go.Proofs.YtnicnfchkdmieaaGreatDoor
section
open Go.RowKit
attribute [local go_sem] ByteArray.mk_append_mk bs_get bs_cut bs_end
def NdsS (l : List Nd) : Prop := ∀ t ∈ l, t.str.length ≤ 65536 ∧ 0 ≤ t.num
theorem NdsS.app {a b : List Nd} (h : NdsS a) (k : NdsS b) : NdsS (a ++ b) := fun t ht => by
 rcases List.mem_append.1 ht with ht | ht
 ·exact h t ht
 ·exact k t ht
theorem NdsS.cons {a : List Nd} {n : Nd} (hn : n.str.length ≤ 65536 ∧ 0 ≤ n.num) (h : NdsS a) : NdsS (n :: a) := fun t ht => by
 rcases List.mem_cons.1 ht with rfl | ht
 ·exact hn
 ·exact h t ht
theorem NdsS.tail {a : List Nd} (h : NdsS a) : NdsS a.tail := fun t ht => h t (List.mem_of_mem_tail ht)
theorem NdsS.nil : NdsS [] := fun t ht => by cases ht
def NGS (x : PR) : Prop := match x with
 | .no _ => True
 | .ok r ns => NdsS r ∧ NdsS ns
section
variable {sub : UInt8 → List TokI → PR} (hs : ∀ k r, NdsS r → NGS (sub k r))
include hs
theorem callL_nst (text : List UInt8) (ht : text.length ≤ 65536) : ∀ (f m : Nat) (ns : List Nd) (r : List TokI), NdsS ns → NdsS r → NGS (callL sub text f m ns r)
 | 0, m, ns, r, h, hr => trivial
 | f + 1, m, ns, r, h, hr => by
   rw [callL]
   have hk := hs 101 r hr
   cases hx : sub 101 r with
   | no x => trivial
   | ok r1 n1 =>
     rw [hx] at hk
     simp only []
     split
     ·split
      ·exact ⟨hk.1.tail, .cons ⟨ht, by show (0 : Int) ≤ 0; omega⟩ (h.app hk.2)⟩
      ·trivial
     ·exact callL_nst text ht f (m + 1) _ _ (h.app hk.2) hk.1.tail
theorem nameP_nst (k : UInt8) (text : List UInt8) (ht : text.length ≤ 65536) (r : List TokI) (hr : NdsS r) : NGS (nameP sub k text r) := by
 unfold nameP
 split
 ·trivial
 split
 ·trivial
 split
 ·unfold callP
  split
  ·exact ⟨hr.tail.tail.tail, .cons ⟨ht, by show (0 : Int) ≤ 0; omega⟩ .nil⟩
  ·exact callL_nst hs text ht 7 0 [] _ .nil hr.tail.tail
 split
 ·trivial
 ·exact ⟨hr.tail, .cons ⟨ht, by show (0 : Int) ≤ 0; omega⟩ .nil⟩
theorem blockL_nst (k : UInt8) : ∀ (f m : Nat) (ns : List Nd) (r : List TokI), NdsS ns → NdsS r → NGS (blockL sub k f m ns r)
 | 0, m, ns, r, h, hr => trivial
 | f + 1, m, ns, r, h, hr => by
   rw [blockL]
   split
   ·exact ⟨hr.tail, .cons ⟨by simp, by show (0 : Int) ≤ 0; omega⟩ h⟩
   split
   ·trivial
   have hr2 : NdsS (if listB k = true ∧ 0 < m then r.tail else r) := by split; exact hr.tail; exact hr
   have hk := hs k _ hr2
   cases hx : sub k (if listB k = true ∧ 0 < m then r.tail else r) with
   | no x => trivial
   | ok r1 n1 => rw [hx] at hk; exact blockL_nst k f (m + 1) _ _ (h.app hk.2) hk.1
theorem blockP_nst (k : UInt8) (r : List TokI) (hr : NdsS r) : NGS (blockP sub k r) := by
 unfold blockP
 split
 ·exact blockL_nst hs k _ 0 [] _ .nil hr.tail
 ·trivial
theorem argsL_nst : ∀ (ks : List UInt8) (first : Bool) (ns : List Nd) (r : List TokI), NdsS ns → NdsS r → NGS (argsL sub ks first ns r)
 | [], first, ns, r, h, hr => by rw [argsL]; split; exact ⟨hr.tail, h⟩; trivial
 | k :: ks, first, ns, r, h, hr => by
   rw [argsL]
   split
   ·split; exact ⟨hr.tail, h⟩; trivial
   split
   ·trivial
   have hr2 : NdsS (if first = false then r.tail else r) := by split; exact hr.tail; exact hr
   have hk := hs k _ hr2
   cases hx : sub k (if first = false then r.tail else r) with
   | no x => trivial
   | ok r1 n1 => rw [hx] at hk; exact argsL_nst ks false _ _ (h.app hk.2) hk.1
theorem blksL_nst : ∀ (ks : List UInt8) (ns : List Nd) (r : List TokI), NdsS ns → NdsS r → NGS (blksL sub ks ns r)
 | [], ns, r, h, hr => by rw [blksL]; exact ⟨hr, h⟩
 | k :: ks, ns, r, h, hr => by
   rw [blksL]
   have hk := blockP_nst hs k r hr
   cases hx : blockP sub k r with
   | no x => trivial
   | ok r1 n1 => rw [hx] at hk; exact blksL_nst ks _ _ (h.app hk.2) hk.1
theorem opsP_nst (kinds : List UInt8) (r : List TokI) (hr : NdsS r) : NGS (opsP sub kinds r) := by
 unfold opsP
 split
 ·exact ⟨hr, .nil⟩
 split
 ·trivial
 have ha := argsL_nst hs kinds true [] r.tail .nil hr.tail
 cases hx : argsL sub kinds true [] r.tail with
 | no x => trivial
 | ok r1 n1 => rw [hx] at ha; exact blksL_nst hs _ _ _ ha.2 ha.1
theorem wordP_nst (k : UInt8) (w : List UInt8) (r : List TokI) (hr : NdsS r) : NGS (wordP sub k w r) := by
 unfold wordP
 cases hv : varW w with
 | some x =>
   obtain ⟨op, n⟩ := x
   simp only []
   split
   ·exact ⟨hr.tail, .cons ⟨by simp, by show (0 : Int) ≤ (n : Int); omega⟩ .nil⟩
   ·trivial
 | none =>
   simp only []
   split
   ·trivial
   split
   ·split
    ·have := opsP_nst hs [101] r.tail hr.tail
     cases hx : opsP sub [101] r.tail with
     | no x => trivial
     | ok x ns => rw [hx] at this; exact ⟨this.1, .cons ⟨by simp, by show (0 : Int) ≤ 0; omega⟩ this.2⟩
    ·exact ⟨hr.tail, .cons ⟨by simp, by show (0 : Int) ≤ 0; omega⟩ .nil⟩
   ·have := opsP_nst hs (formP (opW w)).2 r.tail hr.tail
    cases hx : opsP sub (formP (opW w)).2 r.tail with
    | no x => trivial
    | ok x ns =>
      rw [hx] at this
      simp only []
      split
      ·have hb := blockP_nst hs 83 x.tail this.1.tail
       cases hy : blockP sub 83 x.tail with
       | no z => trivial
       | ok r2 n2 => rw [hy] at hb; exact ⟨hb.1, .cons ⟨by simp, by show (0 : Int) ≤ 0; omega⟩ (this.2.app hb.2)⟩
      ·exact ⟨this.1, .cons ⟨by simp, by show (0 : Int) ≤ 0; omega⟩ this.2⟩
end
theorem subP_nst : ∀ (f : Nat) (k : UInt8) (r : List TokI), NdsS r → NGS (subP f k r)
 | 0, k, r, hr => trivial
 | f + 1, k, r, hr => by
   cases r with
   | nil => trivial
   | cons t q =>
     have ht := hr t (by simp)
     unfold subP
     simp only []
     split
     ·exact nameP_nst (subP_nst f) _ _ ht.1 _ hr
     split
     ·exact wordP_nst (subP_nst f) _ _ _ hr
     split
     ·exact ⟨hr.tail, .cons ⟨by simp, ht.2⟩ .nil⟩
     split
     ·exact ⟨hr.tail, .cons ⟨ht.1, by show (0 : Int) ≤ 0; omega⟩ .nil⟩
     ·trivial
theorem progF_nst (F : Nat) : ∀ (f : Nat) (ns : List Nd) (r : List TokI), NdsS ns → NdsS r → NGS (progF F f ns r)
 | 0, ns, r, h, hr => by rw [progF]; exact ⟨hr, h⟩
 | f + 1, ns, r, h, hr => by
   rw [progF]
   split
   ·exact ⟨.nil, h⟩
   have hk := subP_nst F 68 r hr
   cases hx : subP F 68 r with
   | no x => trivial
   | ok r1 n1 => rw [hx] at hk; exact progF_nst F f _ _ (h.app hk.2) hk.1
theorem toI_ndsS (l : List Tok) (h : ∀ t ∈ l, TokOk t) : NdsS (l.map Tok.toI) := by
 intro t ht
 obtain ⟨x, hx, rfl⟩ := List.mem_map.1 ht
 refine ⟨(h x hx).1, ?_⟩
 show (0 : Int) ≤ (x.num : Int)
 omega
set_option maxRecDepth 100000 in
set_option maxHeartbeats 8000000 in
theorem rparse_syn (s : List UInt8) (m : Int) (w : World) (hm : SynG m w) (hs : s.length ≤ 4611686018427380000) :
 Calls Tryz.prog 27 #[.string ⟨s.toArray⟩] w (ParsePost w (parseL s)) := by
 have HSC := Lib.hid (rScan_any s w hs)
 have HG := Lib.hid hm
 obtain ⟨Z, hZ⟩ : ∃ Z, Hid (parseL s = Z) := ⟨_, Lib.hid rfl⟩
 have htok := scanL_ok s
 have hlen := scanL_len s
 obtain ⟨x, hx⟩ : ∃ x, scanL s = x := ⟨_, rfl⟩
 rw [hx] at HSC htok hlen
 have HZ0 : Hid (Z = if x.2.2 ≠ 0 then ([], (x.2.1 : Int), (x.2.2 : Int)) else parseT s.length (x.1.map Tok.toI)) := Lib.hid (by rw [← hZ.out]; unfold parseL; rw [hx])
 obtain ⟨tl, pos, er⟩ := x
 simp only at htok hlen HZ0
 unfold ScanPost at HSC
 simp only at HSC
 have HTOK := Lib.hid htok
 rw [hZ.out]
 clear hx hm htok hZ
 go_enter Tryz.func27, Tryz.ntmps27
 go_wp2_with fail
 ((with_reducible refine HSC.out.mono ?_))
 rintro e w1 ⟨v, rfl, hv, hb1⟩
 have HG1 := Lib.hid (HG.out.below hb1 HG.out.low)
 have HB1 := Lib.hid hb1
 have HV := Lib.hid hv
 obtain ⟨va, vc, rfl⟩ := hv.form
 clear hb1 hv HSC HG
 by_cases he : er = 0
 ·subst he
  have HZ1 : Hid (Z = parseT s.length (tl.map Tok.toI)) := Lib.hid (by rw [HZ0.out, if_neg (fun h => h rfl)])
  obtain ⟨T, hT⟩ : ∃ T, tl.map Tok.toI = T := ⟨_, rfl⟩
  obtain ⟨Y, hY⟩ : ∃ Y, Hid (progF T.length T.length [] T = Y) := ⟨_, Lib.hid rfl⟩
  have HZ2 : Hid (Z = parseR s.length Y) := Lib.hid (by rw [HZ1.out, hT, ← hY.out] <;> rfl)
  have HNG : Hid (NGS Y) := Lib.hid (by rw [← hY.out]; exact progF_nst _ _ _ _ .nil (by rw [← hT]; exact toI_ndsS _ HTOK.out))
  have htl : tl.length = T.length := by rw [← hT, List.length_map]
  have HTB : Hid (TokB w1 w1.heap.size (.slice va tl.length vc) T) := Lib.hid (by rw [← hT]; exact HV.out.tokB)
  have HTG : Hid (TGood T) := Lib.hid (by rw [← hT]; exact toks_good HTOK.out)
  obtain ⟨b, hb⟩ : ∃ b, w1.heap.size = b := ⟨_, rfl⟩
  have HBE := Lib.hid hb
  rw [htl] at HTB hlen ⊢
  have hal : Below b w1 (w1.alloc (rpObj (.slice va T.length vc) 0 (.slice none 0 0) (-1))) := (Below.refl _ _).alloc (by omega) _
  have hsz0 : b ≤ (w1.alloc (rpObj (.slice va T.length vc) 0 (.slice none 0 0) (-1))).heap.size := by rw [← hb]; exact hal.size
  have HP0 : Hid (RSt m b b (w1.alloc (rpObj (.slice va T.length vc) 0 (.slice none 0 0) (-1))) T 0 (-1) []) := Lib.hid (by
   have h1 := heap_alloc_new w1 (rpObj (.slice va T.length vc) 0 (.slice none 0 0) (-1))
   rw [hb] at h1
   have h2 := HTB.out
   rw [hb] at h2
   exact ⟨⟨_, _, h1, h2.below hal, NodesI.nil _ _⟩, Nat.le_refl _, hsz0, HG1.out.below hal (by rw [← hb]; exact HG1.out.low), by rw [← hb]; exact HG1.out.low, HTG.out, Nat.zero_le _, by omega, by omega, by simp⟩)
  have HL0 := Lib.hid hal
  have HV1 : Hid (∀ (i : Nat) (t : TokI) (q : List TokI), T.drop i = t :: q → ∃ g off, va = some ⟨g, off, none⟩ ∧ g < b ∧ i < T.length ∧ TAt w1 g (off + i * 4) t) := Lib.hid (fun i t q hd => by
   obtain ⟨g, off, cap, hva, h1, h2, h3⟩ := HTB.out.drop_cells hd
   injection hva with hva _ _
   exact ⟨g, off, hva, by rw [← hb]; exact h1, h2, h3⟩)
  have hT6 : T.length ≤ 65536 := by omega
  clear hT HZ0 HZ1 HTOK HV hal hsz0 HG1 HTB HTG hb htl hlen
  go_wp2_with fail
  rw [HBE.out]
  generalize w1.alloc (rpObj (.slice va T.length vc) 0 (.slice none 0 0) (-1)) = W0 at HP0 HL0 ⊢
  have HSUBS := Lib.hid (rnode_ok m b b T (by omega) T.length)
  have HREL : Hid (∃ z, W0 = z ∧ ((∃ (f : Nat) (ns : List Nd) (i : Nat), (T.drop i).length ≤ f ∧ Hid (progF T.length f ns (T.drop i) = Y) ∧ Hid (RSt m b b z T i (-1) ns) ∧ Hid (Below b w1 z)) ∨ (∃ (i jf : Nat) (o' : List Nd), Hid (Y = .no (T.drop jf)) ∧ Hid (RSt m b b z T i jf o') ∧ Hid (Below b w1 z)))) := Lib.hid ⟨_, rfl, .inl ⟨T.length, [], 0, by simp, hY, HP0, HL0⟩⟩
  clear HP0 HL0 hY
  go_loopw [39] (fun _ wr => Hid ((∃ (f : Nat) (ns : List Nd) (i : Nat), (T.drop i).length ≤ f ∧ Hid (progF T.length f ns (T.drop i) = Y) ∧ Hid (RSt m b b wr T i (-1) ns) ∧ Hid (Below b w1 wr)) ∨ (∃ (i jf : Nat) (o' : List Nd), Hid (Y = .no (T.drop jf)) ∧ Hid (RSt m b b wr T i jf o') ∧ Hid (Below b w1 wr)))) (fun _ wr => rLeft wr b)
  case atStart =>
   obtain ⟨z, rfl, h⟩ := HREL.out
   exact Lib.hid h
  case round =>
   clear HREL
   rcases hrel.out with ⟨f, ns, i, hqf, HX, HP, HB⟩ | ⟨i, jf, o', HXF, HP, HB⟩
   ·clear hrel
    obtain ⟨w3, rfl⟩ : ∃ y : World, y = wr := ⟨_, rfl⟩
    have HLF : Hid (rLeft w3 b = 1 + (T.length - i)) := Lib.hid (by rw [HP.out.left, if_neg (by omega)])
    have hix := HP.out.ix
    have hol := HP.out.ol
    obtain ⟨tv, nv, k1, k2, k3⟩ := HP.out.ex
    obtain ⟨ta, tcap, rfl, tl2, tc⟩ := k2
    obtain ⟨na, nc, rfl⟩ := k3.form
    obtain ⟨c0, c1, c2, c3⟩ := cells4 k1
    have HN := Lib.hid k3
    clear k1 k3 tc
    by_cases hlt : i < T.length
    ·have hlt' : (i : Int) < (T.length : Int) := by omega
     obtain ⟨f, rfl⟩ : ∃ g, f = g + 1 := ⟨f - 1, by rw [List.length_drop] at hqf; omega⟩
     have hne : T.drop i ≠ [] := by intro e; have := congrArg List.length e; rw [List.length_drop] at this; simp at this; omega
     have HX2 : Hid (Y = match subP T.length 68 (T.drop i) with | .no x => .no x | .ok r1 n1 => progF T.length f (ns ++ n1) r1) := Lib.hid (by rw [← HX.out, progF, if_neg hne] <;> rfl)
     have hgood := subP_good T.length 68 (T.drop i)
     clear HX
     go_upto_region 5 with fail
     go_quiet (fail)
     go_wp2_with fail
     have HP4 : Hid (RSt m b b (w3.drewN nq) T i (-1) ns) := Lib.hid (HP.out.below (below_drewN (Below.refl _ _) _))
     have HB4 : Hid (Below b w1 (w3.drewN nq)) := Lib.hid (below_drewN HB.out _)
     clear c0 c1 c2 c3
     generalize w3.drewN nq = W4 at HP4 HB4 ⊢
     have HSUB : Hid (Calls Tryz.prog 50 #[.pointer (some ⟨b, 0, none⟩), .int .u8 68] W4 (RPost m b b T W4 ns (subP T.length 68 (T.drop i)))) := Lib.hid (HSUBS.out 68 i ns W4 HP4.out (by omega))
     cases hx : subP T.length 68 (T.drop i) with
     | no x =>
       rw [hx] at HSUB HX2
       have HX3 : Hid (Y = .no x) := HX2
       clear hx hgood
       ((with_reducible refine HSUB.out.mono ?_))
       rintro e w6 ⟨rfl, hb6, i6, j6, o6, rfl, hp6⟩
       have HB6 : Hid (Below b w1 w6) := Lib.hid (HB4.out.trans hb6)
       have HP6 := Lib.hid hp6
       clear hb6 hp6
       go_wp2_with fail
       go_roundw
       case rel => refine Lib.hid ?_; exact .inr ⟨i6, j6, o6, HX3, HP6, HB6⟩
       case measure => rw [HLF.out, HP6.out.left, if_pos (by omega)]; omega
     | ok x n1 =>
       rw [hx] at HSUB HX2 hgood
       have HX3 : Hid (progF T.length f (ns ++ n1) x = Y) := Lib.hid HX2.out.symm
       obtain ⟨d, hd1, hd2, hd3, hd4⟩ := hgood
       have HGOOD := Lib.hid hd3
       clear hx hd3
       ((with_reducible refine HSUB.out.mono ?_))
       rintro e w6 ⟨rfl, hb6, i6, hi6, hp6⟩
       have hlt6 : i < i6 := good_drop hp6.ix hi6 HGOOD.out hd1 hd2
       have hix6 := hp6.ix
       subst hi6
       have HB6 : Hid (Below b w1 w6) := Lib.hid (HB4.out.trans hb6)
       have HP6 := Lib.hid hp6
       have hf6 : (T.drop i6).length ≤ f := by rw [List.length_drop] at hqf ⊢; omega
       clear hb6 hp6
       go_wp2_with fail
       go_roundw
       case rel => refine Lib.hid ?_; exact .inl ⟨f, ns ++ n1, i6, hf6, HX3, HP6, HB6⟩
       case measure => rw [HLF.out, HP6.out.left, if_neg (by omega)]; omega
    ·have hlt' : ¬ (i : Int) < (T.length : Int) := by omega
     have HX2 : Hid (Y = .ok [] ns) := Lib.hid (by
      rw [← HX.out, List.drop_eq_nil_of_le (by omega)]
      cases f with
      | zero => rw [progF]
      | succ f => rw [progF, if_pos rfl])
     have HZ3 : Hid (Z = if validL ns = true then (ns, 0, 0) else ([], 0, 11)) := Lib.hid (by rw [HZ2.out, HX2.out] <;> rfl)
     have hnd : NdsS ns := by
      have h := HNG.out
      rw [HX2.out] at h
      exact h.2
     obtain ⟨vb, hvb⟩ : ∃ z, validL ns = z := ⟨_, rfl⟩
     have HVA := Lib.hid (fun (x : World) (hx : Below w3.heap.size w3 x) => rvalid_is ns (fun t ht => Nat.le_trans (hnd t ht).1 (by decide)) vb (Lib.hid hvb) (.slice na ns.length nc) x ((HN.out.below hx).sl (fun t ht => ⟨Nat.le_trans (hnd t ht).1 (by omega), (hnd t ht).2⟩)) (by omega))
     rw [hvb] at HZ3
     clear HX hvb HX2 HZ2 HNG hlt hnd HLF
     go_upto_region 5 with fail
     go_quiet (fail)
     go_wp2_with fail
     ((with_reducible refine (HVA.out _ (below_drewN (Below.refl _ _) _)).mono ?_))
     rintro e w4 ⟨rfl, hb4⟩
     have hb34 : Below w3.heap.size w3 w4 := bel_then (below_drewN (Below.refl _ _) _) (Nat.le_refl _) hb4
     have HBW : Hid (Below w.heap.size w w4) := Lib.hid ((HB1.out.trans (HB.out.mono (by rw [← HBE.out]; exact HB1.out.size))).trans (hb34.mono (by have := HP.out.size; have := HB1.out.size; have := HBE.out; omega)))
     have HN4 := Lib.hid (HN.out.below hb34)
     have e2 : w4.cell? ⟨b, 2, none⟩ = some (.slice na ns.length nc) := (hb34.cell (p := ⟨b, 2, none⟩) (World.block_lt_of_cell? w3 ⟨b, 2, none⟩ c2)).trans c2
     clear hb4 hb34 c0 c1 c2 c3
     cases vb with
     | false =>
       have HZ4 : Hid (Z = ([], 0, 11)) := Lib.hid (by rw [HZ3.out] <;> rfl)
       go_wp2_with fail
       go_ret3
       unfold ParsePost
       rw [HZ4.out]
       exact ⟨_, rfl, NodesI.nil _ _, HBW.out⟩
     | true =>
       have HZ4 : Hid (Z = (ns, 0, 0)) := Lib.hid (by rw [HZ3.out] <;> rfl)
       go_wp2_with fail
       go_ret3
       unfold ParsePost
       rw [HZ4.out]
       exact ⟨_, rfl, HN4.out.base (by rw [← HBE.out]; exact HB1.out.size), HBW.out⟩
   ·clear hrel
    obtain ⟨w3, rfl⟩ : ∃ y : World, y = wr := ⟨_, rfl⟩
    have HZ3 : Hid (Z = ([], posT s.length (T.drop jf), 2)) := Lib.hid (by rw [HZ2.out, HXF.out] <;> rfl)
    obtain ⟨⟨tv, nv, k1, k2, k3⟩, _⟩ := HP.out
    obtain ⟨c0, c1, c2, c3⟩ := cells4 k1
    obtain ⟨Fv, hFv⟩ : ∃ Fv : Int, (jf : Int) = Fv := ⟨_, rfl⟩
    have hF3 : decide (Fv < 0) = false := decide_eq_false (by omega)
    have hF4 : Fv ≥ 0 := by omega
    rw [hFv] at c3
    have HFV := Lib.hid hFv
    have HBW : Hid (Below w.heap.size w w3) := Lib.hid (HB1.out.trans (HB.out.mono (by rw [← HBE.out]; exact HB1.out.size)))
    clear k1 k2 k3 hFv c0 c1 c2
    go_upto_region 5 with fail
    have k3 : ∀ x, Grows (w3) x → x.cell? ⟨b, 3, none⟩ = some _ := fun x hx => (hx.cell (p := ⟨b, 3, none⟩) (World.block_lt_of_cell? _ ⟨b, 3, none⟩ c3)).trans c3
    refine wp_region_plan (Grows (w3)) 17 [.reads [0, 1, 2, 3, 4, 5, 6, 7, 8, 9, 10, 11, 12, 13, 14, 15, 16]] (by kernel_rfl) (by kernel_rfl) (by kernel_rfl) (by kernel_rfl) (by kernel_rfl) (fun _ _ d _ _ h => by cases d <;> exact h) (Grows.self _) ?_
    refine wpPlan_reads ?_
    simp only [pickOps, List.drop_succ_cons, List.drop_zero, List.take_succ_cons, List.take_zero, List.cons_append, List.nil_append]
    repeat (go_big_quiet_step ((intro hb; rw [k3 _ hb]; exact ⟨rfl, rfl⟩)))
    (try simp only [hF3])
    repeat (go_big_quiet_step (fail))
    refine wpQuiet_nil ?_
    clear k3
    refine wpPlan_nil ?_
    have d3b : w3.drew.cell? ⟨b, 3, none⟩ = some (.int .i64 Fv) := c3
    have d3 : (w3.drewN 1).cell? ⟨b, 3, none⟩ = some (.int .i64 Fv) := c3
    have HBX : Hid (Below w.heap.size w (w3.drewN 1)) := Lib.hid (below_drewN HBW.out _)
    have HBY : Hid (Below b w1 (w3.drewN 1)) := Lib.hid (below_drewN HB.out _)
    clear c3 HBW HB HP
    cases hd : T.drop jf with
    | nil =>
      have hge : ¬ Fv < (T.length : Int) := by
       have := congrArg List.length hd
       rw [List.length_drop] at this
       simp only [List.length_nil] at this
       have := HFV.out
       omega
      have HZ4 : Hid (Z = ([], (s.length : Int), 2)) := Lib.hid (by rw [HZ3.out, hd] <;> rfl)
      clear hd
      go_wp2_with fail
      go_ret3
      unfold ParsePost
      rw [HZ4.out]
      exact ⟨_, rfl, NodesI.nil _ _, HBX.out⟩
    | cons t q =>
      obtain ⟨g, off, rfl, hgb, hjl, t0, t1, t2, t3⟩ := HV1.out jf t q hd
      have hge : Fv < (T.length : Int) := by have := HFV.out; omega
      have HZ4 : Hid (Z = ([], t.pos, 2)) := Lib.hid (by rw [HZ3.out, hd] <;> rfl)
      have HT3 : Hid ((w3.drewN 1).cell? ⟨g, off + jf * 4 + 3, none⟩ = some (.int .i64 t.pos)) := Lib.hid ((HBY.out.cell (p := ⟨g, off + jf * 4 + 3, none⟩) hgb).trans t3)
      clear hd t0 t1 t2 t3
      go_upto_region 8 with fail
      have e0 : Fv = (jf : Int) := HFV.out.symm
      clear HFV
      subst e0
      have k3 : ∀ x, Grows (w3.drewN 1) x → x.cell? ⟨b, 3, none⟩ = some _ := fun x hx => (hx.cell (p := ⟨b, 3, none⟩) (World.block_lt_of_cell? _ ⟨b, 3, none⟩ d3)).trans d3
      have ht3 := HT3.out
      have q3 : ∀ x, Grows (w3.drewN 1) x → x.cell? ⟨g, off + jf * 4 + 3, none⟩ = some _ := fun x hx => (hx.cell (p := ⟨g, off + jf * 4 + 3, none⟩) (World.block_lt_of_cell? _ ⟨g, off + jf * 4 + 3, none⟩ ht3)).trans ht3
      refine wp_region_plan (Grows (w3.drewN 1)) 9 [.reads [0, 1, 2, 3, 4, 5, 6, 7, 8], .act 9, .act 10] (by kernel_rfl) (by kernel_rfl) (by kernel_rfl) (by kernel_rfl) (by kernel_rfl) (fun _ _ d _ _ h => by cases d <;> exact h) (Grows.self _) ?_
      refine wpPlan_reads ?_
      simp only [pickOps, List.drop_succ_cons, List.drop_zero, List.take_succ_cons, List.take_zero, List.cons_append, List.nil_append]
      repeat (go_big_quiet_step (first | (intro hb; rw [k3 _ hb]; exact ⟨rfl, rfl⟩) | (intro hb; rw [q3 _ hb]; exact ⟨rfl, rfl⟩)))
      refine wpQuiet_nil ?_
      clear k3 q3
      refine wpPlan_act rfl ?_
      simp only [pickOps, List.drop_succ_cons, List.drop_zero, List.take_succ_cons, List.take_zero, List.cons_append, List.nil_append]
      go_wp2_with fail
      refine ⟨fun h => absurd h (by decide), ?_⟩
      refine wpPlan_act rfl ?_
      simp only [pickOps, List.drop_succ_cons, List.drop_zero, List.take_succ_cons, List.take_zero, List.cons_append, List.nil_append]
      go_wp2_with fail
      refine ⟨fun h => absurd h (by decide), wpPlan_nil ?_⟩
      go_wp2_with fail
      go_ret3
      unfold ParsePost
      rw [HZ4.out]
      exact ⟨_, rfl, NodesI.nil _ _, below_drewN HBX.out 1⟩
 ·have f1 : ((er : Int) != 0) = true := by rw [bne_iff_ne]; omega
  have HZ1 : Hid (Z = ([], (pos : Int), (er : Int))) := Lib.hid (by rw [HZ0.out, if_pos he])
  clear he HZ0
  go_wp2_with fail
  go_ret3
  unfold ParsePost
  rw [HZ1.out]
  exact ⟨_, rfl, NodesI.nil _ _, HB1.out⟩
theorem rparse_is (s : List UInt8) (ns : List Nd) (pos er m : Int) (H : Hid (parseL s = (ns, pos, er))) (w : World) (hm : SynG m w) (hs : s.length ≤ 4611686018427380000) :
 Calls Tryz.prog 27 #[.string ⟨s.toArray⟩] w fun e w' => ∃ v, e = .returned (.tuple #[v, .int .i64 pos, .int .i64 er]) ∧ NodesI w' w.heap.size v ns ∧ Below w.heap.size w w' := by
 have := rparse_syn s m w hm hs
 unfold ParsePost at this
 rw [H.out] at this
 exact this
end
section
open Go.RowKit
attribute [local go_sem] ByteArray.mk_append_mk bs_get bs_cut bs_end
theorem nd_eqIn (a b d a' b' d' : Int) (s s' : List UInt8) (w : World) : (Op.equalIn 10000 42 (.agg #[.int .i64 a, .int .u64 b, .string ⟨s.toArray⟩, .int .i64 d]) (.agg #[.int .i64 a', .int .u64 b', .string ⟨s'.toArray⟩, .int .i64 d'])).run Tryz.prog w = .ok (a == a' && b == b' && s == s' && d == d') w := by
 have hS : Tryz.prog.underlying 42 = some (.struct (Tryz.prog.fieldsOf 42)) := by kernel_rfl
 have hp : Tryz.prog.stoodInHeld 42 = false := by kernel_rfl
 rw [show (10000 : Nat) = 9999 + 1 from rfl, run_equalIn_agg w 9999 42 _ _ hS hp]
 simp only [Program.fieldsOf, Tryz.underlying42]
 have u3 := Tryz.underlying3
 have u5 := Tryz.underlying35
 have u9 := Tryz.underlying9
 go_simp
 by_cases h1 : a = a' <;> by_cases h2 : b = b' <;> by_cases h3 : s = s' <;> by_cases h4 : d = d' <;> simp [h1, h2, h3, h4]
theorem nd_neq (a b d a' b' d' : Int) (s s' : List UInt8) (w : World) : (binOp .neq 42 (.agg #[.int .i64 a, .int .u64 b, .string ⟨s.toArray⟩, .int .i64 d]) (.agg #[.int .i64 a', .int .u64 b', .string ⟨s'.toArray⟩, .int .i64 d'])).run Tryz.prog w = .ok (.bool (!(a == a' && b == b' && s == s' && d == d'))) w := by
 rw [run_neq_struct, nd_eqIn]; rfl
theorem nd_same (a b d : Int) (s : List UInt8) (w : World) : (binOp .neq 42 (.agg #[.int .i64 a, .int .u64 b, .string ⟨s.toArray⟩, .int .i64 d]) (.agg #[.int .i64 a, .int .u64 b, .string ⟨s.toArray⟩, .int .i64 d])).run Tryz.prog w = .ok (.bool false) w := by
 rw [nd_neq]; simp
theorem NSl.cells {w : World} {a : Option Addr} {n c : Nat} {l : List Nd} (h : NSl w (.slice a n c) l) (i : Nat) (hi : i < l.length) : ∃ b off, a = some ⟨b, off, none⟩ ∧ TAt w b (off + i * 4) l[i] := by
 obtain ⟨⟨a', cap', hv, hc⟩, _⟩ := h
 injection hv with e1 _ _
 subst e1
 obtain ⟨b, off, e, hk⟩ := hc (by rintro rfl; simp at hi)
 exact ⟨b, off, e, hk i hi⟩
set_option maxRecDepth 100000 in
set_option maxHeartbeats 4000000 in
theorem equal_nodes (va vb : Value) (l : List Nd) (w : World) (h1 : NSl w va l) (h2 : NSl w vb l) (hl : l.length ≤ 9223372036854770000) :
 Calls Tryz.prog 25 #[va, vb] w fun e w' => e = .returned (.bool true) ∧ ∃ n, w' = w.drewN n := by
 have H1 := h1
 have H2 := h2
 obtain ⟨⟨a1, p1, rfl, hc1⟩, _⟩ := H1
 obtain ⟨⟨a2, p2, rfl, hc2⟩, _⟩ := H2
 have K1 := Lib.hid h1.cells
 have K2 := Lib.hid h2.cells
 clear h1 h2 hc1 hc2
 go_enter Tryz.func25, Tryz.ntmps25
 go_wp2_with fail
 go_loopw [5] (fun i wr => ∃ k : Nat, i = .int .i64 k ∧ k ≤ l.length ∧ ∃ n, wr = w.drewN n) (fun i _ => l.length - (intOf i).toNat)
 case atStart => exact ⟨0, rfl, Nat.zero_le _, 0, rfl⟩
 case round =>
  obtain ⟨k, rfl, hk, n, rfl⟩ := hrel
  by_cases hlt : k < l.length
  ·obtain ⟨b1, o1, e1, c0, c1, c2, c3⟩ := K1.out k hlt
   obtain ⟨b2, o2, e2, d0, d1, d2, d3⟩ := K2.out k hlt
   subst e1 e2
   generalize l[k] = t at *
   obtain ⟨tk, tn, ts, tp⟩ := t
   simp only at c0 c1 c2 c3 d0 d1 d2 d3
   have hN := nd_same tk tn tp ts
   go_wp2_with fail
   go_quiet (fail)
   go_wp2_with fail
   go_roundw
   case rel => exact ⟨k + 1, by go_num, by omega, _, rfl⟩
   case measure => simp [intOf]; omega
  ·go_wp2_with fail
   go_ret
   exact ⟨rfl, n, rfl⟩
def aw1 : List UInt8 := [78, 97, 109, 101, 32, 40, 95, 65, 68, 82, 44, 32, 49, 54, 41]
def aw2 : List UInt8 := [68, 101, 118, 105, 99, 101, 32, 40, 69, 67, 48, 41, 32, 123]
def awP : List Nd := [⟨13, 0, [], 2⟩, ⟨3, 0, [95, 65, 68, 82], 0⟩, ⟨1, 16, [], 0⟩]
theorem aw1_is : parseL aw1 = (awP, 0, 0) := by decide +kernel
theorem aw2_is : parseL aw2 = ([], 14, 2) := by decide +kernel
theorem awP_is : validL awP = true := by decide +kernel
end
section
open Go.RowKit
attribute [local go_sem] ByteArray.mk_append_mk bs_get bs_cut bs_end
theorem parse_is (s : List UInt8) (ns : List Nd) (pos er m : Int) (H : Hid (parseL s = (ns, pos, er))) (w : World) (hm : SynG m w) (hs : s.length ≤ 4611686018427380000) :
 Calls Tryz.prog 24 #[.string ⟨s.toArray⟩] w fun e w' => ∃ v, e = .returned (.tuple #[v, .int .i64 pos, .int .i64 er]) ∧ NodesI w' w.heap.size v ns ∧ Below w.heap.size w w' := by
 have := parse_syn s m w hm hs
 unfold ParsePost at this
 rw [H.out] at this
 exact this
theorem valid_is (m : Int) (p : List Nd) (b : Bool) (H : Hid (validL p = b)) (v : Value) (w : World) (hv : NSl w v p) (hm : SynG m w) (hl : p.length ≤ 9223372036854775000) :
 Calls Tryz.prog 16 #[v] w fun e w' => e = .returned (.bool b) ∧ Below w.heap.size w w' := by
 have := valid_any m p v w hv hm hl
 rw [H.out] at this
 exact this
theorem awP_nds : NdsOk awP := by
 intro t ht
 simp only [awP, List.mem_cons, List.not_mem_nil, or_false] at ht
 rcases ht with rfl | rfl | rfl <;> simp
abbrev awO : Obj := .cells #[.int .i64 13, .int .u64 0, .string ⟨#[]⟩, .int .i64 2, .int .i64 3, .int .u64 0, .string ⟨#[95, 65, 68, 82]⟩, .int .i64 0, .int .i64 1, .int .u64 16, .string ⟨#[]⟩, .int .i64 0] 42
theorem aw_lit (w : World) : NSl (w.alloc awO) (.slice (some ⟨w.heap.size, 0, none⟩) 3 3) awP := by
 rw [show awO = .cells (tcI awP).toArray 42 from rfl]
 refine ⟨⟨_, _, rfl, fun _ => ⟨w.heap.size, 0, rfl, fun i hi => ?_⟩⟩, awP_nds⟩
 obtain ⟨k0, k1, k2, k3⟩ := tcI_at awP i hi
 have h := heap_alloc_new w (.cells (tcI awP).toArray 42)
 rw [Nat.zero_add]
 refine ⟨?_, ?_, ?_, ?_⟩
 ·rw [cell_of_row _ _ _ _ _ (0, 0) h]; simpa using k0
 ·rw [cell_of_row _ _ _ _ _ (0, 0) h]; simpa using k1
 ·rw [cell_of_row _ _ _ _ _ (0, 0) h]; simpa using k2
 ·rw [cell_of_row _ _ _ _ _ (0, 0) h]; simpa using k3
set_option maxRecDepth 100000 in
set_option maxHeartbeats 4000000 in
theorem awake_any (m : Int) (w : World) (hm : SynG m w) : Calls Tryz.prog 9 #[] w fun e w' => e = .returned (.bool true) ∧ Below w.heap.size w w' := by
 have HP1 := Lib.hid (parse_is aw1 awP 0 0 m (Lib.hid aw1_is) w hm (by decide))
 have HG := Lib.hid hm
 unfold aw1 at HP1
 clear hm
 go_enter Tryz.func9, Tryz.ntmps9
 go_wp2_with fail
 ((with_reducible refine HP1.out.mono ?_))
 rintro e w1 ⟨v1, rfl, hv1, hb1⟩
 obtain ⟨a1, c1, rfl⟩ := hv1.form
 have HG1 := Lib.hid (HG.out.below hb1 HG.out.low)
 have HN1 := Lib.hid (hv1.sl awP_nds)
 have HB1 := Lib.hid hb1
 have HP2 := Lib.hid (parse_is aw2 [] 14 2 m (Lib.hid aw2_is) w1 HG1.out (by decide))
 unfold aw2 at HP2
 clear hv1 hb1 HP1 HG
 go_wp2_with fail
 ((with_reducible refine HP2.out.mono ?_))
 rintro e w2 ⟨v2, rfl, hv2, hb2⟩
 obtain ⟨a2, c2, rfl⟩ := hv2.form
 have HG2 := Lib.hid (HG1.out.below hb2 HG1.out.low)
 have HN2 := Lib.hid (HN1.out.below hb2)
 have HB2 : Hid (Below w.heap.size w w2) := Lib.hid (bel_then HB1.out (Nat.le_refl _) hb2)
 have HLT := Lib.hid (aw_lit w2)
 have hal : Below w2.heap.size w2 (w2.alloc awO) := (Below.refl _ _).alloc (Nat.le_refl _) _
 have HN3 := Lib.hid (HN2.out.below hal)
 have HG3 := Lib.hid (HG2.out.below hal HG2.out.low)
 have HB3 : Hid (Below w.heap.size w (w2.alloc awO)) := Lib.hid (bel_then HB2.out (Nat.le_refl _) hal)
 have HEQ := Lib.hid (equal_nodes _ _ awP _ HN3.out HLT.out (by decide))
 clear hv2 hb2 HP2 HG1 HN1 HB1 hal
 go_wp2_with fail
 ((with_reducible refine HEQ.out.mono ?_))
 rintro e w4 ⟨rfl, n, rfl⟩
 have hdr : Below (w2.alloc awO).heap.size (w2.alloc awO) ((w2.alloc awO).drewN n) := below_drewN (Below.refl _ _) n
 have HVA := Lib.hid (valid_is m awP true (Lib.hid awP_is) _ _ (HN3.out.below hdr) (HG3.out.below hdr HG3.out.low) (by decide))
 have HB4 : Hid (Below w.heap.size w ((w2.alloc awO).drewN n)) := Lib.hid (below_drewN HB3.out n)
 clear hdr
 go_wp2_with fail
 ((with_reducible refine HVA.out.mono ?_))
 rintro e w5 ⟨rfl, hb5⟩
 have HB5 : Hid (Below w.heap.size w w5) := Lib.hid (bel_then HB4.out (Nat.le_refl _) hb5)
 clear hb5
 go_wp2_with fail
 go_ret
 exact ⟨rfl, HB5.out⟩
end
section
open Go.RowKit
attribute [local go_sem] ByteArray.mk_append_mk bs_get bs_cut bs_end
theorem parseL_nds (s : List UInt8) : NdsOk (parseL s).1 := by
 unfold parseL
 split
 ·exact .nil
 ·unfold parseT
  have h := progF_ng ((scanL s).1.map Tok.toI).length ((scanL s).1.map Tok.toI).length [] _ .nil (toI_nds _ (scanL_ok s))
  cases hx : progF ((scanL s).1.map Tok.toI).length ((scanL s).1.map Tok.toI).length [] ((scanL s).1.map Tok.toI) with
  | no x => exact .nil
  | ok r ns =>
    rw [hx] at h
    unfold parseR
    simp only []
    split
    ·exact h.2
    ·exact .nil
theorem parseL_len (s : List UInt8) : (parseL s).1.length ≤ 2048 := by
 unfold parseL
 split
 ·simp
 ·unfold parseT parseR
  split
  ·simp
  ·split
   ·next h =>
    unfold validL at h
    simp only [Bool.and_eq_true, decide_eq_true_eq] at h
    exact h.1
   ·simp
theorem agrees_any (s : List UInt8) (m : Int) (w : World) (hm : SynG m w) (hs : s.length ≤ 4611686018427380000) :
 Calls Tryz.prog 10 #[.string ⟨s.toArray⟩] w fun e w' => e = .returned (.bool true) ∧ Below w.heap.size w w' := by
 have HG := Lib.hid hm
 have HND : Hid (NdsOk (parseL s).1) := Lib.hid (parseL_nds s)
 have HLN : Hid ((parseL s).1.length ≤ 1000000) := Lib.hid (by
  have h := parseL_len s
  omega)
 obtain ⟨⟨ns, pos, er⟩, hR⟩ : ∃ x, parseL s = x := ⟨_, rfl⟩
 have HRR := Lib.hid hR
 rw [hR] at HND HLN
 have HP1 := Lib.hid (parse_is s ns pos er m HRR w hm hs)
 clear hR hm
 go_enter Tryz.func10, Tryz.ntmps10
 go_wp2_with fail
 ((with_reducible refine HP1.out.mono ?_))
 rintro e w1 ⟨v1, rfl, hv1, hb1⟩
 obtain ⟨a1, c1, rfl⟩ := hv1.form
 have HG1 := Lib.hid (HG.out.below hb1 HG.out.low)
 have HN1 := Lib.hid (hv1.sl HND.out)
 have HB1 := Lib.hid hb1
 have HP2 := Lib.hid (rparse_is s ns pos er m HRR w1 HG1.out hs)
 clear hv1 hb1 HP1
 go_wp2_with fail
 ((with_reducible refine HP2.out.mono ?_))
 rintro e w2 ⟨v2, rfl, hv2, hb2⟩
 obtain ⟨a2, c2, rfl⟩ := hv2.form
 have HN2 := Lib.hid (hv2.sl HND.out)
 have HN12 := Lib.hid (HN1.out.below hb2)
 have HB2 : Hid (Below w.heap.size w w2) := Lib.hid (bel_then HB1.out (Nat.le_refl _) hb2)
 have HEQ := Lib.hid (equal_nodes _ _ ns w2 HN12.out HN2.out (by have := HLN.out; omega))
 clear hv2 hb2 HP2
 go_wp2_with fail
 ((with_reducible refine HEQ.out.mono ?_))
 rintro e w3 ⟨rfl, n, rfl⟩
 go_wp2_with fail
 go_ret
 exact ⟨rfl, below_drewN HB2.out n⟩
end
end Go.Proofs.YtnicnfchkdmieaaGreatDoor
