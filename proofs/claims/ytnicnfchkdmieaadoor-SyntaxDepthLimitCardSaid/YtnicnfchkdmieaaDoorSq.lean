/- Parse: the walk. -/
import Derived.Test.YtnicnfchkdmieaaDoorSp
namespace Go.Proofs.YtnicnfchkdmieaaDoor
open Go.RowKit
set_option linter.unusedVariables false
set_option linter.unusedSimpArgs false
attribute [local go_sem] ByteArray.mk_append_mk bs_get bs_cut bs_end

theorem toI_nds (l : List Tok) (h : ∀ t ∈ l, TokOk t) : NdsOk (l.map Tok.toI) := by
  intro t ht
  obtain ⟨x, hx, rfl⟩ := List.mem_map.1 ht
  refine ⟨Nat.le_trans (h x hx).1 (by omega), ?_⟩
  show (0 : Int) ≤ (x.num : Int)
  omega
set_option maxRecDepth 100000 in
set_option maxHeartbeats 8000000 in
theorem parse_syn (s : List UInt8) (m : Int) (w : World) (hm : SynG m w) (hs : s.length ≤ 4611686018427380000) :
    Calls Tryd.prog 5 #[.string ⟨s.toArray⟩] w (ParsePost w (parseL s)) := by
  have HSC := Lib.hid (tScan_any s m w hs hm.1)
  have HG := Lib.hid hm
  obtain ⟨Z, hZ⟩ : ∃ Z, Hid (parseL s = Z) := ⟨_, Lib.hid rfl⟩
  have htok := scanL_ok s
  have hlen := scanL_len s
  obtain ⟨x, hx⟩ : ∃ x, scanL s = x := ⟨_, rfl⟩
  rw [hx] at HSC htok hlen
  have HZ0 : Hid (Z = if x.2.2 ≠ 0 then ([], (x.2.1 : Int), (x.2.2 : Int)) else parseT s.length (x.1.map Tok.toI)) := Lib.hid (by rw [← hZ.out]; unfold parseL; rw [hx])
  obtain ⟨tl, pos, er⟩ := x
  simp only at htok hlen HZ0
  unfold ScanPost at HSC
  simp only at HSC
  have HTOK := Lib.hid htok
  clear hx hm htok
  go_enter Tryd.func5, Tryd.ntmps5
  go_wp2_with fail
  ((with_reducible refine HSC.out.mono ?_))
  rintro e w1 ⟨v, rfl, hv, hb1⟩
  have HG1 := Lib.hid (HG.out.below hb1 HG.out.low)
  have HB1 := Lib.hid hb1
  have HV := Lib.hid hv
  obtain ⟨va, vc, rfl⟩ := hv.form
  clear hb1 hv HSC HG
  by_cases he : er = 0
  · subst he
    have HZ1 : Hid (Z = parseT s.length (tl.map Tok.toI)) := Lib.hid (by rw [HZ0.out, if_neg (fun h => h rfl)])
    obtain ⟨T, hT⟩ : ∃ T, tl.map Tok.toI = T := ⟨_, rfl⟩
    obtain ⟨Y, hY⟩ : ∃ Y, Hid (progF T.length T.length [] T = Y) := ⟨_, Lib.hid rfl⟩
    have HZ2 : Hid (Z = parseR s.length Y) := Lib.hid (by rw [HZ1.out, hT, ← hY.out]; rfl)
    have HNG : Hid (NG Y) := Lib.hid (by rw [← hY.out]; exact progF_ng _ _ _ _ .nil (by rw [← hT]; exact toI_nds _ HTOK.out))
    have htl : T.length = tl.length := by rw [← hT, List.length_map]
    have HTB : Hid (TokB w1 w1.heap.size (.slice va tl.length vc) T) := Lib.hid (by rw [← hT]; exact HV.out.tokB)
    have HTG : Hid (TGood T) := Lib.hid (by rw [← hT]; exact toks_good HTOK.out)
    obtain ⟨b, hb⟩ : ∃ b, w1.heap.size = b := ⟨_, rfl⟩
    have HBE := Lib.hid hb
    have hal : Below b w1 (w1.alloc (psObj (.slice va tl.length vc) (s.length : Int) 0 (.slice none 0 0))) := (Below.refl _ _).alloc (by omega) _
    have hsz0 : b ≤ (w1.alloc (psObj (.slice va tl.length vc) (s.length : Int) 0 (.slice none 0 0))).heap.size := by rw [← hb]; exact hal.size
    have HP0 : Hid (PSt m s.length b b (w1.alloc (psObj (.slice va tl.length vc) (s.length : Int) 0 (.slice none 0 0))) T []) := Lib.hid (by
      have h1 := heap_alloc_new w1 (psObj (.slice va tl.length vc) (s.length : Int) 0 (.slice none 0 0))
      rw [hb] at h1
      have h2 := HTB.out
      rw [hb] at h2
      exact ⟨⟨_, _, _, h1, h2.below hal, NodesI.nil _ _⟩, Nat.le_refl _, hsz0, HG1.out.below hal (by rw [← hb]; exact HG1.out.low), by rw [← hb]; exact HG1.out.low, HTG.out⟩)
    have HL0 := Lib.hid hal
    clear hT HZ0 HZ1 HTOK HV hal hsz0 HG1 HTB HTG hb
    go_wp2_with fail
    rw [HBE.out]
    generalize w1.alloc (psObj (.slice va tl.length vc) (s.length : Int) 0 (.slice none 0 0)) = W0 at *
    have HSUBS := Lib.hid (sub_ok m s.length b b T.length)
    have hT6 : T.length ≤ 65536 := by omega
    go_loopw [29] (fun _ wr => ∃ (f : Nat) (ns : List Nd) (q : List TokI), q.length ≤ f ∧ q.length ≤ T.length ∧ ns.length + q.length ≤ T.length ∧ Hid (progF T.length f ns q = Y) ∧ Hid (PSt m s.length b b wr q ns) ∧ Hid (Below b w1 wr)) (fun _ wr => tokLen wr b)
    case atStart => exact ⟨T.length, [], T, Nat.le_refl _, Nat.le_refl _, by simp, hY, HP0, HL0⟩
    case round =>
      clear HP0 HL0 hY
      obtain ⟨f, ns, q, hqf, hqT, hnq, HX, HP, HB⟩ := hrel
      obtain ⟨w3, rfl⟩ : ∃ y : World, y = wr := ⟨_, rfl⟩
      have HTL : Hid (tokLen w3 b = q.length) := Lib.hid HP.out.tokLen
      obtain ⟨tv, bad, nv, k1, k2, k3⟩ := HP.out.ex
      obtain ⟨ta, tcap, rfl, tl2, tc⟩ := k2
      obtain ⟨na, nc, rfl⟩ := k3.form
      obtain ⟨c0, c1, c2, c3⟩ := cells4 k1
      have HN := Lib.hid k3
      clear k1 k3 tc
      cases q with
      | nil =>
        have HX2 : Hid (Y = .ok [] ns) := Lib.hid (by
          rw [← HX.out]
          cases f with
          | zero => rw [progF]
          | succ f => rw [progF, if_pos rfl])
        have HZ3 : Hid (Z = if validL ns = true then (ns, 0, 0) else ([], 0, 11)) := Lib.hid (by rw [HZ2.out, HX2.out]; rfl)
        have hnd : NdsOk ns := by
          have h := HNG.out
          rw [HX2.out] at h
          exact h.2
        have HVA := Lib.hid (valid_any m ns _ w3 (HN.out.sl hnd) HP.out.syn (by omega))
        have HBW : Hid (Below w.heap.size w w3) := Lib.hid (HB1.out.trans (HB.out.mono (by rw [← HBE.out]; exact HB1.out.size)))
        obtain ⟨vb, hvb⟩ : ∃ z, validL ns = z := ⟨_, rfl⟩
        rw [hvb] at HVA HZ3
        clear HX hnd hvb HX2 HZ2 HNG
        go_wp2_with fail
        ((with_reducible refine HVA.out.mono ?_))
        rintro e w4 ⟨rfl, hb4⟩
        have HB4 : Hid (Below w.heap.size w w4) := Lib.hid (bel_then HBW.out (Nat.le_refl _) hb4)
        have HN4 := Lib.hid (HN.out.below hb4)
        have hp4 := (HP.out.below hb4).ex
        obtain ⟨tv4, bad4, nv4, k1, k2, k3⟩ := hp4
        have e3 : w4.cell? ⟨b, 3, none⟩ = some (.slice na ns.length nc) := (hb4.cell (p := ⟨b, 3, none⟩) (World.block_lt_of_cell? w3 ⟨b, 3, none⟩ c3)).trans c3
        clear k1 k2 k3 hb4 c0 c1 c2 c3
        cases vb with
        | false =>
          have HZ4 : Hid (Z = ([], 0, 11)) := Lib.hid (by rw [HZ3.out]; rfl)
          go_wp2_with fail
          go_ret3
          unfold ParsePost
          rw [hZ.out, HZ4.out]
          exact ⟨_, rfl, NodesI.nil _ _, HB4.out⟩
        | true =>
          have HZ4 : Hid (Z = (ns, 0, 0)) := Lib.hid (by rw [HZ3.out]; rfl)
          go_wp2_with fail
          go_ret3
          unfold ParsePost
          rw [hZ.out, HZ4.out]
          exact ⟨_, rfl, HN4.out.base (by rw [← HBE.out]; exact HB1.out.size), HB4.out⟩
      | cons t q2 =>
        obtain ⟨f, rfl⟩ : ∃ g, f = g + 1 := ⟨f - 1, by simp at hqf; omega⟩
        have hq0 : (0 : Int) < ((t :: q2).length : Int) := by simp only [List.length_cons]; omega
        have HSUB : Hid (Calls Tryd.prog 9 #[.pointer (some ⟨b, 0, none⟩), .int .u8 68] w3 (SynPost m s.length b b w3 ns (subP T.length 68 (t :: q2)))) := Lib.hid (HSUBS.out 68 (t :: q2) ns w3 HP.out hqT (by omega))
        have hgood := subP_good T.length 68 (t :: q2)
        have HX2 : Hid (Y = match subP T.length 68 (t :: q2) with | .no x => .no x | .ok r1 n1 => progF T.length f (ns ++ n1) r1) := Lib.hid (by rw [← HX.out, progF, if_neg (by simp)]; rfl)
        cases hx : subP T.length 68 (t :: q2) with
        | no x =>
          rw [hx] at HSUB HX2
          have HZ3 : Hid (Z = ([], posT s.length x, 2)) := Lib.hid (by rw [HZ2.out, HX2.out]; rfl)
          clear hx hgood HX HP
          go_wp2_with fail
          ((with_reducible refine HSUB.out.mono ?_))
          rintro e w4 ⟨hb4, rfl, tv4, nv4, hbad⟩
          have HB4 : Hid (Below w.heap.size w w4) := Lib.hid ((HB1.out.trans (HB.out.mono (by rw [← HBE.out]; exact HB1.out.size))).trans (hb4.mono (by rw [← HBE.out]; exact HB1.out.size)))
          have k0 : ∀ x, Grows w4 x → x.cell? ⟨b, 2, none⟩ = _ := fun x h => (cells4 (blk_below hbad h)).2.2.1
          clear hb4 hbad c0 c1 c2 c3
          go_upto_region 7 with fail
          refine wp_region_plan (Grows _) 5 [.reads [0, 1, 2, 3, 4], .act 5, .act 6] (by kernel_rfl) (by kernel_rfl) (by kernel_rfl) (by kernel_rfl) (by kernel_rfl) (fun _ _ d _ _ h => by cases d <;> exact h) (Grows.self _) ?_
          refine wpPlan_reads ?_
          simp only [pickOps, List.drop_succ_cons, List.drop_zero, List.take_succ_cons, List.take_zero, List.cons_append, List.nil_append]
          repeat (go_big_quiet_step (first | (intro hb; rw [k0 _ hb]; exact ⟨rfl, rfl⟩)))
          refine wpQuiet_nil ?_
          clear k0
          refine wpPlan_act rfl ?_
          simp only [pickOps, List.drop_succ_cons, List.drop_zero, List.take_succ_cons, List.take_zero, List.cons_append, List.nil_append]
          go_wp2_with fail
          refine ⟨fun h => absurd h (by decide), ?_⟩
          refine wpPlan_act rfl ?_
          simp only [pickOps, List.drop_succ_cons, List.drop_zero, List.take_succ_cons, List.take_zero, List.cons_append, List.nil_append]
          go_wp2_with fail
          refine ⟨fun h => absurd h (by decide), wpPlan_nil ?_⟩
          go_wp2_with fail
          go_ret3
          unfold ParsePost
          rw [hZ.out, HZ3.out]
          exact ⟨_, rfl, NodesI.nil _ _, below_drewN HB4.out _⟩
        | ok r1 n1 =>
          rw [hx] at HSUB HX2 hgood
          obtain ⟨d, hd1, hd2, hd3, hd4⟩ := hgood
          have hr1 : r1.length + d = (t :: q2).length := by rw [hd3, List.length_drop]; omega
          have HX3 : Hid (progF T.length f (ns ++ n1) r1 = Y) := Lib.hid HX2.out.symm
          clear hx HX hd3 HP
          go_wp2_with fail
          ((with_reducible refine HSUB.out.mono ?_))
          rintro e w4 ⟨hb4, rfl, hp4⟩
          have HB4 : Hid (Below b w1 w4) := Lib.hid (HB.out.trans hb4)
          have HP4 := Lib.hid hp4
          clear hb4 hp4 c0 c1 c2 c3
          go_wp2_with fail
          go_roundw
          case rel => exact ⟨f, ns ++ n1, r1, by omega, by omega, by simp only [List.length_append]; omega, HX3, HP4, HB4⟩
          case measure => rw [HTL.out, HP4.out.tokLen]; omega
  · have f1 : ((er : Int) != 0) = true := by rw [bne_iff_ne]; omega
    have HZ1 : Hid (Z = ([], (pos : Int), (er : Int))) := Lib.hid (by rw [HZ0.out, if_pos he])
    clear he HZ0
    go_wp2_with fail
    go_ret3
    unfold ParsePost
    rw [hZ.out, HZ1.out]
    exact ⟨_, rfl, NodesI.nil _ _, HB1.out⟩
end Go.Proofs.YtnicnfchkdmieaaDoor
