/- TokenRoundTrip: the walk. -/
import Derived.Test.YtebmkalgdbkijaaDoorTlp
namespace Go.Proofs.YtebmkalgdbkijaaDoor
open Go.RowKit
set_option linter.unusedVariables false
set_option linter.unusedSimpArgs false
attribute [local go_sem] ByteArray.mk_append_mk bs_get bs_cut bs_end

set_option maxRecDepth 100000 in
set_option maxHeartbeats 16000000 in
theorem law_round (v1 : Value) (l : List TokI) (m : Int) (w : World) (h1 : TSl w v1 l) (hl : l.length ≤ 9223372036854770000) (hs : ∀ t ∈ l, t.str.length ≤ 9223372036854770000) (hn : ∀ t ∈ l, NumI t) (hm : w.cell? ⟨0, 0, none⟩ = some (.int .i64 m)) (hT : Tz16 w) :
    Calls Tryd.prog 3 #[v1] w fun e w' => e = .returned (.bool true) ∧ Below w.heap.size w w' := by
  have H1 := Lib.hid h1
  have HM := Lib.hid hm
  have HZ := Lib.hid hT
  have HZB : Hid (6 < w.heap.size) := Lib.hid (World.block_lt_of_cell? w _ hT)
  obtain ⟨M, hMM⟩ : ∃ M, Hid ((l.take 40).map someT = M) := ⟨_, Lib.hid rfl⟩
  have HML : Hid (M.length ≤ 40) := Lib.hid (by rw [← hMM.out, List.length_map, List.length_take]; omega)
  have HOK : Hid (∀ t ∈ M, NumI t ∧ Shrt t) := Lib.hid (by
    intro t ht
    rw [← hMM.out] at ht
    obtain ⟨x, hx, rfl⟩ := List.mem_map.1 ht
    exact someT_ok x (hn x (List.mem_of_mem_take hx)))
  have HSL : Hid (∀ t ∈ M, t.str.length ≤ 9223372036854770000) := Lib.hid (by
    intro t ht
    rw [← hMM.out] at ht
    obtain ⟨x, hx, rfl⟩ := List.mem_map.1 ht
    have hx2 := hs x (List.mem_of_mem_take hx)
    unfold someT
    split
    · have := names_len names1 (by decide) (modV x.pos 5).toNat; simp only; omega
    split
    · have := names_len names2 (by decide) (modV x.pos 5).toNat; simp only; omega
    split
    · simp
    split
    · simp only [List.length_take]; omega
    split
    · simp
    · exact hx2)
  have HS := Lib.hid (fun w v (h : TSl w v l) => someToks_any v l w h hl (fun t ht => Nat.le_trans (hs t ht) (by decide)))
  rw [hMM.out] at HS
  clear h1 hm hs hn hl hT
  go_enter Tryd.func3, Tryd.ntmps3
  go_wp2_with fail
  ((with_reducible refine (HS.out _ _ H1.out).mono ?_))
  rintro e w2 ⟨vm, rfl, ho, hb⟩
  have HB := Lib.hid hb
  have HO := Lib.hid ho
  clear hb ho HS H1
  obtain ⟨ma, mc, hmv, hmc⟩ := HO.out.room
  subst hmv
  have hml := HML.out
  have HM2 := Lib.hid (max_below HM.out HB.out)
  have HZ2 := Lib.hid (HZ.out.below HB.out HZB.out)
  have HT := Lib.hid HO.out.sl
  clear HM HO HZ
  have HVF := Lib.hid (validK_fine HOK.out HSL.out)
  go_wp2_with fail
  go_loopw [3, 5] (fun u i wr => ∃ k : Nat, i = .int .i64 k ∧ k ≤ M.length ∧ Hid (ToksI wr w2.heap.size u (validK M k)) ∧ Hid (Below w2.heap.size w2 wr)) (fun _ i _ => M.length - (intOf i).toNat)
  case atStart => exact ⟨0, rfl, by omega, Lib.hid (ToksI.nil _ _), Lib.hid (Below.refl _ _)⟩
  case round =>
    obtain ⟨k, rfl, hk, HV, HBW⟩ := hrel
    obtain ⟨ua, uc, hu⟩ := HV.out.form
    obtain ⟨n0, hn0⟩ : ∃ n, (validK M k).length = n := ⟨_, rfl⟩
    rw [hn0] at hu
    have HN0 := Lib.hid hn0
    clear hn0
    subst hu
    obtain ⟨w3, rfl⟩ : ∃ y : World, y = wr := ⟨_, rfl⟩
    by_cases hlt : k < M.length
    · obtain ⟨b, off, rfl, hcell⟩ := HT.out.at k hlt
      obtain ⟨t, ht⟩ : ∃ t, M[k] = t := ⟨_, rfl⟩
      rw [ht] at hcell
      have HTT := Lib.hid hcell
      have KV := Lib.hid (fun w => valid_any M[k] w (HSL.out _ (List.getElem_mem hlt)))
      have HY : Hid (validT M[k] = true → validK M (k + 1) = validK M k ++ [M[k]]) := Lib.hid (validK_yes hlt)
      have HNO : Hid (validT M[k] = false → validK M (k + 1) = validK M k) := Lib.hid (validK_no hlt)
      rw [ht] at KV HY HNO
      obtain ⟨bv, hbv⟩ : ∃ bv, Hid (validT t = bv) := ⟨_, Lib.hid rfl⟩
      rw [hbv.out] at KV HY HNO
      clear ht hcell
      obtain ⟨c0, c1, c2, c3⟩ := HTT.out.below HBW.out
      unfold TokI.val at KV
      simp only [tokV] at KV
      obtain ⟨L0, hL0⟩ : ∃ L, Hid (validK M k = L) := ⟨_, Lib.hid rfl⟩
      have HLL : Hid (L0.length ≤ 40) := Lib.hid (by rw [← hL0.out]; have := validK_len M k; omega)
      rw [hL0.out] at HV HY HNO
      go_wp2_with fail
      ((with_reducible refine (KV.out _).mono ?_))
      rintro e w4 ⟨rfl, hb⟩
      have HV4 := Lib.hid (HV.out.below hb)
      have HB4 := Lib.hid (bel_then HBW.out (Nat.le_refl _) hb)
      clear hb c0 c1 c2 c3 KV HV HBW
      cases bv
      · have HE := Lib.hid (HNO.out rfl)
        go_wp2_with fail
        go_roundw
        case rel => exact ⟨k + 1, by go_num, by omega, by rw [HE.out]; exact HV4, HB4⟩
        case measure => simp [intOf]; omega
      · have HE := Lib.hid (HY.out rfl)
        obtain ⟨c0, c1, c2, c3⟩ := HTT.out.below HB4.out
        go_wp2_with (at_builtin; refine wpList_append_tokI rfl _ _ rfl w2.heap.size _ L0 rfl (HV4.out.alloc _) w4.heap.size t rfl (heap_alloc_new _ _) (by have := HLL.out; omega) (HB4.out.alloc HB4.out.size _).size ?_; intro v5 w5 ho5 hg; have HV5 := Lib.hid ho5; have HB5 := Lib.hid (ToksI.kept (HV4.out.alloc _) (HB4.out.alloc HB4.out.size _) hg (HB4.out.alloc HB4.out.size _).size (Nat.le_refl _)); clear ho5 hg)
        clear c0 c1 c2 c3 HV4 HB4
        go_roundw
        case rel => exact ⟨k + 1, by go_num, by omega, by rw [HE.out]; exact HV5, HB5⟩
        case measure => simp [intOf]; omega
    · obtain ⟨L, hL⟩ : ∃ L, Hid (validK M k = L) := ⟨_, Lib.hid rfl⟩
      have HFF : Hid (∀ t ∈ L, Fine t) := Lib.hid (by rw [← hL.out]; exact HVF.out k)
      have HLL : Hid (L.length ≤ 40) := Lib.hid (by rw [← hL.out]; have := validK_len M k; omega)
      rw [hL.out] at HV HN0
      obtain ⟨q1, q2⟩ := scan_format HFF.out HLL.out
      obtain ⟨X, hX⟩ : ∃ X, Hid (textJ L L.length = X) := ⟨_, Lib.hid rfl⟩
      rw [hX.out] at q1 q2
      have HFM := Lib.hid (fun v w a c => format_any v L w a HFF.out (by have := HLL.out; omega) c)
      rw [hX.out] at HFM
      have HSM := Lib.hid (fun w v1 v2 (a : TSl w v1 ((toksS 0 L).map Tok.toI)) (b : TSl w v2 L) => same_yes v1 v2 _ _ w a b (by rw [List.length_map, toksS_len]; have := HLL.out; omega) (by
        rw [List.map_map]; exact toksS_bare L 0 HFF.out))
      have HKS := Lib.hid (fun w h => tScan_any X m w (by omega) h)
      rw [q1] at HKS
      have HMX := Lib.hid (max_below HM2.out HBW.out)
      have HZX := Lib.hid (HZ2.out.below HBW.out (Nat.lt_of_lt_of_le HZB.out HB.out.size))
      have HBX := Lib.hid (HB.out.trans (HBW.out.mono HB.out.size))
      clear q1 q2 hL HT HM2 HB HBW HZ2 HVF HOK HSL hMM
      go_wp2_with fail
      ((with_reducible refine (HFM.out _ _ HV.out.sl HZX.out).mono ?_))
      rintro e w4 ⟨rfl, hb⟩
      have HV4 := Lib.hid (HV.out.below hb)
      have HM4 := Lib.hid (max_below HMX.out hb)
      have HB4 := Lib.hid (bel_then HBX.out (Nat.le_refl _) hb)
      clear hb HV HMX HBX HFM
      go_wp2_with fail
      ((with_reducible refine (HKS.out _ HM4.out).mono ?_))
      rintro e w5 ⟨vo, rfl, ho, hb⟩
      have HO5 := Lib.hid (ho.toI.sl)
      have HV5 := Lib.hid (HV4.out.below hb)
      have HM5 := Lib.hid (max_below HM4.out hb)
      have HB5 := Lib.hid (bel_then HB4.out (Nat.le_refl _) hb)
      clear ho hb HV4 HM4 HB4 HKS
      simp only []
      go_wp2_with fail
      ((with_reducible refine (awake_any m _ HM5.out).mono ?_))
      rintro e w6 ⟨rfl, hb⟩
      have HO6 := Lib.hid (HO5.out.below hb)
      have HV6 := Lib.hid (HV5.out.below hb)
      have HB6 := Lib.hid (bel_then HB5.out (Nat.le_refl _) hb)
      clear hb HO5 HV5 HM5 HB5
      go_wp2_with fail
      ((with_reducible refine (HSM.out _ _ _ HO6.out HV6.out.sl).mono ?_))
      rintro e w7 ⟨rfl, hb⟩
      have HB7 := Lib.hid (bel_then HB6.out (Nat.le_refl _) hb)
      clear hb HO6 HV6 HB6 HSM
      go_wp2_with fail
      go_ret
      exact ⟨rfl, HB7.out⟩
end Go.Proofs.YtebmkalgdbkijaaDoor
