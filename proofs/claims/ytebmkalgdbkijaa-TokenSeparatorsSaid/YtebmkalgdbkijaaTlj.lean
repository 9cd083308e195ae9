/- TokenSeparators: the walk. -/
import Derived.Test.YtebmkalgdbkijaaTle
import Derived.Test.YtebmkalgdbkijaaTli
namespace Go.Proofs.Ytebmkalgdbkijaa
open Go.RowKit
set_option linter.unusedVariables false
set_option linter.unusedSimpArgs false
attribute [local go_sem] ByteArray.mk_append_mk bs_get bs_cut bs_end

/-- Whose text is short. -/
def Shrt (t : TokI) : Prop := t.str.length ≤ 255 ∨ t.kind ≠ 1 ∧ t.kind ≠ 2 ∧ t.kind ≠ 4
def NumI (t : TokI) : Prop := 0 ≤ t.num ∧ t.num ≤ 18446744073709551615
theorem names_len (L : List (List UInt8)) (h : ∀ x ∈ L, x.length ≤ 255) (j : Nat) : (L.getD j []).length ≤ 255 := by
  by_cases hj : j < L.length
  · have : L.getD j [] = L[j] := by simp [List.getD, hj]
    rw [this]; exact h _ (List.getElem_mem hj)
  · have : L.getD j [] = [] := by simp [List.getD, List.getElem?_eq_none (show L.length ≤ j by omega)]
    rw [this]; simp
theorem num0 {k : Int} {s : List UInt8} {p : Int} : NumI ⟨k, 0, s, p⟩ := ⟨Int.le_refl 0, show (0 : Int) ≤ 18446744073709551615 by decide⟩
theorem someT_ok (t : TokI) (h : NumI t) : NumI (someT t) ∧ Shrt (someT t) := by
  unfold someT
  split
  · exact ⟨num0, .inl (names_len _ (by decide) _)⟩
  · next m0 =>
    split
    · exact ⟨num0, .inl (names_len _ (by decide) _)⟩
    · next m1 =>
      split
      · exact ⟨h, .inl (by simp)⟩
      · next m2 =>
        split
        · exact ⟨num0, .inl (by simp only [List.length_take]; omega)⟩
        · next m3 =>
          split
          · exact ⟨num0, .inl (by simp)⟩
          · next m4 =>
            refine ⟨h, .inr ⟨?_, ?_, ?_⟩⟩
            · intro e; rw [e] at m1; exact m1 (by decide)
            · intro e; rw [e] at m2; exact m2 (by decide)
            · intro e; rw [e] at m4; exact m4 (by decide)
/-- The valid ones of the first k, with their separators. -/
def itemsK (M : List TokI) (sp : List UInt8) : Nat → List (TokI × List UInt8)
  | 0 => []
  | k + 1 => itemsK M sp k ++ (match M[k]? with
    | some t => if validT t = true then [(t, sepT.getD ((sp.getD k 0).toNat % 6) [])] else []
    | none => [])
theorem sep_mem (j : Nat) (h : j < 6) : sepT.getD j [] ∈ sepT := by
  have : ∀ j : Fin 6, sepT.getD j.val [] ∈ sepT := by decide
  exact this ⟨j, h⟩
theorem itemsK_yes {M : List TokI} {sp : List UInt8} {k : Nat} (h : k < M.length) (hv : validT M[k] = true) : itemsK M sp (k + 1) = itemsK M sp k ++ [(M[k], sepT.getD ((sp.getD k 0).toNat % 6) [])] := by
  rw [itemsK, List.getElem?_eq_getElem h]
  simp only [hv, if_true]
theorem itemsK_no {M : List TokI} {sp : List UInt8} {k : Nat} (h : k < M.length) (hv : validT M[k] = false) : itemsK M sp (k + 1) = itemsK M sp k := by
  rw [itemsK, List.getElem?_eq_getElem h]
  simp only [hv]
  simp
theorem itemsK_good {M : List TokI} {sp : List UInt8} (hm : ∀ t ∈ M, NumI t ∧ Shrt t) : ∀ k, Good (itemsK M sp k) ∧ (∀ x ∈ itemsK M sp k, Shrt x.1) ∧ (itemsK M sp k).length ≤ k
  | 0 => ⟨fun x h => (by cases h), fun x h => (by cases h), Nat.le_refl _⟩
  | k + 1 => by
    obtain ⟨i1, i2, i3⟩ := itemsK_good (sp := sp) hm k
    by_cases h : k < M.length
    · cases hv : validT M[k] with
      | false => rw [itemsK_no h hv]; exact ⟨i1, i2, by omega⟩
      | true =>
        rw [itemsK_yes h hv]
        obtain ⟨⟨a, b⟩, c⟩ := hm _ (List.getElem_mem h)
        refine ⟨?_, ?_, by rw [List.length_append]; simp; omega⟩
        · intro x hx
          rcases List.mem_append.1 hx with hx | hx
          · exact i1 x hx
          · simp only [List.mem_cons, List.not_mem_nil, or_false] at hx
            subst hx
            exact ⟨hv, a, b, sep_mem _ (Nat.mod_lt _ (by decide))⟩
        · intro x hx
          rcases List.mem_append.1 hx with hx | hx
          · exact i2 x hx
          · simp only [List.mem_cons, List.not_mem_nil, or_false] at hx
            subst hx
            exact c
    · have : itemsK M sp (k + 1) = itemsK M sp k := by rw [itemsK, List.getElem?_eq_none (by omega), List.append_nil]
      rw [this]; exact ⟨i1, i2, by omega⟩
theorem textG_snoc (L : List (TokI × List UInt8)) (t : TokI) (s : List UInt8) : textG (L ++ [(t, s)]) = textG L ++ (fmtT t ++ s) := by
  unfold textG
  rw [List.flatMap_append]
  simp [pieceT]
theorem seps_cell (w : World) (k : Nat) (hk : k < 6) : (w.alloc (.cells (sepT.map strV').toArray 9)).cell? ⟨w.heap.size, k, none⟩ = some (strV' (sepT.getD k [])) := by
  rw [cell_of_row _ _ k _ 9 (0, 0) (heap_alloc_new _ _)]
  have h : k < sepT.length := hk
  simp [List.getD, h]
theorem rem6 (c : UInt8) : (c.toNat : Int).tmod 6 = ((c.toNat % 6 : Nat) : Int) := by
  rw [Int.tmod_eq_emod_of_nonneg (by omega)]; omega
theorem ToksI.room {w : World} {B : Nat} {v : Value} {l : List TokI} (h : ToksI w B v l) : ∃ a c, v = .slice a l.length c ∧ l.length ≤ c := by
  rcases h.2 with ⟨rfl, h0⟩ | ⟨g, cap, cur, rfl, hb, hg, hn, _⟩
  · exact ⟨none, 0, by rw [h0], by omega⟩
  · exact ⟨_, cap, rfl, hn⟩
theorem TSl.at {w : World} {a : Option Addr} {n c : Nat} {l : List TokI} (h : TSl w (.slice a n c) l) (i : Nat) (hi : i < l.length) : ∃ b off, a = some ⟨b, off, none⟩ ∧ TAt w b (off + i * 4) l[i] := by
  obtain ⟨a', cap', hv, hc⟩ := h
  injection hv with e1 _ _
  subst e1
  obtain ⟨b, off, e, hk⟩ := hc (by rintro rfl; simp at hi)
  exact ⟨b, off, e, hk i hi⟩
theorem TSl.single {w : World} {b off cap : Nat} {t : TokI} (h : TAt w b off t) : TSl w (.slice (some ⟨b, off, none⟩) 1 cap) [t] :=
  ⟨_, _, rfl, fun _ => ⟨b, off, rfl, fun i hi => by have : i = 0 := by simp at hi; omega
                                                    subst this; simpa using h⟩⟩
set_option maxRecDepth 100000 in
set_option maxHeartbeats 16000000 in
theorem law_seps (v1 v2 : Value) (l : List TokI) (sp : List UInt8) (m : Int) (w : World) (h1 : TSl w v1 l) (h2 : BArg w v2 sp) (hl : l.length ≤ 9223372036854770000) (hs : ∀ t ∈ l, t.str.length ≤ 9223372036854770000) (hn : ∀ t ∈ l, NumI t) (hm : w.cell? ⟨0, 0, none⟩ = some (.int .i64 m)) :
    Calls Try.prog 4 #[v1, v2] w fun e w' => e = .returned (.bool true) ∧ Below w.heap.size w w' := by
  have H1 := Lib.hid h1
  have H2 := Lib.hid h2
  have HM := Lib.hid hm
  obtain ⟨M, hMM⟩ : ∃ M, Hid ((l.take 40).map someT = M) := ⟨_, Lib.hid rfl⟩
  have HML : Hid (M.length ≤ 40) := Lib.hid (by rw [← hMM.out, List.length_map, List.length_take]; omega)
  have HOK : Hid (∀ t ∈ M, NumI t ∧ Shrt t) := Lib.hid (by
    intro t ht
    rw [← hMM.out] at ht
    obtain ⟨x, hx, rfl⟩ := List.mem_map.1 ht
    exact someT_ok x (hn x (List.mem_of_mem_take hx)))
  have HSL : Hid (∀ t ∈ M, t.str.length ≤ 9223372036854770000) := Lib.hid (by
    intro t ht
    rw [← hMM.out] at ht
    obtain ⟨x, hx, rfl⟩ := List.mem_map.1 ht
    have hx2 := hs x (List.mem_of_mem_take hx)
    unfold someT
    split
    · have := names_len names1 (by decide) (modV x.pos 5).toNat; simp only; omega
    split
    · have := names_len names2 (by decide) (modV x.pos 5).toNat; simp only; omega
    split
    · simp
    split
    · simp only [List.length_take]; omega
    split
    · simp
    · exact hx2)
  have HS := Lib.hid (fun w v (h : TSl w v l) => someToks_any v l w h hl (fun t ht => Nat.le_trans (hs t ht) (by decide)))
  rw [hMM.out] at HS
  clear h1 h2 hm hs hn hl
  have HX0 := Lib.hid (seps_cell w)
  have HB0 : Hid (∀ o, Below w.heap.size w (w.alloc o)) := Lib.hid fun o => (Below.refl _ _).alloc (Nat.le_refl _) o
  go_enter Try.func4, Try.ntmps4
  go_wp2_with fail
  ((with_reducible refine (HS.out _ _ (H1.out.below (HB0.out _))).mono ?_))
  rintro e w2 ⟨vm, rfl, ho, hb⟩
  have HB := Lib.hid (bel_then (HB0.out _) (Nat.le_refl _) hb)
  have HA : Hid (∀ j, j < 6 → w2.cell? ⟨w.heap.size, j, none⟩ = some (strV' (sepT.getD j []))) := Lib.hid (fun j hj => by
    rw [hb.cell (p := ⟨w.heap.size, j, none⟩) (by simp)]; exact HX0.out j hj)
  have HO := Lib.hid ho
  clear hb ho HX0 HB0 HS H1
  obtain ⟨ma, mc, hmv, hmc⟩ := HO.out.room
  subst hmv
  have hml := HML.out
  have HSP := Lib.hid (H2.out.below HB.out)
  have HM2 := Lib.hid (max_below HM.out HB.out)
  have HT := Lib.hid HO.out.sl
  clear H2 HM HO
  have HG := Lib.hid (itemsK_good (sp := sp) HOK.out)
  go_wp2_with fail
  go_loopw [6, 7, 9] (fun z u i wr => ∃ (k : Nat) (x : List UInt8), z = .string ⟨x.toArray⟩ ∧ i = .int .i64 k ∧ k ≤ M.length ∧ x.length ≤ 41400 ∧ Hid (x = textG (itemsK M sp k)) ∧ Hid (ToksI wr w2.heap.size u ((itemsK M sp k).map (·.1))) ∧ Hid (Below w2.heap.size w2 wr)) (fun _ _ i _ => M.length - (intOf i).toNat)
  case atStart => exact ⟨0, [], rfl, rfl, by omega, by simp, Lib.hid rfl, Lib.hid (ToksI.nil _ _), Lib.hid (Below.refl _ _)⟩
  case round =>
    obtain ⟨k, x, rfl, rfl, hk, hx, HX, HV, HBW⟩ := hrel
    obtain ⟨ua, uc, hu⟩ := HV.out.form
    obtain ⟨n0, hn0⟩ : ∃ n, ((itemsK M sp k).map (·.1)).length = n := ⟨_, rfl⟩
    rw [hn0] at hu
    clear hn0
    subst hu
    obtain ⟨w3, rfl⟩ : ∃ y : World, y = wr := ⟨_, rfl⟩
    by_cases hlt : k < M.length
    · obtain ⟨b, off, rfl, hcell⟩ := HT.out.at k hlt
      obtain ⟨t, ht⟩ : ∃ t, M[k] = t := ⟨_, rfl⟩
      have HTT := Lib.hid (hcell)
      rw [ht] at HTT
      have KV := Lib.hid (fun w => valid_any M[k] w (HSL.out _ (List.getElem_mem hlt)))
      have HY := Lib.hid (itemsK_yes (sp := sp) hlt)
      have HNO := Lib.hid (itemsK_no (sp := sp) hlt)
      have HNS := Lib.hid (HOK.out _ (List.getElem_mem hlt))
      have HSS := Lib.hid (HSL.out _ (List.getElem_mem hlt))
      rw [ht] at KV HY HNO HNS HSS
      obtain ⟨bv, hbv⟩ : ∃ bv, Hid (validT t = bv) := ⟨_, Lib.hid rfl⟩
      have HN0 : Hid (0 ≤ t.num ∧ t.num ≤ 18446744073709551615) := Lib.hid HNS.out.1
      rw [hbv.out] at KV HY HNO
      clear ht hcell
      obtain ⟨c0, c1, c2, c3⟩ := HTT.out.below HBW.out
      unfold TokI.val at KV
      simp only [tokV] at KV
      obtain ⟨L0, hL0⟩ : ∃ L, Hid ((itemsK M sp k).map (·.1) = L) := ⟨_, Lib.hid rfl⟩
      have HLL : Hid (L0.length ≤ 40) := Lib.hid (by rw [← hL0.out, List.length_map]; have := (HG.out k).2.2; have := HML.out; omega)
      rw [hL0.out] at HV
      go_wp2_with fail
      ((with_reducible refine (KV.out _).mono ?_))
      rintro e w4 ⟨rfl, hb⟩
      have HV4 := Lib.hid (HV.out.below hb)
      have HB4 := Lib.hid (bel_then HBW.out (Nat.le_refl _) hb)
      clear hb c0 c1 c2 c3 KV HV HBW
      cases bv
      · have HE := Lib.hid (HNO.out rfl)
        go_wp2_with fail
        go_roundw
        case rel => exact ⟨k + 1, x, rfl, by go_num, by omega, hx, by rw [HE.out]; exact HX, by rw [HE.out, hL0.out]; exact HV4, HB4⟩
        case measure => simp [intOf]; omega
      · have HE := Lib.hid (HY.out rfl)
        obtain ⟨c0, c1, c2, c3⟩ := HTT.out.below HB4.out
        go_wp2_with (at_builtin; refine wpList_append_tokI rfl _ _ rfl w2.heap.size _ L0 rfl (HV4.out.alloc _) w4.heap.size t rfl (heap_alloc_new _ _) (by have := HLL.out; omega) (HB4.out.alloc HB4.out.size _).size ?_; intro v5 w5 ho5 hg; have HV5 := Lib.hid ho5; have HB5 := Lib.hid (ToksI.kept (HV4.out.alloc _) (HB4.out.alloc HB4.out.size _) hg (HB4.out.alloc HB4.out.size _).size (Nat.le_refl _)); clear ho5 hg)
        ((with_reducible refine (fmt_any _ t _ (TSl.single (HTT.out.below HB5.out)) HSS.out HN0.out.1 HN0.out.2 hbv.out).mono ?_))
        rintro e w6 ⟨rfl, hb⟩
        have HV6 := Lib.hid (HV5.out.below hb)
        have HB6 := Lib.hid (bel_then HB5.out (Nat.le_refl _) hb)
        clear hb c0 c1 c2 c3 HV5 HB5 HV4 HB4
        obtain ⟨F, hF⟩ : ∃ F, fmtT t = F := ⟨_, rfl⟩
        rw [hF]
        have hq := HG.out (k + 1)
        have hFl : F.length ≤ 1022 := by
          rw [← hF]
          rcases HNS.out.2 with h | ⟨k1, k2, k4⟩
          · exact fmtT_len hbv.out HN0.out.2 h
          · have hvv := hbv.out
            unfold fmtT
            rw [if_neg (by rintro (h | h); exact k1 h; exact k2 h)]
            by_cases k3 : t.kind = 3
            · rw [if_pos k3]
              have := fmtI_len (v := t.num.toNat) (by have := HN0.out.2; omega); omega
            · rw [if_neg k3, if_neg k4]
              unfold punC
              repeat' split
              all_goals simp
        have hTG := textG_len _ hq.1 hq.2.1
        have hTL : Hid ((textG (itemsK M sp (k + 1))).length ≤ 41400) := Lib.hid (by have := hq.2.2; omega)
        clear hq hTG
        go_wp2_with fail
        ((with_reducible refine (at_any _ sp k _ ((HSP.out.below HB6.out))).mono ?_))
        rintro e w7 ⟨rfl, rfl⟩
        obtain ⟨q, hqq⟩ : ∃ q, sp.getD k 0 = q := ⟨_, rfl⟩
        have hr := rem6 q
        have hmod : q.toNat % 6 < 6 := Nat.mod_lt _ (by decide)
        have HA6 : Hid (∀ j, j < 6 → w6.cell? ⟨w.heap.size, j, none⟩ = some (strV' (sepT.getD j []))) := Lib.hid (fun j hj => by
          have h1 := HA.out j hj
          exact (HB6.out.cell (p := ⟨w.heap.size, j, none⟩) (World.block_lt_of_cell? w2 _ h1)).trans h1)
        have c := HA6.out _ hmod
        unfold strV' at c
        rw [hqq] at HE ⊢
        have hSm := sep_mem _ hmod
        obtain ⟨S, hS⟩ : ∃ S, sepT.getD (q.toNat % 6) [] = S := ⟨_, rfl⟩
        rw [hS] at c HE hSm
        have hSl := (sep_is S hSm).2.2.1
        have HE2 : Hid (textG (itemsK M sp (k + 1)) = x ++ (F ++ S)) := Lib.hid (by rw [HE.out, textG_snoc, HX.out, hF])
        have hxl : (x ++ (F ++ S)).length ≤ 41400 := by rw [← HE2.out]; exact hTL.out
        have HE3 : Hid ((itemsK M sp (k + 1)).map (·.1) = L0 ++ [t]) := Lib.hid (by rw [HE.out, List.map_append, hL0.out]; rfl)
        have HXL := Lib.hid hxl
        have hq0 := q.toNat_lt
        generalize q.toNat % 6 = R at *
        generalize q.toNat = Q at *
        clear hF hqq hS hSm HE hL0 hbv hxl
        go_wp2_with fail
        go_roundw
        case rel => exact ⟨k + 1, x ++ (F ++ S), by simp, by go_num, by omega, HXL.out, Lib.hid HE2.out.symm, by rw [HE3.out]; exact HV6, HB6⟩
        case measure => simp [intOf]; omega
    · obtain ⟨L, hL⟩ : ∃ L, Hid (itemsK M sp k = L) := ⟨_, Lib.hid rfl⟩
      obtain ⟨q1, q2, q3⟩ := HG.out k
      rw [hL.out] at q1 q2 q3 HX HV
      have HGD := Lib.hid q1
      have HXX := Lib.hid HX.out
      have hLn : L.length ≤ 40 := by omega
      have HSC : Hid (scanL x = (toksG 0 L, 0, 0)) := Lib.hid (by
        rw [scanL_go (by omega), scan_toks x L 0 [] HGD.out (by rw [List.drop_zero, HX.out]) (by omega)]; rfl)
      have HSM := Lib.hid (fun w v1 v2 (a : TSl w v1 ((toksG 0 L).map Tok.toI)) (b : TSl w v2 (L.map (·.1))) => same_yes v1 v2 _ _ w a b (by rw [List.length_map, toksG_len]; omega) (by
        rw [List.map_map, List.map_map]; exact toksG_bare L 0 HGD.out))
      have HKS := Lib.hid (tScan_any x m w3 (by omega) (max_below HM2.out HBW.out))
      rw [HSC.out] at HKS
      have HMX := Lib.hid (max_below HM2.out HBW.out)
      have HBX := Lib.hid (HB.out.trans (HBW.out.mono HB.out.size))
      clear q1 q2 q3 hL HT HSP HA HM2 HB HBW
      go_wp2_with fail
      ((with_reducible refine HKS.out.mono ?_))
      rintro e w4 ⟨vo, rfl, ho, hb⟩
      have HO4 := Lib.hid (ho.toI.sl)
      have HV4 := Lib.hid (HV.out.below hb)
      have HM4 := Lib.hid (max_below HMX.out hb)
      have HB4 := Lib.hid (bel_then HBX.out (Nat.le_refl _) hb)
      clear ho hb HV HMX HBX HKS
      simp only []
      go_wp2_with fail
      ((with_reducible refine (awake_any m _ HM4.out).mono ?_))
      rintro e w5 ⟨rfl, hb⟩
      have HO5 := Lib.hid (HO4.out.below hb)
      have HV5 := Lib.hid (HV4.out.below hb)
      have HM5 := Lib.hid (max_below HM4.out hb)
      have HB5 := Lib.hid (bel_then HB4.out (Nat.le_refl _) hb)
      clear hb HO4 HV4 HM4 HB4
      go_wp2_with fail
      ((with_reducible refine (HSM.out _ _ _ HO5.out HV5.out.sl).mono ?_))
      rintro e w6 ⟨rfl, hb⟩
      have HO6 := Lib.hid (HO5.out.below hb)
      have HM6 := Lib.hid (max_below HM5.out hb)
      have HB6 := Lib.hid (bel_then HB5.out (Nat.le_refl _) hb)
      clear hb HO5 HV5 HM5 HB5 HSM
      obtain ⟨oa, oc, hov, _⟩ := HO6.out
      subst hov
      have hon : ((toksG 0 L).map Tok.toI).length = L.length := by rw [List.length_map, toksG_len]
      rw [hon] at HO6 ⊢
      have HON := Lib.hid hon
      clear hon
      clear HX HG HOK HSL HML hMM hmc hk hlt
      have hpl : Hid (∀ i, posG L i ≤ x.length) := Lib.hid (fun i => by rw [HXX.out]; exact posG_le)
      go_wp2_with fail
      go_loopw [13] (fun i wr => ∃ j : Nat, i = .int .i64 j ∧ j ≤ L.length ∧ Hid (Below w6.heap.size w6 wr)) (fun i _ => L.length - (intOf i).toNat)
      case atStart => exact ⟨0, rfl, by omega, Lib.hid (Below.refl _ _)⟩
      case round =>
        obtain ⟨j, rfl, hj, HBW⟩ := hrel
        obtain ⟨w7, rfl⟩ : ∃ y : World, y = wr := ⟨_, rfl⟩
        by_cases hjl : j < L.length
        · obtain ⟨b, off, rfl, hcell⟩ := HO6.out.at j (by have := HON.out; omega)
          obtain ⟨h1, h2, h3, h4⟩ := HGD.out _ (List.getElem_mem hjl)
          obtain ⟨hi, hf, hbb⟩ := itT_is h1 h2 h3
          have hgj : Good [L[j]] := fun y hy => by
            simp only [List.mem_cons, List.not_mem_nil, or_false] at hy
            subst hy; exact ⟨h1, h2, h3, h4⟩
          obtain ⟨P, hP⟩ : ∃ P, posG L j = P := ⟨_, rfl⟩
          obtain ⟨E, hE⟩ : ∃ E, posG L (j + 1) = E := ⟨_, rfl⟩
          have hT : ((toksG 0 L).map Tok.toI)[j]'(by have := HON.out; omega) = (tokOf L[j].1 P).toI := by
            rw [List.getElem_map, toksG_at L 0 j hjl, hP, Nat.zero_add]
          rw [hT] at hcell
          have hsucc := posG_succ hjl
          rw [hP, hE] at hsucc
          have hPl : 1 ≤ (pieceT L[j]).length := by
            obtain ⟨c, t, e, _⟩ := hf
            unfold pieceT; rw [List.length_append, e, List.length_cons]; omega
          have hEx : E ≤ x.length := by rw [← hE]; exact hpl.out _
          have hPE : P < E := by omega
          have hcutx : List.take (E - P) (List.drop P x) = pieceT L[j] := by
            rw [HXX.out, ← hP, show E - posG L j = (pieceT L[j]).length by omega]
            exact textG_cut hjl
          have hEND : Hid (¬ (j + 1 < L.length) → E = x.length) := Lib.hid (fun h => by rw [← hE, show j + 1 = L.length by omega, posG_all, HXX.out])
          have hNXT : Hid (∀ h : j + 1 < L.length, TAt w6 b (off + (j + 1) * 4) (tokOf L[j + 1].1 E).toI) := Lib.hid (fun h => by
            obtain ⟨b', off', e, hc⟩ := HO6.out.at (j + 1) (by have := HON.out; omega)
            injection e with e
            injection e with e1 e2
            subst e1 e2
            rw [List.getElem_map, toksG_at L 0 (j + 1) h, hE, Nat.zero_add] at hc
            exact hc)
          obtain ⟨PC, hPC⟩ : ∃ PC, pieceT L[j] = PC := ⟨_, rfl⟩
          have hone := scan_one hgj (by rw [← hcutx, List.length_take, List.length_drop]; omega)
          rw [hPC] at hcutx hone
          have hPCl : PC.length ≤ 65536 := by rw [← hcutx, List.length_take, List.length_drop]; omega
          obtain ⟨TJ, hTJ⟩ : ∃ T, L[j].1 = T := ⟨_, rfl⟩
          rw [hTJ] at hcell hone hbb
          have HTJ := Lib.hid hcell
          have HON1 := Lib.hid hone
          have HBB := Lib.hid hbb
          have HC := Lib.hid (hcell.below HBW.out)
          obtain ⟨c0, c1, c2, c3⟩ := HC.out
          have HKS := Lib.hid (tScan_any PC m w7 (by omega) (max_below HM6.out HBW.out))
          rw [HON1.out] at HKS
          clear hcell hone hbb hT hsucc hPl hgj h1 h2 h3 h4 hi hf hP hE hPC hTJ
          simp only [Tok.toI, tokOf] at c0 c1 c2 c3
          go_upto_if 88 with fail
          go_cut [14] (fun z wx => z = .int .i64 E ∧ w7 = wx)
          case first =>
            by_cases hnx : (j : Int) + 1 < (L.length : Int)
            · obtain ⟨e0, e1, e2, e3⟩ := (hNXT.out (by omega)).below HBW.out
              simp only [Tok.toI, tokOf] at e0 e1 e2 e3
              go_wp2_with fail
              go_meet
              exact ⟨rfl, rfl⟩
            · have hee := hEND.out (by omega)
              go_wp2_with fail
              go_meet
              exact ⟨by rw [hee], rfl⟩
          case rest =>
            obtain ⟨rfl, rfl⟩ := hcut
            go_wp2_with fail
            ((with_reducible refine HKS.out.mono ?_))
            rintro e w8 ⟨vn, rfl, ho, hb⟩
            have HO8 := Lib.hid ho.toI.sl
            have HC8 := Lib.hid (HC.out.below hb)
            have HB8 := Lib.hid (bel_then HBW.out (Nat.le_refl _) hb)
            clear ho hb HKS c0 c1 c2 c3
            obtain ⟨na, nc, hnv, _⟩ := HO8.out
            subst hnv
            simp only [List.map_cons, List.map_nil, List.length_cons, List.length_nil, Nat.zero_add] at HO8 ⊢
            obtain ⟨b', off', rfl, hc'⟩ := HO8.out.at 0 (by simp)
            simp only [List.getElem_cons_zero, Nat.zero_mul, Nat.add_zero] at hc'
            have HC9 := Lib.hid hc'
            clear hc' HO8
            have K1 := Lib.hid (bare_any ((itT TJ).1 : Nat) ((itT TJ).2.1 : Nat) (0 : Int) (itT TJ).2.2.1)
            have K2 := Lib.hid (bare_any ((itT TJ).1 : Nat) ((itT TJ).2.1 : Nat) (P : Nat) (itT TJ).2.2.1)
            rw [show bareT ⟨((itT TJ).1 : Nat), ((itT TJ).2.1 : Nat), (itT TJ).2.2.1, (0 : Int)⟩ = bareT TJ from HBB.out 0] at K1
            rw [show bareT ⟨((itT TJ).1 : Nat), ((itT TJ).2.1 : Nat), (itT TJ).2.2.1, (P : Nat)⟩ = bareT TJ from HBB.out P] at K2
            simp only [Tok.toI, tokOf] at HC8 HC9
            obtain ⟨Y, hY⟩ : ∃ Y, bareT TJ = Y := ⟨_, rfl⟩
            rw [hY] at K1 K2
            obtain ⟨zz, hzz⟩ : ∃ z, itT TJ = z := ⟨_, rfl⟩
            rw [hzz] at HC8 HC9 K1 K2
            clear hzz
            obtain ⟨z1, z2, z3, z4⟩ := zz
            obtain ⟨yk, yn, ys, yp⟩ := Y
            simp only at HC8 HC9 K1 K2
            have hN := tok_same yk yn yp ys
            unfold TokI.val at K1 K2
            simp only [tokV] at K1 K2
            clear hY HBB HTJ HON1 HC
            go_upto_region 23 with fail
            have T1 : ∀ y, Grows w8 y → TAt y b (off + j * 4) ⟨z1, z2, z3, P⟩ := fun y h => HC8.out.below h
            have T2 : ∀ y, Grows w8 y → TAt y b' off' ⟨z1, z2, z3, (0 : Int)⟩ := fun y h => HC9.out.below h
            refine wp_region_plan (Grows _) 26 [.reads [0, 1, 2, 3, 4, 5, 6, 7, 8, 9, 10, 12, 13, 14, 15], .act 11, .act 16, .reads [17, 18, 19, 20, 21, 22, 23, 24, 25]] (by kernel_rfl) (by kernel_rfl) (by kernel_rfl) (by kernel_rfl) (by kernel_rfl) (fun _ _ d _ _ h => by cases d <;> exact h) (Grows.self _) ?_
            refine wpPlan_reads ?_
            simp only [pickOps, List.drop_succ_cons, List.drop_zero, List.take_succ_cons, List.take_zero, List.cons_append, List.nil_append]
            repeat (go_big_quiet_step (first | (intro hb; obtain ⟨d0, d1, d2, d3⟩ := T1 _ hb; simp only [d0, d1, d2, d3, Result.andThen]; exact ⟨trivial, rfl⟩) | (intro hb; obtain ⟨d0, d1, d2, d3⟩ := T2 _ hb; simp only [d0, d1, d2, d3, Result.andThen]; exact ⟨trivial, rfl⟩)))
            refine wpQuiet_nil ?_
            refine wpPlan_act rfl ?_
            simp only [pickOps, List.drop_succ_cons, List.drop_zero, List.take_succ_cons, List.take_zero, List.cons_append, List.nil_append]
            go_wp2_with fail
            ((with_reducible refine (K1.out _).mono ?_))
            rintro e w9 ⟨rfl, hb⟩
            have HG9 := Lib.hid ((Grows.self w8).trans hb)
            clear hb K1
            go_wp2_with fail
            refine ⟨fun _ => HG9.out, ?_⟩
            refine wpPlan_act rfl ?_
            simp only [pickOps, List.drop_succ_cons, List.drop_zero, List.take_succ_cons, List.take_zero, List.cons_append, List.nil_append]
            go_wp2_with fail
            ((with_reducible refine (K2.out _).mono ?_))
            rintro e wa ⟨rfl, hb⟩
            have HGa := Lib.hid (HG9.out.trans hb)
            clear hb K2 HG9
            go_wp2_with fail
            refine ⟨fun _ => HGa.out, ?_⟩
            refine wpPlan_reads ?_
            simp only [pickOps, List.drop_succ_cons, List.drop_zero, List.take_succ_cons, List.take_zero, List.cons_append, List.nil_append]
            repeat (go_big_quiet_step (first | (intro hb; obtain ⟨d0, d1, d2, d3⟩ := T1 _ hb; simp only [d0, d1, d2, d3, Result.andThen]; exact ⟨trivial, rfl⟩) | (intro hb; obtain ⟨d0, d1, d2, d3⟩ := T2 _ hb; simp only [d0, d1, d2, d3, Result.andThen]; exact ⟨trivial, rfl⟩)))
            refine wpQuiet_nil ?_
            refine wpPlan_nil ?_
            go_wp2_with fail
            go_roundw
            case rel => exact ⟨j + 1, by go_num, by omega, Lib.hid (HB8.out.trans (HGa.out.mono HB8.out.size))⟩
            case measure => simp [intOf]; omega
        · go_wp2_with fail
          go_ret
          exact ⟨rfl, HB6.out.trans (HBW.out.mono HB6.out.size)⟩
end Go.Proofs.Ytebmkalgdbkijaa
