/- Slices of tokens; someTokens, at, sameTokens: the walks. -/
import Derived.Test.YtebmkalgdbkijaaDoorTlc
namespace Go.Proofs.YtebmkalgdbkijaaDoor
open Go.RowKit
set_option linter.unusedVariables false
set_option linter.unusedSimpArgs false
attribute [local go_sem] ByteArray.mk_append_mk bs_get bs_cut bs_end

/-- A token's four cells. -/
def TAt (w : World) (b off : Nat) (t : TokI) : Prop := w.cell? ⟨b, off, none⟩ = some (.int .i64 t.kind) ∧ w.cell? ⟨b, off + 1, none⟩ = some (.int .u64 t.num) ∧ w.cell? ⟨b, off + 2, none⟩ = some (.string ⟨t.str.toArray⟩) ∧ w.cell? ⟨b, off + 3, none⟩ = some (.int .i64 t.pos)
/-- The value is a slice that reads as these tokens. -/
def TSl (w : World) (v : Value) (l : List TokI) : Prop :=
  ∃ (a : Option Addr) (cap : Nat), v = .slice a l.length cap ∧ (l ≠ [] → ∃ b off, a = some ⟨b, off, none⟩ ∧ ∀ i (h : i < l.length), TAt w b (off + i * 4) l[i])
theorem TAt.below {w w' : World} {b off : Nat} {t : TokI} (h : TAt w b off t) (hb : Below w.heap.size w w') : TAt w' b off t := by
  obtain ⟨h0, h1, h2, h3⟩ := h
  have hlt : b < w.heap.size := World.block_lt_of_cell? w ⟨b, off, none⟩ h0
  refine ⟨?_, ?_, ?_, ?_⟩
  · rw [hb.cell (p := ⟨b, off, none⟩) hlt]; exact h0
  · rw [hb.cell (p := ⟨b, off + 1, none⟩) hlt]; exact h1
  · rw [hb.cell (p := ⟨b, off + 2, none⟩) hlt]; exact h2
  · rw [hb.cell (p := ⟨b, off + 3, none⟩) hlt]; exact h3
theorem TSl.below {w w' : World} {v : Value} {l : List TokI} (h : TSl w v l) (hb : Below w.heap.size w w') : TSl w' v l := by
  obtain ⟨a, cap, hv, hc⟩ := h
  refine ⟨a, cap, hv, fun hn => ?_⟩
  obtain ⟨b, off, ha, hk⟩ := hc hn
  exact ⟨b, off, ha, fun i hi => (hk i hi).below hb⟩
/-- The cells of tokens. -/
def tcI : List TokI → List Value
  | [] => []
  | t :: r => .int .i64 t.kind :: .int .u64 t.num :: .string ⟨t.str.toArray⟩ :: .int .i64 t.pos :: tcI r
theorem tcI_app : ∀ l m : List TokI, tcI (l ++ m) = tcI l ++ tcI m
  | [], m => rfl
  | t :: r, m => by rw [List.cons_append, tcI, tcI, tcI_app r m]; rfl
theorem tcI_tok : ∀ l : List Tok, tcI (l.map Tok.toI) = tokCells l
  | [] => rfl
  | t :: r => by rw [List.map_cons, tcI, tcI_tok r]; rfl
theorem tcI_at : ∀ (l : List TokI) (i : Nat) (h : i < l.length), (tcI l)[i * 4]? = some (.int .i64 l[i].kind) ∧ (tcI l)[i * 4 + 1]? = some (.int .u64 l[i].num) ∧ (tcI l)[i * 4 + 2]? = some (.string ⟨l[i].str.toArray⟩) ∧ (tcI l)[i * 4 + 3]? = some (.int .i64 l[i].pos)
  | t :: r, 0, _ => ⟨rfl, rfl, rfl, rfl⟩
  | t :: r, i + 1, h => by
    have := tcI_at r i (by simpa using h)
    rw [show (i + 1) * 4 = i * 4 + 4 by omega]
    exact this
/-- A slice of tokens of the call's own. -/
def ToksI (w : World) (B : Nat) (v : Value) (l : List TokI) : Prop := w.ownsRow B 27 4 v l.length (tcI l)
theorem ToksI.nil (w : World) (B : Nat) : ToksI w B (.slice none 0 0) [] := ⟨rfl, .inl ⟨rfl, rfl⟩⟩
theorem ToksI.below {w w' : World} {B : Nat} {v : Value} {l : List TokI} (h : ToksI w B v l) (hb : Below w.heap.size w w') : ToksI w' B v l := own_below h hb
theorem ToksI.alloc {w : World} {B : Nat} {v : Value} {l : List TokI} (h : ToksI w B v l) (o : Obj) : ToksI (w.alloc o) B v l := h.below ((Below.refl _ _).alloc (Nat.le_refl _) o)
theorem ToksI.form {w : World} {B : Nat} {v : Value} {l : List TokI} (h : ToksI w B v l) : ∃ a c, v = .slice a l.length c := by
  rcases h.2 with ⟨rfl, h0⟩ | ⟨g, cap, cur, rfl, _⟩
  · exact ⟨none, 0, by rw [h0]⟩
  · exact ⟨_, cap, rfl⟩
theorem ToksI.kept {w w1 w2 : World} {B B0 : Nat} {v : Value} {l : List TokI} (ho : ToksI w1 B v l) (h : Below B0 w w1) (hg : w1.grownBy w2 v.ownBlock) (hB : B0 ≤ w1.heap.size) (hB2 : B0 ≤ B) : Below B0 w w2 :=
  h.grown hg hB (fun k hk => Nat.le_trans hB2 (own_row ho hk))
theorem Toks.toI {w : World} {B : Nat} {v : Value} {l : List Tok} (h : Toks w B v l) : ToksI w B v (l.map Tok.toI) := by
  unfold ToksI
  rw [tcI_tok, List.length_map]
  exact h
theorem ToksI.sl {w : World} {B : Nat} {v : Value} {l : List TokI} (h : ToksI w B v l) : TSl w v l := by
  obtain ⟨a, c, rfl⟩ := h.form
  refine ⟨a, c, rfl, fun hn => ?_⟩
  obtain ⟨h1, h2⟩ := h
  have hp := List.length_pos_iff.2 hn
  rcases h2 with ⟨hv, h0⟩ | ⟨g, cap, cur, hv, hb, hg, hn, hm, hs, ht⟩
  · omega
  · injection hv with e1 e2 e3
    refine ⟨g, 0, e1, fun i hi => ?_⟩
    obtain ⟨k0, k1, k2, k3⟩ := tcI_at l i hi
    rw [← ht] at k0 k1 k2 k3
    rw [List.getElem?_take, if_pos (by omega)] at k0 k1 k2 k3
    rw [Nat.zero_add]
    refine ⟨?_, ?_, ?_, ?_⟩
    · rw [cell_of_row w g _ cur _ (0, 0) hg]; simpa using k0
    · rw [cell_of_row w g _ cur _ (0, 0) hg]; simpa using k1
    · rw [cell_of_row w g _ cur _ (0, 0) hg]; simpa using k2
    · rw [cell_of_row w g _ cur _ (0, 0) hg]; simpa using k3
/-- One token appended. -/
theorem wpList_append_tokI {w : World} {ops : Array Oper} {rest : List Oper} {o : Oper} {a : Act} {Q : Exit → Act → World → Prop} (hgd : o.guard = none) (s x : Operand)
    (ho : o.op = .call { callee := .builtin .append, args := #[s, x], argTypes := #[22, 22] })
    (B : Nat) (v : Value) (l : List TokI) (hs : a.eval s = v) (hown : ToksI w B v l) (g : Nat) (t : TokI)
    (hx : a.eval x = .slice (some ⟨g, 0, none⟩) 1 1) (hb : w.heap[g]? = some (tObj t.kind t.num t.str t.pos)) (hlen : l.length ≤ 1000000) (hB : B ≤ w.heap.size)
    (h : ∀ v' w', ToksI w' B v' (l ++ [t]) → w.grownBy w' v.ownBlock → wpList Tryd.prog ops Q rest (a.put o.dst v') w') : wpList Tryd.prog ops Q (o :: rest) a w := by
  obtain ⟨i0, hi, hz0, hz1, hz2⟩ := info_parts infoTok
  obtain ⟨c0, c1, c2, c3⟩ := cells4 hb
  refine wpList_append_own _ hgd s x _ ho B 27 i0 _ 4 40 Tryd.underlying22 hi hz0 hz1 hz2 rfl (by decide) v l.length _ hs hown ⟨g, 0, none⟩ 1 1 (tcI [t]) hx rfl ?_ ?_ (by unfold maxLen; omega) (by omega) hB ?_
  · intro j z hj
    match j, hj with
    | 0, hj => cases hj; exact c0
    | 1, hj => cases hj; exact c1
    | 2, hj => cases hj; exact c2
    | 3, hj => cases hj; exact c3
  · intro z hz
    simp only [tcI, List.mem_cons, List.not_mem_nil, or_false] at hz
    rcases hz with rfl | rfl | rfl | rfl <;> rfl
  · intro v' w' h1 h2 _
    refine h v' w' ?_ h2
    unfold ToksI
    rw [List.length_append, tcI_app]
    exact h1
set_option maxRecDepth 100000 in
set_option maxHeartbeats 4000000 in
theorem someToks_any (v : Value) (l : List TokI) (w : World) (hv : TSl w v l) (hl : l.length ≤ 9223372036854770000) (hs : ∀ t ∈ l, t.str.length ≤ 9223372036854775000) :
    Calls Tryd.prog 4 #[v] w fun e w' => ∃ v', e = .returned v' ∧ ToksI w' w.heap.size v' ((l.take 40).map someT) ∧ Below w.heap.size w w' := by
  have HV := Lib.hid hv
  have HS := Lib.hid hs
  obtain ⟨a, cap, rfl, hc⟩ := hv
  clear hc hs
  obtain ⟨X, hX⟩ : ∃ X, Hid ((l.take 40).map someT = X) := ⟨_, Lib.hid rfl⟩
  rw [hX.out]
  go_enter Tryd.func4, Tryd.ntmps4
  go_wp2_with fail
  go_loopw [4, 3] (fun i u wr => ∃ k : Nat, i = .int .i64 k ∧ k ≤ l.length ∧ k ≤ 40 ∧ Hid (ToksI wr w.heap.size u ((l.take k).map someT)) ∧ Hid (Below w.heap.size w wr)) (fun i _ _ => 40 - (intOf i).toNat)
  case atStart => exact ⟨0, rfl, by omega, by omega, Lib.hid (ToksI.nil _ _), Lib.hid (Below.refl _ _)⟩
  case round =>
    obtain ⟨k, rfl, hk, hk40, HO, HB⟩ := hrel
    obtain ⟨ua, uc, hu⟩ := HO.out.form
    subst hu
    obtain ⟨w1, rfl⟩ : ∃ y : World, y = wr := ⟨_, rfl⟩
    have hlk : ((l.take k).map someT).length = k := by rw [List.length_map, List.length_take]; omega
    obtain ⟨L, hL⟩ : ∃ L, Hid ((l.take k).map someT = L) := ⟨_, Lib.hid rfl⟩
    rw [hL.out] at HO hlk ⊢
    have HLK := Lib.hid hlk
    clear hlk
    by_cases h60 : (k : Int) < 40
    · by_cases hlt : (k : Int) < (l.length : Int)
      · have hlt' : k < l.length := by omega
        obtain ⟨a', cap', hv', hc⟩ := HV.out.below HB.out
        injection hv' with e1 _ e2
        subst e1 e2
        obtain ⟨b, off, rfl, hcell⟩ := hc (by rintro rfl; simp at hlt')
        obtain ⟨c0, c1, c2, c3⟩ := hcell k hlt'
        have HX2 : Hid ((l.take (k + 1)).map someT = L ++ [someT l[k]]) := Lib.hid (by rw [List.take_succ_eq_append_getElem hlt', List.map_append, hL.out]; rfl)
        have HC := Lib.hid (fun w => some_any l[k] w (HS.out _ (List.getElem_mem hlt')))
        obtain ⟨T, hT⟩ : ∃ T, l[k] = T := ⟨_, rfl⟩
        rw [hT] at c0 c1 c2 c3 HX2 HC
        obtain ⟨tk, tn, ts, tp⟩ := T
        simp only at c0 c1 c2 c3
        unfold TokI.val tokV at HC
        clear hcell hc hT
        obtain ⟨Y, hY⟩ : ∃ Y, someT ⟨tk, tn, ts, tp⟩ = Y := ⟨_, rfl⟩
        rw [hY] at HX2 HC
        obtain ⟨yk, yn, ys, yp⟩ := Y
        clear hY
        go_wp2_with fail
        ((with_reducible refine (HC.out _).mono ?_))
        rintro e w2 ⟨rfl, hb⟩
        have HO2 := Lib.hid (HO.out.below hb)
        have HB2 := Lib.hid (bel_then HB.out (Nat.le_refl _) hb)
        clear hb c0 c1 c2 c3
        simp only []
        go_wp2_with (at_builtin; refine wpList_append_tokI rfl _ _ rfl w.heap.size _ L rfl (HO2.out.alloc _) w2.heap.size ⟨yk, yn, ys, yp⟩ rfl (heap_alloc_new _ _) (by have := HLK.out; omega) (HB2.out.alloc HB2.out.size _).size ?_; intro v3 w3 ho3 hg; have HO3 := Lib.hid ho3; have HB3 := Lib.hid (ToksI.kept (HO2.out.alloc _) (HB2.out.alloc HB2.out.size _) hg (HB2.out.alloc HB2.out.size _).size (Nat.le_refl _)); clear ho3 hg)
        go_roundw
        case rel => exact ⟨k + 1, by go_num, by omega, by omega, by rw [HX2.out]; exact HO3, HB3⟩
        case measure => simp [intOf]; omega
      · have hx2 : Hid (L = X) := Lib.hid (by rw [← hX.out, ← hL.out, List.take_of_length_le (by omega), List.take_of_length_le (by omega)])
        go_wp2_with fail
        go_ret
        exact ⟨_, rfl, by rw [← hx2.out]; exact HO.out, HB.out⟩
    · have hx2 : Hid (L = X) := Lib.hid (by rw [← hX.out, ← hL.out, show k = 40 by omega])
      go_wp2_with fail
      all_goals go_ret
      all_goals exact ⟨_, rfl, by rw [← hx2.out]; exact HO.out, HB.out⟩
end Go.Proofs.YtebmkalgdbkijaaDoor
