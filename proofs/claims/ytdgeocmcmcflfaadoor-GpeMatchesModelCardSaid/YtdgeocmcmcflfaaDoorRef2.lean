import Derived.Test.YtdgeocmcmcflfaaDoorRef
/- The reference block of events: the walks of its functions, each once, over the same plain model. -/
namespace Go.Proofs.YtdgeocmcmcflfaaDoor
open Go.RowKit
attribute [local go_sem] ByteArray.mk_append_mk cut_mk
set_option maxHeartbeats 1000000 in
theorem rwake_any (b g : Nat) (l : List Ev) (w : World) (h : RefAt w b g l) :
    Calls Tryd.prog 21 #[.pointer (some ⟨b, 0, none⟩)] w fun e' w' => e' = .returned (.bool (decide (word wks l ≠ 0))) ∧ w = w' := by
  have H := Lib.hid h
  obtain ⟨_, hl, cap, hb, ho⟩ := h
  have cb : w.cell? ⟨b, 0, none⟩ = some (.slice (some ⟨g, 0, none⟩) l.length cap) := by rw [cell_of_row w b 0 _ _ _ hb]; rfl
  clear hb ho
  go_enter Tryd.func21, Tryd.ntmps21
  go_wp2_with fail
  go_loop [3] (fun i => ∃ k : Nat, k ≤ l.length ∧ i = .int .i64 k ∧ (word wks l = 0 ↔ word wks (l.drop k) = 0)) (fun i => l.length - (intOf i).toNat)
  case atStart => exact ⟨0, Nat.zero_le _, rfl, by simp⟩
  case round =>
    obtain ⟨k, hk, rfl, hf⟩ := hrel
    have HF := Lib.hid hf
    clear hf
    by_cases hlt : k < l.length
    · obtain ⟨e, he⟩ : ∃ e, l[k]? = some e := ⟨_, List.getElem?_eq_getElem hlt⟩
      obtain ⟨lv, ln, st, en, wk, bz⟩ := e
      obtain ⟨c2, f2⟩ := H.out.cell he (j := 2) (by omega) rfl
      obtain ⟨c4, f4⟩ := H.out.cell he (j := 4) (by omega) rfl
      clear f2 f4
      have HE := Lib.hid he
      clear he
      have hd : wks ⟨lv, ln, st, en, wk, bz⟩ = false → (word wks l = 0 ↔ word wks (l.drop (k + 1)) = 0) := fun hr => by
        rw [HF.out, wks_drop l k _ HE.out, hr]
        constructor <;> intro h0 <;> simp at h0 ⊢ <;> omega
      have HD := Lib.hid hd
      clear hd
      cases st
      · go_wp2
        go_round
        case rel => exact ⟨k + 1, by omega, by go_num, HD.out rfl⟩
        case measure => simp [intOf]; omega
      · cases wk
        · go_wp2
          go_round
          case rel => exact ⟨k + 1, by omega, by go_num, HD.out rfl⟩
          case measure => simp [intOf]; omega
        · have HY : Hid (word wks l ≠ 0) := Lib.hid (wks_mem l k _ HE.out rfl)
          go_wp2
          go_ret
          exact ⟨by rw [decide_eq_false HY.out]; rfl, rfl⟩
    · have HN : Hid (word wks l = 0) := Lib.hid (HF.out.2 (by rw [List.drop_eq_nil_of_le (by omega)]; rfl))
      go_wp2
      go_ret
      exact ⟨by rw [HN.out]; rfl, rfl⟩
end Go.Proofs.YtdgeocmcmcflfaaDoor
