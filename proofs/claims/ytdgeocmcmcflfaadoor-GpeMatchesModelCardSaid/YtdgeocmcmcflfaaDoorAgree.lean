import Derived.Test.YtdgeocmcmcflfaaDoorRef3
/- The block and the reference block: each pair of functions answers alike. -/
namespace Go.Proofs.YtdgeocmcmcflfaaDoor
open Go.RowKit

structure AgreeE (F G : Nat) (ev : Int) (l l' : List Ev) (v : Value) : Prop where
  gpe : ∀ b w, GpeAt w b l → Calls Tryd.prog F #[.pointer (some ⟨b, 0, none⟩), .int .i64 ev] w fun e w' => e = .returned v ∧ GpeAt w' b l' ∧ w.grownBy w' (some b)
  ref : ∀ b g w, RefAt w b g l → Calls Tryd.prog G #[.pointer (some ⟨b, 0, none⟩), .int .i64 ev] w fun e w' => e = .returned v ∧ RefAt w' b g l' ∧ w.grownBy w' (some g)
  len : l'.length = l.length
structure AgreeO (F G : Nat) (ev : Int) (on : Bool) (l l' : List Ev) (v : Value) : Prop where
  gpe : ∀ b w, GpeAt w b l → Calls Tryd.prog F #[.pointer (some ⟨b, 0, none⟩), .int .i64 ev, .bool on] w fun e w' => e = .returned v ∧ GpeAt w' b l' ∧ w.grownBy w' (some b)
  ref : ∀ b g w, RefAt w b g l → Calls Tryd.prog G #[.pointer (some ⟨b, 0, none⟩), .int .i64 ev, .bool on] w fun e w' => e = .returned v ∧ RefAt w' b g l' ∧ w.grownBy w' (some g)
  len : l'.length = l.length

theorem ev_cases (ev : Int) (l : List Ev) : (ev < 0 ∨ (l.length : Int) ≤ ev) ∨ ∃ (k : Nat) (e : Ev), ev = k ∧ l[k]? = some e := by
  by_cases h : ev < 0 ∨ (l.length : Int) ≤ ev
  · exact .inl h
  · refine .inr ⟨ev.toNat, l[ev.toNat]'(by omega), by omega, List.getElem?_eq_getElem _⟩
theorem of_same {F : Nat} {xs : Array Value} {w : World} {v : Value} {A : World → Prop} {b : Nat} (h : Calls Tryd.prog F xs w fun e w' => e = .returned v ∧ w = w') (ha : A w) : Calls Tryd.prog F xs w fun e w' => e = .returned v ∧ A w' ∧ w.grownBy w' (some b) := by
  refine h.mono ?_
  rintro e w' ⟨rfl, rfl⟩
  exact ⟨rfl, ha, grown_refl _ _⟩
theorem of_drewN {F : Nat} {xs : Array Value} {w : World} {v : Value} {A : World → Prop} {b : Nat} (h : Calls Tryd.prog F xs w fun e w' => e = .returned v ∧ ∃ n, w' = w.drewN n) (ha : ∀ n, A (w.drewN n)) : Calls Tryd.prog F xs w fun e w' => e = .returned v ∧ A w' ∧ w.grownBy w' (some b) := by
  refine h.mono ?_
  rintro e w' ⟨rfl, n, rfl⟩
  exact ⟨rfl, ha n, grown_drewN _ _ _⟩

theorem enable_agree (ev : Int) (on : Bool) (l : List Ev) : ∃ (c : Int) (l' : List Ev), AgreeO 11 28 ev on l l' (.int .i64 c) := by
  rcases ev_cases ev l with h | ⟨k, e, rfl, he⟩
  · exact ⟨6, l, fun b w hw => of_same (A := fun w => GpeAt w b l) (enable_no b l ev on w hw h) hw, fun b g w hw => of_same (A := fun w => RefAt w b g l) (renable_no b g l ev on w hw h) hw, rfl⟩
  · exact ⟨0, _, fun b w hw => enable_yes b k l e on w hw he, fun b g w hw => renable_yes b g k l e on w hw he, List.length_set⟩
theorem enableWake_agree (ev : Int) (on : Bool) (l : List Ev) : ∃ (c : Int) (l' : List Ev), AgreeO 23 29 ev on l l' (.int .i64 c) := by
  rcases ev_cases ev l with h | ⟨k, e, rfl, he⟩
  · exact ⟨6, l, fun b w hw => of_same (A := fun w => GpeAt w b l) (enableWake_no b l ev on w hw h) hw, fun b g w hw => of_same (A := fun w => RefAt w b g l) (renableWake_no b g l ev on w hw h) hw, rfl⟩
  · exact ⟨0, _, fun b w hw => enableWake_yes b k l e on w hw he, fun b g w hw => renableWake_yes b g k l e on w hw he, List.length_set⟩
theorem set_agree (ev : Int) (on : Bool) (l : List Ev) : ∃ (c : Int) (l' : List Ev), AgreeO 12 32 ev on l l' (.int .i64 c) := by
  rcases ev_cases ev l with h | ⟨k, e, rfl, he⟩
  · exact ⟨6, l, fun b w hw => of_same (A := fun w => GpeAt w b l) (set_no b l ev on w hw h) hw, fun b g w hw => of_same (A := fun w => RefAt w b g l) (rset_no b g l ev on w hw h) hw, rfl⟩
  · exact ⟨0, _, fun b w hw => set_yes b k l e on w hw he, fun b g w hw => rset_yes b g k l e on w hw he, List.length_set⟩
theorem complete_agree (ev : Int) (l : List Ev) : ∃ (c : Int) (l' : List Ev), AgreeE 15 31 ev l l' (.int .i64 c) := by
  rcases ev_cases ev l with h | ⟨k, ⟨lv, ln, st, en, wk, bz⟩, rfl, he⟩
  · exact ⟨6, l, fun b w hw => of_same (A := fun w => GpeAt w b l) (complete_no b l ev w hw h) hw, fun b g w hw => of_same (A := fun w => RefAt w b g l) (rcomplete_no b g l ev w hw h) hw, rfl⟩
  · cases bz
    · exact ⟨9, l, fun b w hw => of_same (A := fun w => GpeAt w b l) (complete_state b k l _ w hw he rfl) hw, fun b g w hw => of_same (A := fun w => RefAt w b g l) (rcomplete_state b g k l _ _ _ _ _ w hw he) hw, rfl⟩
    · exact ⟨0, _, fun b w hw => complete_yes b k l _ _ _ _ _ w hw he, fun b g w hw => rcomplete_yes b g k l _ _ _ _ _ w hw he, List.length_set⟩
theorem begin_agree (ev : Int) (l : List Ev) : ∃ (s : ByteArray) (c : Int) (l' : List Ev), AgreeE 14 30 ev l l' (.tuple #[.string s, .int .i64 c]) := by
  rcases ev_cases ev l with h | ⟨k, ⟨lv, ln, st, en, wk, bz⟩, rfl, he⟩
  · exact ⟨_, 6, l, fun b w hw => of_same (A := fun w => GpeAt w b l) (begin_no b l ev w hw h) hw, fun b g w hw => of_same (A := fun w => RefAt w b g l) (rbegin_no b g l ev w hw h) hw, rfl⟩
  · cases hr : rdy ⟨lv, ln, st, en, wk, bz⟩
    · exact ⟨_, 9, l, fun b w hw => of_drewN (A := fun w => GpeAt w b l) (begin_state b k l _ w hw he hr) (fun n => hw), fun b g w hw => of_same (A := fun w => RefAt w b g l) (rbegin_state b g k l _ _ _ _ _ _ w hw he hr) hw, rfl⟩
    · exact ⟨_, 0, _, fun b w hw => begin_yes b k l _ _ _ _ _ _ w hw he hr, fun b g w hw => rbegin_yes b g k l _ _ _ _ _ _ w hw he hr, List.length_set⟩

/-- The block, the reference block, and what the laws ask of the memory. -/
structure Both (w : World) (D B R g : Nat) (l : List Ev) : Prop where
  gpe : GpeAt w B l
  ref : RefAt w R g l
  hB : D ≤ B
  hg : D ≤ g
  hBR : B ≠ R
  hBg : B ≠ g
theorem GpeAt.grown {w w' : World} {b r : Nat} {l : List Ev} (h : GpeAt w b l) (hg : w.grownBy w' (some r)) (hne : b ≠ r) : GpeAt w' b l :=
  ⟨by rw [hg.block b (Array.getElem?_eq_some_iff.1 h.1).1 (by simpa using hne)]; exact h.1, h.2⟩
theorem RefAt.grown {w w' : World} {b g r : Nat} {l : List Ev} (h : RefAt w b g l) (hg : w.grownBy w' (some r)) (hb : b ≠ r) (hgr : g ≠ r) : RefAt w' b g l := by
  obtain ⟨h1, h2, cap, h3, h4⟩ := h
  exact ⟨h1, h2, cap, by rw [hg.block b (Array.getElem?_eq_some_iff.1 h3).1 (by simpa using hb)]; exact h3, h4.kept hg (.inr (by simpa [Value.ownBlock] using hgr))⟩
theorem Both.step {w w1 w2 : World} {D B R g : Nat} {l l' : List Ev} (h : Both w D B R g l) (h1 : GpeAt w1 B l') (h2 : RefAt w2 R g l') (g2 : w1.grownBy w2 (some g)) : Both w2 D B R g l' :=
  ⟨h1.grown g2 h.hBg, h2, h.hB, h.hg, h.hBR, h.hBg⟩
theorem Both.mid {w w1 : World} {D B R g : Nat} {l : List Ev} (h : Both w D B R g l) (g1 : w.grownBy w1 (some B)) : RefAt w1 R g l :=
  h.ref.grown g1 (fun e => h.hBR e.symm) (fun e => h.hBg e.symm)
theorem Both.below {w w1 w2 : World} {D B R g : Nat} {l : List Ev} (h : Both w D B R g l) (hD : D ≤ w.heap.size) (g1 : w.grownBy w1 (some B)) (g2 : w1.grownBy w2 (some g)) : Below D w w2 :=
  (((Below.refl _ _).grown g1 hD (fun k e => by cases e; exact h.hB)).grown g2 (Nat.le_trans hD g1.size) (fun k e => by cases e; exact h.hg))
end Go.Proofs.YtdgeocmcmcflfaaDoor
