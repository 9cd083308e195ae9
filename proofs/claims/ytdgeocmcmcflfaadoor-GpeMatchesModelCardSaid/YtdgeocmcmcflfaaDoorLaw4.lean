/- The walk of GpeNoEdgeLost. -/
import Derived.Test.YtdgeocmcmcflfaaDoorLaw5
import Derived.Deep.DeepCutAuto
import Derived.Deep.CutBlock
namespace Go.Proofs.YtdgeocmcmcflfaaDoor
open Go.RowKit

/-- An operation: its kind, event and flag. -/
structure OpV where
  kind : Int
  event : Int
  on : Bool
/-- The operations of a slice, in memory. -/
def OpsAt (w : World) (ab ao : Nat) (ops : List OpV) : Prop := ∀ (i : Nat) (h : i < ops.length),
  w.cell? ⟨ab, ao + i * 3, none⟩ = some (.int .i64 ops[i].kind) ∧ w.cell? ⟨ab, ao + i * 3 + 1, none⟩ = some (.int .i64 ops[i].event) ∧ w.cell? ⟨ab, ao + i * 3 + 2, none⟩ = some (.bool ops[i].on)

/-- The block of three events that the law follows. -/
def EdgeAt (w : World) (B : Nat) (line pend hand : Bool) (wx : World) : Prop := ∃ e1 e2 : Ev, GpeAt wx B [⟨false, line, pend, true, false, hand⟩, e1, e2] ∧ e1.enable = false ∧ e2.enable = false ∧ Below w.heap.size w wx
/-- What holds behind the switch. -/
def EdgeCut (w : World) (B : Nat) (s5 s6 s7 : Value) (wx : World) : Prop := ∃ line pend hand : Bool, s5 = .bool line ∧ s6 = .bool pend ∧ s7 = .bool hand ∧ EdgeAt w B line pend hand wx
theorem EdgeAt.tab {w wx : World} {B : Nat} {a b c : Bool} (h : EdgeAt w B a b c wx) (hT : Tab w) (h0 : 0 < w.heap.size) : Tab wx := by
  obtain ⟨e1, e2, hg, h1, h2, hb⟩ := h
  exact hT.below h0 hb
theorem edge_first {a b c : Bool} {e1 e2 : Ev} (h1 : e1.enable = false) (h2 : e2.enable = false) : first rdy [⟨false, a, b, true, false, c⟩, e1, e2] = if b && !c then some 0 else none := by
  cases b <;> cases c <;> simp [first, rdy, h1, h2]

/-- Set of one of the other two events. -/
theorem set_edge (B : Nat) (e0 : Ev) {e1 e2 : Ev} (ev : Int) (on : Bool) (w : World) (h1 : 1 ≤ ev) (h2 : ev ≤ 2) (h : GpeAt w B [e0, e1, e2]) (he1 : e1.enable = false) (he2 : e2.enable = false) :
    Calls Tryd.prog 12 #[.pointer (some ⟨B, 0, none⟩), .int .i64 ev, .bool on] w fun e w' => e = .returned (.int .i64 0) ∧ ∃ f1 f2 : Ev, GpeAt w' B [e0, f1, f2] ∧ f1.enable = false ∧ f2.enable = false ∧ w.grownBy w' (some B) := by
  obtain rfl | rfl : ev = 1 ∨ ev = 2 := by omega
  · exact (set_yes B 1 _ e1 on w h rfl).mono fun _ _ ⟨a, b, c⟩ => ⟨a, setEv e1 on, e2, b, he1, he2, c⟩
  · exact (set_yes B 2 _ e2 on w h rfl).mono fun _ _ ⟨a, b, c⟩ => ⟨a, e1, setEv e2 on, b, he1, he2, c⟩

theorem set_edge' (B : Nat) (e0 : Ev) {e1 e2 : Ev} (q : Int) (on : Bool) (w : World) (h1 : 0 ≤ q) (h2 : q ≤ 1) (h : GpeAt w B [e0, e1, e2]) (he1 : e1.enable = false) (he2 : e2.enable = false) :
    Calls Tryd.prog 12 #[.pointer (some ⟨B, 0, none⟩), .int .i64 (IntKind.i64.wrap (1 + q)), .bool on] w fun e w' => e = .returned (.int .i64 0) ∧ ∃ f1 f2 : Ev, GpeAt w' B [e0, f1, f2] ∧ f1.enable = false ∧ f2.enable = false ∧ w.grownBy w' (some B) := by
  rw [IntWalk.i64_in (1 + q) ⟨by omega, by omega⟩]
  exact set_edge B e0 (1 + q) on w (by omega) (by omega) h he1 he2

set_option maxRecDepth 100000 in
set_option maxHeartbeats 2000000 in
theorem law_edge (ab ao cap : Nat) (ops : List OpV) (w : World) (hT : Tab w) (h0 : 0 < w.heap.size) (hab : ab < w.heap.size) (hO : OpsAt w ab ao ops) (hlen : ops.length ≤ 9223372036854775807) :
    Calls Tryd.prog 4 #[.slice (some ⟨ab, ao, none⟩) ops.length cap] w fun e w' => e = .returned (.bool true) ∧ Below w.heap.size w w' := by
  have HT := Lib.hid hT
  have HO := Lib.hid hO
  clear hT hO
  go_enter Tryd.func4, Tryd.ntmps4
  go_wp2_with fail
  refine (new_yes w.heap.size 0 [false, true, false] 3 _ ?_ (by simp) (by decide) (by decide)).mono ?_
  · intro i hi
    match i, hi with
    | 0, _ => simp [go_sem]
    | 1, _ => simp [go_sem]
    | 2, _ => simp [go_sem]
  rintro e w1 ⟨rfl, hg1, hb1⟩
  have hB : (w.alloc (Obj.cells #[Value.bool false, Value.bool true, Value.bool false] 4)).heap.size = w.heap.size + 1 := by simp
  have hbel1 : Below w.heap.size w w1 := Below.trans ((Below.refl _ _).alloc (Nat.le_refl _) _) (hb1.mono (by rw [hB]; omega))
  have hT1 : Tab w1 := HT.out.below h0 hbel1
  rw [hB] at hg1
  have hs1 : w.heap.size + 1 < w1.heap.size := hg1.lt
  have H1 : Hid (GpeAt w1 (w.heap.size + 1) [newEv false, newEv true, newEv false]) := Lib.hid hg1
  have HT1 := Lib.hid hT1
  have HB1 := Lib.hid hbel1
  clear hg1 hb1 hB hT1 hbel1
  go_wp2_with fail
  refine (awake_any _ HT1.out (by omega)).mono ?_
  rintro e w2 ⟨rfl, hb2⟩
  have H2 : Hid (GpeAt w2 (w.heap.size + 1) [newEv false, newEv true, newEv false]) := Lib.hid ⟨(hb2.block _ hs1).trans H1.out.1, H1.out.2⟩
  have HB2 : Hid (Below w.heap.size w w2) := Lib.hid (HB1.out.trans (hb2.mono HB1.out.size))
  have hs2 : w.heap.size + 1 < w2.heap.size := by have := hb2.size; omega
  clear hb2 H1 HT1 HB1 hs1
  go_wp2_with fail
  refine (enable_yes _ 0 _ (newEv false) true _ H2.out rfl).mono ?_
  rintro e w3 ⟨rfl, hg3, hr3⟩
  have H3 : Hid (GpeAt w3 (w.heap.size + 1) [⟨false, false, false, true, false, false⟩, newEv true, newEv false]) := Lib.hid hg3
  have HB3 : Hid (Below w.heap.size w w3) := Lib.hid (HB2.out.grown hr3 HB2.out.size (fun j hj => by simp at hj; omega))
  have hs3 : w.heap.size + 1 < w3.heap.size := by have := hr3.size; omega
  clear hg3 hr3 H2 HB2 hs2
  go_wp2_with fail
  have HA : Hid (EdgeAt w (w.heap.size + 1) false false false w3) := Lib.hid ⟨_, _, H3.out, rfl, rfl, HB3.out⟩
  clear H3 HB3 hs3
  go_loopw [5, 6, 7, 8] (fun s5 s6 s7 i wr => ∃ (k : Nat) (line pend hand : Bool), k ≤ ops.length ∧ k ≤ 90 ∧ i = .int .i64 k ∧ s5 = .bool line ∧ s6 = .bool pend ∧ s7 = .bool hand ∧ EdgeAt w (w.heap.size + 1) line pend hand wr) (fun _ _ _ i _ => 90 - (intOf i).toNat)
  case atStart => exact ⟨0, false, false, false, by omega, by omega, rfl, rfl, rfl, rfl, HA.out⟩
  case round =>
    obtain ⟨k, line, pend, hand, hk, hk90, rfl, rfl, rfl, rfl, ha⟩ := hrel
    have HE := Lib.hid ha
    clear ha HA
    by_cases hlt : k < ops.length
    · by_cases hlt90 : k < 90
      · obtain ⟨c0, c1, c2⟩ := HO.out k hlt
        obtain ⟨e1, e2, hg, h1, h2, hb⟩ := HE.out
        rw [← hb.cell (p := ⟨ab, ao + k * 3, none⟩) hab] at c0
        rw [← hb.cell (p := ⟨ab, ao + k * 3 + 1, none⟩) hab] at c1
        rw [← hb.cell (p := ⟨ab, ao + k * 3 + 2, none⟩) hab] at c2
        have HG := Lib.hid hg
        have HB := Lib.hid hb
        have HE1 := Lib.hid h1
        have HE2 := Lib.hid h2
        clear hg hb h1 h2
        generalize ops[k] = op at *
        obtain ⟨kd, evn, on⟩ := op
        simp only at c0 c1 c2
        go_upto_block 2 with (go_at_call 8; refine (mod_any _ 6 _ (by omega) (by omega)).mono ?_; rintro e w' ⟨r, hr0, hr1, rfl, rfl⟩)
        go_cut [5, 6, 7] (fun s5 s6 s7 wx => EdgeCut w (w.heap.size + 1) s5 s6 s7 wx)
        case first =>
          obtain rfl | rfl | rfl | rfl | hr : r = 0 ∨ r = 1 ∨ r = 2 ∨ r = 3 ∨ (r = 4 ∨ r = 5) := by omega
          · cases on <;> cases line
            · go_wp2_with fail
              refine (set_yes (w.heap.size + 1) 0 _ ⟨false, false, pend, true, false, hand⟩ false _ (HG.out.alloc _) rfl).mono ?_
              rintro e w6 ⟨rfl, hg6, hr6⟩
              have HR6 : Hid (Below w.heap.size w w6) := Lib.hid ((HB.out.alloc HB.out.size _).grown hr6 (HB.out.alloc HB.out.size _).size (fun j hj => by simp at hj; omega))
              have HG6 : Hid (GpeAt w6 (w.heap.size + 1) [⟨false, false, pend, true, false, hand⟩, e1, e2]) := Lib.hid (by simpa [setEv] using hg6)
              clear hg6 hr6
              go_wp2_with fail
              go_meet
              exact ⟨_, _, _, rfl, rfl, rfl, e1, e2, HG6.out, HE1.out, HE2.out, HR6.out⟩
            · go_wp2_with fail
              refine (set_yes (w.heap.size + 1) 0 _ ⟨false, true, pend, true, false, hand⟩ false _ (HG.out.alloc _) rfl).mono ?_
              rintro e w6 ⟨rfl, hg6, hr6⟩
              have HR6 : Hid (Below w.heap.size w w6) := Lib.hid ((HB.out.alloc HB.out.size _).grown hr6 (HB.out.alloc HB.out.size _).size (fun j hj => by simp at hj; omega))
              have HG6 : Hid (GpeAt w6 (w.heap.size + 1) [⟨false, false, pend, true, false, hand⟩, e1, e2]) := Lib.hid (by simpa [setEv] using hg6)
              clear hg6 hr6
              go_wp2_with fail
              go_meet
              exact ⟨_, _, _, rfl, rfl, rfl, e1, e2, HG6.out, HE1.out, HE2.out, HR6.out⟩
            · go_wp2_with fail
              refine (set_yes (w.heap.size + 1) 0 _ ⟨false, false, pend, true, false, hand⟩ true _ (HG.out.alloc _) rfl).mono ?_
              rintro e w6 ⟨rfl, hg6, hr6⟩
              have HR6 : Hid (Below w.heap.size w w6) := Lib.hid ((HB.out.alloc HB.out.size _).grown hr6 (HB.out.alloc HB.out.size _).size (fun j hj => by simp at hj; omega))
              have HG6 : Hid (GpeAt w6 (w.heap.size + 1) [⟨false, true, true, true, false, hand⟩, e1, e2]) := Lib.hid (by simpa [setEv] using hg6)
              clear hg6 hr6
              go_wp2_with fail
              go_meet
              exact ⟨_, _, _, rfl, rfl, rfl, e1, e2, HG6.out, HE1.out, HE2.out, HR6.out⟩
            · go_wp2_with fail
              refine (set_yes (w.heap.size + 1) 0 _ ⟨false, true, pend, true, false, hand⟩ true _ (HG.out.alloc _) rfl).mono ?_
              rintro e w6 ⟨rfl, hg6, hr6⟩
              have HR6 : Hid (Below w.heap.size w w6) := Lib.hid ((HB.out.alloc HB.out.size _).grown hr6 (HB.out.alloc HB.out.size _).size (fun j hj => by simp at hj; omega))
              have HG6 : Hid (GpeAt w6 (w.heap.size + 1) [⟨false, true, pend, true, false, hand⟩, e1, e2]) := Lib.hid (by simpa [setEv] using hg6)
              clear hg6 hr6
              go_wp2_with fail
              go_meet
              exact ⟨_, _, _, rfl, rfl, rfl, e1, e2, HG6.out, HE1.out, HE2.out, HR6.out⟩
          · cases on <;> cases line
            · go_wp2_with fail
              refine (set_yes (w.heap.size + 1) 0 _ ⟨false, false, pend, true, false, hand⟩ false _ (HG.out.alloc _) rfl).mono ?_
              rintro e w6 ⟨rfl, hg6, hr6⟩
              have HR6 : Hid (Below w.heap.size w w6) := Lib.hid ((HB.out.alloc HB.out.size _).grown hr6 (HB.out.alloc HB.out.size _).size (fun j hj => by simp at hj; omega))
              have HG6 : Hid (GpeAt w6 (w.heap.size + 1) [⟨false, false, pend, true, false, hand⟩, e1, e2]) := Lib.hid (by simpa [setEv] using hg6)
              clear hg6 hr6
              go_wp2_with fail
              go_meet
              exact ⟨_, _, _, rfl, rfl, rfl, e1, e2, HG6.out, HE1.out, HE2.out, HR6.out⟩
            · go_wp2_with fail
              refine (set_yes (w.heap.size + 1) 0 _ ⟨false, true, pend, true, false, hand⟩ false _ (HG.out.alloc _) rfl).mono ?_
              rintro e w6 ⟨rfl, hg6, hr6⟩
              have HR6 : Hid (Below w.heap.size w w6) := Lib.hid ((HB.out.alloc HB.out.size _).grown hr6 (HB.out.alloc HB.out.size _).size (fun j hj => by simp at hj; omega))
              have HG6 : Hid (GpeAt w6 (w.heap.size + 1) [⟨false, false, pend, true, false, hand⟩, e1, e2]) := Lib.hid (by simpa [setEv] using hg6)
              clear hg6 hr6
              go_wp2_with fail
              go_meet
              exact ⟨_, _, _, rfl, rfl, rfl, e1, e2, HG6.out, HE1.out, HE2.out, HR6.out⟩
            · go_wp2_with fail
              refine (set_yes (w.heap.size + 1) 0 _ ⟨false, false, pend, true, false, hand⟩ true _ (HG.out.alloc _) rfl).mono ?_
              rintro e w6 ⟨rfl, hg6, hr6⟩
              have HR6 : Hid (Below w.heap.size w w6) := Lib.hid ((HB.out.alloc HB.out.size _).grown hr6 (HB.out.alloc HB.out.size _).size (fun j hj => by simp at hj; omega))
              have HG6 : Hid (GpeAt w6 (w.heap.size + 1) [⟨false, true, true, true, false, hand⟩, e1, e2]) := Lib.hid (by simpa [setEv] using hg6)
              clear hg6 hr6
              go_wp2_with fail
              go_meet
              exact ⟨_, _, _, rfl, rfl, rfl, e1, e2, HG6.out, HE1.out, HE2.out, HR6.out⟩
            · go_wp2_with fail
              refine (set_yes (w.heap.size + 1) 0 _ ⟨false, true, pend, true, false, hand⟩ true _ (HG.out.alloc _) rfl).mono ?_
              rintro e w6 ⟨rfl, hg6, hr6⟩
              have HR6 : Hid (Below w.heap.size w w6) := Lib.hid ((HB.out.alloc HB.out.size _).grown hr6 (HB.out.alloc HB.out.size _).size (fun j hj => by simp at hj; omega))
              have HG6 : Hid (GpeAt w6 (w.heap.size + 1) [⟨false, true, pend, true, false, hand⟩, e1, e2]) := Lib.hid (by simpa [setEv] using hg6)
              clear hg6 hr6
              go_wp2_with fail
              go_meet
              exact ⟨_, _, _, rfl, rfl, rfl, e1, e2, HG6.out, HE1.out, HE2.out, HR6.out⟩
          · cases pend
            · go_wp2_with fail
              refine (next_none (w.heap.size + 1) _ _ (HG.out.alloc _) (by rw [edge_first HE1.out HE2.out]; rfl)).mono ?_
              rintro e w6 ⟨rfl, n6, rfl⟩
              go_wp2_with fail
              go_meet
              exact ⟨_, _, _, rfl, rfl, rfl, e1, e2, (HG.out.alloc _).drewN n6, HE1.out, HE2.out, (HB.out.alloc HB.out.size _).grown (grown_drewN _ (w.heap.size + 1) n6) (HB.out.alloc HB.out.size _).size (fun j hj => by simp at hj; omega)⟩
            · cases hand
              · have HTx : Hid (Tab (wr.alloc (Obj.cells #[Value.int IntKind.i64 kd, Value.int IntKind.i64 evn, Value.bool on] 33))) := Lib.hid (HT.out.below h0 (HB.out.alloc HB.out.size _))
                go_wp2_with fail
                refine (next_some (w.heap.size + 1) 0 _ _ (HG.out.alloc _) HTx.out (by rw [edge_first HE1.out HE2.out]; rfl)).mono ?_
                rintro e w6 ⟨rfl, n6, rfl⟩
                go_wp2_with fail
                refine (begin_yes (w.heap.size + 1) 0 _ false line true false false true _ ((HG.out.alloc _).drewN n6) rfl rfl).mono ?_
                rintro e w7 ⟨rfl, hg7, hr7⟩
                have HR7 : Hid (Below w.heap.size w w7) := Lib.hid ((HB.out.alloc HB.out.size _).grown (grown_trans (grown_drewN _ (w.heap.size + 1) n6) hr7) (HB.out.alloc HB.out.size _).size (fun j hj => by simp at hj; omega))
                have HG7 : Hid (GpeAt w7 (w.heap.size + 1) [⟨false, line, false, true, false, true⟩, e1, e2]) := Lib.hid hg7
                clear hg7 hr7
                generalize evName false 0 = nm
                go_wp2_with fail
                go_meet
                exact ⟨_, _, _, rfl, rfl, rfl, e1, e2, HG7.out, HE1.out, HE2.out, HR7.out⟩
              · go_wp2_with fail
                refine (next_none (w.heap.size + 1) _ _ (HG.out.alloc _) (by rw [edge_first HE1.out HE2.out]; rfl)).mono ?_
                rintro e w6 ⟨rfl, n6, rfl⟩
                go_wp2_with fail
                go_meet
                exact ⟨_, _, _, rfl, rfl, rfl, e1, e2, (HG.out.alloc _).drewN n6, HE1.out, HE2.out, (HB.out.alloc HB.out.size _).grown (grown_drewN _ (w.heap.size + 1) n6) (HB.out.alloc HB.out.size _).size (fun j hj => by simp at hj; omega)⟩
          · cases hand
            · go_wp2_with fail
              refine (complete_state (w.heap.size + 1) 0 _ ⟨false, line, pend, true, false, false⟩ _ (HG.out.alloc _) rfl rfl).mono ?_
              rintro e w6 ⟨rfl, rfl⟩
              go_wp2_with fail
              go_meet
              exact ⟨_, _, _, rfl, rfl, rfl, e1, e2, HG.out.alloc _, HE1.out, HE2.out, HB.out.alloc HB.out.size _⟩
            · go_wp2_with fail
              refine (complete_yes (w.heap.size + 1) 0 _ false line pend true false _ (HG.out.alloc _) rfl).mono ?_
              rintro e w6 ⟨rfl, hg6, hr6⟩
              have HR6 : Hid (Below w.heap.size w w6) := Lib.hid ((HB.out.alloc HB.out.size _).grown hr6 (HB.out.alloc HB.out.size _).size (fun j hj => by simp at hj; omega))
              have HG6 : Hid (GpeAt w6 (w.heap.size + 1) [⟨false, line, pend, true, false, false⟩, e1, e2]) := Lib.hid hg6
              clear hg6 hr6
              go_wp2_with fail
              go_meet
              exact ⟨_, _, _, rfl, rfl, rfl, e1, e2, HG6.out, HE1.out, HE2.out, HR6.out⟩
          · have q0 : (r == 0) = false := by rw [beq_eq_false_iff_ne]; omega
            have q1 : (r == 1) = false := by rw [beq_eq_false_iff_ne]; omega
            have q2 : (r == 2) = false := by rw [beq_eq_false_iff_ne]; omega
            have q3 : (r == 3) = false := by rw [beq_eq_false_iff_ne]; omega
            clear hr
            go_wp2_with fail
            go_region_with (first | (go_at_call 8; refine (mod_any _ 2 _ (by omega) (by omega)).mono ?_; rintro e w' ⟨q, hq0, hq1, rfl, rfl⟩) | (go_at_call 12; refine (set_edge' (w.heap.size + 1) _ q on _ hq0 (by omega) ((HG.out.alloc _).drew) HE1.out HE2.out).mono ?_; rintro e w6 ⟨rfl, f1, f2, hg6, hf1, hf2, hr6⟩))
            all_goals
              have HR6 : Hid (Below w.heap.size w w6) := Lib.hid ((HB.out.alloc HB.out.size _).drew.grown hr6 (HB.out.alloc HB.out.size _).drew.size (fun j hj => by simp at hj; omega))
              have HG6 := Lib.hid hg6
              have HF1 := Lib.hid hf1
              have HF2 := Lib.hid hf2
              clear hg6 hr6 hf1 hf2
              go_wp2_with fail
              go_meet
              exact ⟨_, _, _, rfl, rfl, rfl, f1, f2, HG6.out, HF1.out, HF2.out, HR6.out⟩
        case rest =>
          obtain ⟨line', pend', hand', rfl, rfl, rfl, hA⟩ := hcut
          obtain ⟨f1, f2, hg, h1, h2, hb⟩ := hA
          have HTx : Hid (Tab wc) := Lib.hid (HT.out.below h0 hb)
          have HG' := Lib.hid hg
          have HF1 := Lib.hid h1
          have HF2 := Lib.hid h2
          have HB' := Lib.hid hb
          clear hg h1 h2 hb
          cases pend'
          · cases hand'
            · go_wp2_with fail
              refine (next_none (w.heap.size + 1) _ _ HG'.out (by rw [edge_first HF1.out HF2.out]; rfl)).mono ?_
              rintro e w6 ⟨rfl, n6, rfl⟩
              go_wp2_with fail
              refine (status_yes (w.heap.size + 1) 0 _ ⟨false, line', false, true, false, false⟩ _ (HG'.out.drewN n6) rfl).mono ?_
              rintro e w7 ⟨rfl, n7, rfl⟩
              have HR : Hid (EdgeAt w (w.heap.size + 1) line' false false (wc.drewN (n6 + n7))) := Lib.hid ⟨f1, f2, (HG'.out.drewN _), HF1.out, HF2.out, HB'.out.grown (grown_drewN _ (w.heap.size + 1) _) HB'.out.size (fun j hj => by simp at hj; omega)⟩
              go_wp2_with fail
              go_roundw
              case rel => exact ⟨k + 1, _, _, _, by omega, by omega, by go_num, rfl, rfl, rfl, HR.out⟩
              case measure => simp [intOf]; omega
            · go_wp2_with fail
              refine (next_none (w.heap.size + 1) _ _ HG'.out (by rw [edge_first HF1.out HF2.out]; rfl)).mono ?_
              rintro e w6 ⟨rfl, n6, rfl⟩
              go_wp2_with fail
              refine (status_yes (w.heap.size + 1) 0 _ ⟨false, line', false, true, false, true⟩ _ (HG'.out.drewN n6) rfl).mono ?_
              rintro e w7 ⟨rfl, n7, rfl⟩
              have HR : Hid (EdgeAt w (w.heap.size + 1) line' false true (wc.drewN (n6 + n7))) := Lib.hid ⟨f1, f2, (HG'.out.drewN _), HF1.out, HF2.out, HB'.out.grown (grown_drewN _ (w.heap.size + 1) _) HB'.out.size (fun j hj => by simp at hj; omega)⟩
              go_wp2_with fail
              go_roundw
              case rel => exact ⟨k + 1, _, _, _, by omega, by omega, by go_num, rfl, rfl, rfl, HR.out⟩
              case measure => simp [intOf]; omega
          · cases hand'
            · go_wp2_with fail
              refine (next_some (w.heap.size + 1) 0 _ _ HG'.out HTx.out (by rw [edge_first HF1.out HF2.out]; rfl)).mono ?_
              rintro e w6 ⟨rfl, n6, rfl⟩
              go_wp2_with fail
              refine (status_yes (w.heap.size + 1) 0 _ ⟨false, line', true, true, false, false⟩ _ (HG'.out.drewN n6) rfl).mono ?_
              rintro e w7 ⟨rfl, n7, rfl⟩
              have HR : Hid (EdgeAt w (w.heap.size + 1) line' true false (wc.drewN (n6 + n7))) := Lib.hid ⟨f1, f2, (HG'.out.drewN _), HF1.out, HF2.out, HB'.out.grown (grown_drewN _ (w.heap.size + 1) _) HB'.out.size (fun j hj => by simp at hj; omega)⟩
              go_wp2_with fail
              go_roundw
              case rel => exact ⟨k + 1, _, _, _, by omega, by omega, by go_num, rfl, rfl, rfl, HR.out⟩
              case measure => simp [intOf]; omega
            · go_wp2_with fail
              refine (next_none (w.heap.size + 1) _ _ HG'.out (by rw [edge_first HF1.out HF2.out]; rfl)).mono ?_
              rintro e w6 ⟨rfl, n6, rfl⟩
              go_wp2_with fail
              refine (status_yes (w.heap.size + 1) 0 _ ⟨false, line', true, true, false, true⟩ _ (HG'.out.drewN n6) rfl).mono ?_
              rintro e w7 ⟨rfl, n7, rfl⟩
              have HR : Hid (EdgeAt w (w.heap.size + 1) line' true true (wc.drewN (n6 + n7))) := Lib.hid ⟨f1, f2, (HG'.out.drewN _), HF1.out, HF2.out, HB'.out.grown (grown_drewN _ (w.heap.size + 1) _) HB'.out.size (fun j hj => by simp at hj; omega)⟩
              go_wp2_with fail
              go_roundw
              case rel => exact ⟨k + 1, _, _, _, by omega, by omega, by go_num, rfl, rfl, rfl, HR.out⟩
              case measure => simp [intOf]; omega
      · obtain rfl : k = 90 := by omega
        obtain ⟨e1, e2, hg, h1, h2, hb⟩ := HE.out
        have HB := Lib.hid hb
        clear hg h1 h2 hb HE
        go_wp2_with fail
        go_ret
        exact ⟨rfl, HB.out⟩
    · obtain rfl : k = ops.length := by omega
      obtain ⟨e1, e2, hg, h1, h2, hb⟩ := HE.out
      have HB := Lib.hid hb
      clear hg h1 h2 hb HE
      go_wp2_with fail
      go_ret
      exact ⟨rfl, HB.out⟩
end Go.Proofs.YtdgeocmcmcflfaaDoor
