/- walk of the reference (validity): the walk. Valid of the reference: the walk. Parse of the reference: the walk. agrees, SyntaxParsesExactly: the walks. The package's tables and the library's own variable, from the row. Arguments opened: a slice of bytes. -/
import Derived.Test.YtnicnfchkdmieaaGreatDoorGc
import Derived.Test.YtnicnfchkdmieaaGreatDoorSn
import Derived.Test.YtnicnfchkdmieaaGreatDoorGf
import Derived.Test.YtnicnfchkdmieaaGreatDoorGe
import Derived.Test.YtnicnfchkdmieaaGreatDoorRows
import Derived.Test.YtnicnfchkdmieaaGreatDoorChecked
import Derived.LaidSub
import Derived.Lib.LaidTab
import Derived.ProofKit
import Derived.Shelf.Vars
import Derived.Test.YtnicnfchkdmieaaGreatDoorByt
import Derived.OpenShut
import Derived.SizedLaws
import Derived.SliceStrings
import Derived.Lib.SmallJoins
import Derived.ChangeSlices
namespace Go.Proofs.YtnicnfchkdmieaaGreatDoor
open Go.RowKit
set_option linter.unusedVariables false
set_option linter.unusedSimpArgs false
attribute [local go_sem] ByteArray.mk_append_mk bs_get bs_cut bs_end

def wI : Option Nat → Int
  | some j => j
  | none => -1
def WPost (w : World) (x : Option Nat) (e : Ending) (w' : World) : Prop := e = .returned (.int .i64 (wI x)) ∧ Below w.heap.size w w'
/-- What the reference's walk gives at a depth, for blocks, kinds and elements of blocks. -/
structure WalkOk (p : List Nd) (d : Nat) (dep : Int) : Prop where
  blk : ∀ (kd : UInt8) (i : Nat) (v : Value) (w : World), blkR kd = true → NSl w v p → i ≤ p.length →
    Calls Tryz.prog 40 #[v, .int .i64 i, .int .u8 kd.toNat, .int .i64 dep] w (WPost w (vAny p d true kd i))
  one : ∀ (kd : UInt8) (i : Nat) (v : Value) (w : World), blkR kd = false → kd ≠ 120 → NSl w v p → i ≤ p.length →
    Calls Tryz.prog 40 #[v, .int .i64 i, .int .u8 kd.toNat, .int .i64 dep] w (WPost w (vAny p d false kd i))
  el : ∀ (kq : UInt8) (i : Nat) (v : Value) (w : World), kq ≠ 115 → NSl w v p → (h : i < p.length) → accB kq p[i].kind = true →
    Calls Tryz.prog 40 #[v, .int .i64 i, .int .u8 120, .int .i64 dep] w (WPost w (vAny p d false kq i))
theorem NSl.tat {w : World} {g off n c : Nat} {l : List Nd} (h : NSl w (.slice (some ⟨g, off, none⟩) n c) l) (i : Nat) (hi : i < l.length) : TAt w g (off + i * 4) l[i] := by
  obtain ⟨⟨a, cap, hv, hc⟩, _⟩ := h
  injection hv with e1 _ _
  obtain ⟨b, o, ha, hk⟩ := hc (by rintro rfl; simp at hi)
  rw [← e1] at ha
  injection ha with ha
  injection ha with h1 h2 _
  subst h1 h2
  exact hk i hi
theorem nextN_over {f : Nat → Option Nat} {L : Nat} (h : ∀ i j, f i = some j → i < j ∧ j ≤ L) : ∀ (m i : Nat), i ≤ L → L < i + m → nextN f m i = none
  | 0, i, h1, h2 => by omega
  | m + 1, i, h1, h2 => by
    rw [nextN]
    cases hf : f i with
    | none => rfl
    | some j =>
      have := h i j hf
      exact nextN_over h m j this.2 (by omega)
theorem fieldsB_k (n : Nd) (k : UInt8) (h : k ≠ 115) : fieldsB n k = fieldsB n 120 := by
  unfold fieldsB nameB
  rw [show (k != 115) = true from bne_iff_ne.2 h]
  rfl
theorem forms_tab : ∀ n : Fin 100, ∀ k ∈ (formP (n.val : Int)).2, blkR k = blkB k ∧ k ≠ 120 := by decide +kernel
theorem kindsV_len (op kids : Int) : (kindsV op kids).1.length ≤ 10 := by
  unfold kindsV
  split
  · simp
  split
  · split
    · simp
    · simp only [List.length_replicate]; omega
  split
  · simp
  split
  · simp
  · cases hf : rowF op with
    | none => simp [rowR]
    | some t => exact Nat.le_trans (rows_short t (List.mem_of_find?_eq_some hf)) (by omega)
theorem kindsV_good {op kids : Int} (h : inR op = true) : ∀ k ∈ (kindsV op kids).1, blkR k = blkB k ∧ k ≠ 120 := by
  unfold kindsV
  split
  · intro k hk; cases hk
  split
  · split
    · intro k hk; cases hk
    · intro k hk; rw [List.eq_of_mem_replicate hk]; decide
  split
  · decide
  split
  · decide
  · rename_i h1 h2 h3 h4
    have ht : inTab op = true := by
      unfold inR at h
      simp only [Bool.or_eq_true, beq_iff_eq] at h
      rcases h with h | h
      · omega
      · exact h
    rw [rowF_tab ht]
    obtain ⟨z, rfl⟩ := inTab_lt ht
    exact forms_tab z
theorem walk_end (p : List Nd) (hp : p.length ≤ 1000000) (kd : UInt8) (dep : Int) (i : Nat) (v : Value) (w : World) (hv : NSl w v p) (hi : p.length ≤ i) (hi2 : i ≤ 1000000) :
    Calls Tryz.prog 40 #[v, .int .i64 i, .int .u8 kd.toNat, .int .i64 dep] w (WPost w none) := by
  obtain ⟨⟨a, cap, rfl, hc⟩, hs⟩ := hv
  have hi' : (i : Int) ≥ (p.length : Int) := by omega
  clear hc hs
  go_enter Tryz.func40, Tryz.ntmps40
  go_wp2_with fail
  go_ret
  exact ⟨rfl, Below.refl _ _⟩
theorem walk_deep (p : List Nd) (hp : p.length ≤ 1000000) (kd : UInt8) (dep : Int) (hd : dep > 32) (i : Nat) (v : Value) (w : World) (hv : NSl w v p) (hi2 : i ≤ 1000000) :
    Calls Tryz.prog 40 #[v, .int .i64 i, .int .u8 kd.toNat, .int .i64 dep] w (WPost w none) := by
  by_cases hi : p.length ≤ i
  · exact walk_end p hp kd dep i v w hv hi hi2
  obtain ⟨⟨a, cap, rfl, hc⟩, hs⟩ := hv
  have hi' : ¬ (i : Int) ≥ (p.length : Int) := by omega
  clear hc hs
  go_enter Tryz.func40, Tryz.ntmps40
  go_wp2_with fail
  go_ret
  exact ⟨rfl, Below.refl _ _⟩
set_option maxRecDepth 100000 in
set_option maxHeartbeats 8000000 in
theorem walk_blk (p : List Nd) (hp : p.length ≤ 1000000) (d : Nat) (dep : Int) (hd0 : -1000 ≤ dep) (hd1 : dep ≤ 32) (ih : WalkOk p d (dep + 1)) (kd : UInt8) (hkb : blkR kd = true) (i : Nat) (v : Value) (w : World) (hv : NSl w v p) (hi : i < p.length) :
    Calls Tryz.prog 40 #[v, .int .i64 i, .int .u8 kd.toNat, .int .i64 dep] w (WPost w (vAny p (d + 1) true kd i)) := by
  have IH := Lib.hid ih
  have HI := Lib.hid (fun w => rblk_is kd true (Lib.hid hkb) w)
  have hk115 : kd ≠ 115 := by rintro rfl; cases hkb
  obtain ⟨X, hX⟩ : ∃ X, Hid (vAny p (d + 1) true kd i = X) := ⟨_, Lib.hid rfl⟩
  have HX0 : Hid (X = if p[i].kind = 4 ∧ p[i].num = 0 ∧ p[i].str = [] ∧ 0 ≤ p[i].pos then nextN (vAny p d false kd) p[i].pos.toNat (i + 1) else none) := Lib.hid (by rw [← hX.out, vAny, List.getElem?_eq_getElem hi])
  rw [hX.out]
  clear ih hkb hX
  have HV0 := Lib.hid hv
  obtain ⟨hts, htn⟩ := hv.2 p[i] (List.getElem_mem hi)
  obtain ⟨a, cap, rfl, hc⟩ := hv.1
  obtain ⟨g, off, rfl, hk⟩ := hc (by rintro rfl; simp at hi)
  obtain ⟨d0, d1, d2, d3⟩ := hk i hi
  have hi' : ¬ (i : Int) ≥ (p.length : Int) := by omega
  have hi2 : (i : Int) < (p.length : Int) := by omega
  have hd1' : ¬ dep > 32 := by omega
  clear hc hk hv
  obtain ⟨T, hT⟩ : ∃ T, p[i] = T := ⟨_, rfl⟩
  have HT := Lib.hid hT
  rw [hT] at d0 d1 d2 d3 hts htn HX0
  obtain ⟨nk, nn, ns, np⟩ := T
  simp only at d0 d1 d2 d3 hts htn HX0
  obtain ⟨L, hL⟩ : ∃ L, p.length = L := ⟨_, rfl⟩
  have HL := Lib.hid hL
  rw [hL] at hi hi' hi2 hp HV0 ⊢
  have HBA : Hid (Below w.heap.size w (w.alloc (nObj nk nn ns np))) := Lib.hid ((Below.refl _ _).alloc (Nat.le_refl _) _)
  have HE := Lib.hid (heap_alloc_new w (nObj nk nn ns np))
  have HV := Lib.hid (HV0.out.below HBA.out)
  have hsz : w.heap.size ≤ (w.alloc (nObj nk nn ns np)).heap.size := HBA.out.size
  obtain ⟨P, hP⟩ : ∃ P, w.heap.size = P := ⟨_, rfl⟩
  have HPE := Lib.hid hP
  have HSZ := Lib.hid hsz
  clear hT HV0 hsz hL
  go_enter Tryz.func40, Tryz.ntmps40
  go_upto_region 4 with fail
  generalize w.alloc (nObj nk nn ns np) = W at *
  (try simp only [hP])
  rw [hP] at HBA HE HSZ
  clear hP d0 d1 d2 d3
  obtain ⟨e0, e1, e2, e3⟩ := cells4 HE.out
  by_cases h4 : nk = 4 ∧ nn = 0 ∧ ns = [] ∧ 0 ≤ np
  · obtain ⟨rfl, rfl, rfl, hn0⟩ := h4
    obtain ⟨N, rfl⟩ : ∃ N : Nat, np = N := ⟨np.toNat, by omega⟩
    have HX2 : Hid (nextN (vAny p d false kd) N (i + 1) = X) := Lib.hid (by rw [HX0.out, if_pos ⟨rfl, rfl, rfl, hn0⟩] <;> rfl)
    have hn0' : ¬ (N : Int) < 0 := by omega
    clear HX0
    by_cases hNL : N > L
    · have hNL' : (N : Int) > (L : Int) := by omega
      have HX : Hid (X = none) := Lib.hid (by
        rw [← HX2.out]
        exact nextN_over (fun i j => vAny_good p d false kd i j) N (i + 1) (by rw [HL.out]; omega) (by rw [HL.out]; omega))
      go_wp2_with fail
      ((with_reducible refine (HI.out _).mono ?_))
      rintro e w1 ⟨rfl, rfl⟩
      go_wp2_with fail
      go_ret
      rw [HX.out]
      exact ⟨rfl, by rw [HPE.out]; exact HBA.out⟩
    · have hNL' : ¬ (N : Int) > (L : Int) := by omega
      have HEQ := Lib.hid HE.out
      go_wp2_with fail
      ((with_reducible refine (HI.out _).mono ?_))
      rintro e w1 ⟨rfl, rfl⟩
      go_wp2_with fail
      go_loopw [1, 10] (fun x y wr => ∃ (j q : Nat), x = .int .i64 q ∧ y = .int .i64 j ∧ j ≤ N ∧ q ≤ L ∧ Hid (nextN (vAny p d false kd) (N - j) q = X) ∧ Hid (NSl wr (.slice (some ⟨g, off, none⟩) L cap) p) ∧ Hid (wr.heap[P]? = some (nObj 4 0 [] N)) ∧ Hid (Below P w wr) ∧ Hid (P ≤ wr.heap.size)) (fun _ y _ => N - (intOf y).toNat)
      case atStart => exact ⟨0, i + 1, by simp, rfl, by omega, by omega, HX2, HV, HEQ, HBA, HSZ⟩
      case round =>
        clear HX2 HV HBA HSZ HE e0 e1 e2 e3 HEQ
        obtain ⟨j, q, rfl, rfl, hj, hq, HXJ, HV, HE, HB, HS⟩ := hrel
        obtain ⟨w4, rfl⟩ : ∃ y : World, y = wr := ⟨_, rfl⟩
        obtain ⟨e0, e1, e2, e3⟩ := cells4 HE.out
        by_cases hlt : j < N
        · have hlt' : (j : Int) < (N : Int) := by omega
          have HXK : Hid (X = match vAny p d false kd q with | none => none | some z => nextN (vAny p d false kd) (N - (j + 1)) z) := Lib.hid (by
            rw [← HXJ.out, show N - j = (N - (j + 1)) + 1 by omega, nextN] <;> rfl)
          by_cases hqL : q < L
          · have hqL' : ¬ (q : Int) ≥ (L : Int) := by omega
            have hqL2 : (q : Int) < (L : Int) := by omega
            have hqp : q < p.length := by rw [HL.out]; exact hqL
            obtain ⟨c0, c1, c2, c3⟩ := HV.out.tat q hqp
            obtain ⟨qk, hqk⟩ : ∃ z, p[q].kind = z := ⟨_, rfl⟩
            rw [hqk] at c0
            obtain ⟨ab, hab⟩ : ∃ z, Hid (accB kd qk = z) := ⟨_, Lib.hid rfl⟩
            have HPER := Lib.hid (fun w => per_is kd qk ab hab w)
            clear c1 c2 c3
            cases ab with
            | false =>
              have HX : Hid (X = none) := Lib.hid (by
                rw [HXK.out]
                have : vAny p d false kd q = none := by
                  cases d with
                  | zero => rfl
                  | succ d => rw [vAny, List.getElem?_eq_getElem hqp]; simp only []; rw [if_neg (by rw [hqk, hab.out]; simp)]
                rw [this])
              clear HXK HXJ
              go_wp2_with fail
              ((with_reducible refine (HPER.out _).mono ?_))
              rintro e w5 ⟨rfl, rfl⟩
              go_wp2_with fail
              go_ret
              rw [HX.out]
              exact ⟨rfl, by rw [HPE.out]; exact HB.out⟩
            | true =>
              have HC := Lib.hid (IH.out.el kd q _ w4 hk115 HV.out hqp (by rw [hqk]; exact hab.out))
              unfold WPost at HC
              cases hx : vAny p d false kd q with
              | none =>
                rw [hx] at HC HXK
                have HX : Hid (X = none) := HXK
                clear hx HXJ HXK
                unfold wI at HC
                go_wp2_with fail
                ((with_reducible refine (HPER.out _).mono ?_))
                rintro e w5 ⟨rfl, rfl⟩
                go_wp2_with fail
                ((with_reducible refine HC.out.mono ?_))
                rintro e w5 ⟨rfl, hb5⟩
                have HB5 : Hid (Below P w w5) := Lib.hid (HB.out.trans (hb5.mono HS.out))
                clear hb5
                go_wp2_with fail
                go_ret
                rw [HX.out]
                exact ⟨rfl, by rw [HPE.out]; exact HB5.out⟩
              | some z =>
                rw [hx] at HC HXK
                have hz := (vAny_good p d false kd q z hx).2
                rw [HL.out] at hz
                have HX5 : Hid (nextN (vAny p d false kd) (N - (j + 1)) z = X) := Lib.hid HXK.out.symm
                clear hx HXJ HXK
                unfold wI at HC
                have hz0 : ¬ (z : Int) < 0 := by omega
                go_wp2_with fail
                ((with_reducible refine (HPER.out _).mono ?_))
                rintro e w5 ⟨rfl, rfl⟩
                go_wp2_with fail
                ((with_reducible refine HC.out.mono ?_))
                rintro e w5 ⟨rfl, hb5⟩
                have HB5 : Hid (Below P w w5) := Lib.hid (HB.out.trans (hb5.mono HS.out))
                have HV5 := Lib.hid (HV.out.below hb5)
                have HE5 := Lib.hid (blk_below HE.out hb5)
                have HS5 : Hid (P ≤ w5.heap.size) := Lib.hid (Nat.le_trans HS.out hb5.size)
                clear hb5 HC
                go_wp2_with fail
                go_roundw
                case rel => exact ⟨j + 1, z, by go_num, by go_num, by omega, hz, HX5, HV5, HE5, HB5, HS5⟩
                case measure => simp [intOf]; omega
          · have hqL' : (q : Int) ≥ (L : Int) := by omega
            have HX : Hid (X = none) := Lib.hid (by rw [HXK.out, vnone p d false kd q (by rw [HL.out]; omega)])
            clear HXK HXJ
            go_wp2_with fail
            go_ret
            rw [HX.out]
            exact ⟨rfl, by rw [HPE.out]; exact HB.out⟩
        · have hlt' : ¬ (j : Int) < (N : Int) := by omega
          have HX5 : Hid (X = some q) := Lib.hid (by rw [← HXJ.out, show N - j = 0 by omega, nextN])
          clear HXJ
          go_wp2_with fail
          go_ret
          rw [HX5.out]
          exact ⟨rfl, by rw [HPE.out]; exact HB.out⟩
  · have HX : Hid (X = none) := Lib.hid (by rw [HX0.out, if_neg h4])
    have HN4 := Lib.hid h4
    clear HX0 h4
    by_cases g1 : nk = 4
    · subst g1
      by_cases g2 : nn = 0
      · subst g2
        cases ns with
        | nil =>
          have g3 : np < 0 := by
            by_cases h : np < 0
            · exact h
            · exact absurd ⟨rfl, rfl, rfl, by omega⟩ HN4.out
          go_wp2_with fail
          ((with_reducible refine (HI.out _).mono ?_))
          rintro e w1 ⟨rfl, rfl⟩
          go_wp2_with fail
          go_ret
          rw [HX.out]
          exact ⟨rfl, by rw [HPE.out]; exact HBA.out⟩
        | cons c r =>
          go_wp2_with fail
          ((with_reducible refine (HI.out _).mono ?_))
          rintro e w1 ⟨rfl, rfl⟩
          go_wp2_with fail
          go_ret
          rw [HX.out]
          exact ⟨rfl, by rw [HPE.out]; exact HBA.out⟩
      · have f2 : (nn != 0) = true := bne_iff_ne.2 g2
        clear g2
        go_wp2_with fail
        ((with_reducible refine (HI.out _).mono ?_))
        rintro e w1 ⟨rfl, rfl⟩
        go_wp2_with fail
        go_ret
        rw [HX.out]
        exact ⟨rfl, by rw [HPE.out]; exact HBA.out⟩
    · have f1 : (nk != 4) = true := bne_iff_ne.2 g1
      clear g1
      go_wp2_with fail
      ((with_reducible refine (HI.out _).mono ?_))
      rintro e w1 ⟨rfl, rfl⟩
      go_wp2_with fail
      go_ret
      rw [HX.out]
      exact ⟨rfl, by rw [HPE.out]; exact HBA.out⟩
set_option maxRecDepth 100000 in
set_option maxHeartbeats 8000000 in
theorem walk_one (p : List Nd) (hp : p.length ≤ 1000000) (d : Nat) (dep : Int) (hd0 : -1000 ≤ dep) (hd1 : dep ≤ 32) (ih : WalkOk p d (dep + 1)) (kd : UInt8) (hkb : blkR kd = false) (hkx : kd ≠ 120) (i : Nat) (v : Value) (w : World) (hv : NSl w v p) (hi : i < p.length) (hps : p[i].str.length ≤ 65536) :
    Calls Tryz.prog 40 #[v, .int .i64 i, .int .u8 kd.toNat, .int .i64 dep] w (WPost w (vAny p (d + 1) false kd i)) := by
  have IH := Lib.hid ih
  have HI : Hid (∀ w, Calls Tryz.prog 62 #[.int .u8 kd.toNat] w fun e w' => e = .returned (.bool false) ∧ w = w') := Lib.hid (fun w => rblk_is kd false (Lib.hid hkb) w)
  obtain ⟨X, hX⟩ : ∃ X, Hid (vAny p (d + 1) false kd i = X) := ⟨_, Lib.hid rfl⟩
  have HX0 : Hid (X = if accB kd p[i].kind = true ∧ fieldsB p[i] kd = true then (match kidsK p[i] with
      | none => none
      | some ks => nextK (fun k j => vAny p d (blkB k) k j) ks (i + 1)) else none) := Lib.hid (by rw [← hX.out, vAny, List.getElem?_eq_getElem hi] <;> rfl)
  rw [hX.out]
  clear ih hX
  have HV0 := Lib.hid hv
  obtain ⟨hts, htn⟩ := hv.2 p[i] (List.getElem_mem hi)
  obtain ⟨a, cap, rfl, hc⟩ := hv.1
  obtain ⟨g, off, rfl, hk⟩ := hc (by rintro rfl; simp at hi)
  obtain ⟨d0, d1, d2, d3⟩ := hk i hi
  have hi' : ¬ (i : Int) ≥ (p.length : Int) := by omega
  have hi2 : (i : Int) < (p.length : Int) := by omega
  have hd1' : ¬ dep > 32 := by omega
  clear hc hk hv
  obtain ⟨T, hT⟩ : ∃ T, p[i] = T := ⟨_, rfl⟩
  have HT := Lib.hid hT
  rw [hT] at d0 d1 d2 d3 hts htn HX0 hps
  obtain ⟨nk, nn, ns, np⟩ := T
  simp only at d0 d1 d2 d3 hts htn HX0 hps
  obtain ⟨L, hL⟩ : ∃ L, p.length = L := ⟨_, rfl⟩
  have HL := Lib.hid hL
  rw [hL] at hi hi' hi2 hp HV0 ⊢
  have HBA : Hid (Below w.heap.size w (w.alloc (nObj nk nn ns np))) := Lib.hid ((Below.refl _ _).alloc (Nat.le_refl _) _)
  have HE := Lib.hid (heap_alloc_new w (nObj nk nn ns np))
  have HV := Lib.hid (HV0.out.below HBA.out)
  have hsz : w.heap.size ≤ (w.alloc (nObj nk nn ns np)).heap.size := HBA.out.size
  obtain ⟨P, hP⟩ : ∃ P, w.heap.size = P := ⟨_, rfl⟩
  have HPE := Lib.hid hP
  have HSZ := Lib.hid hsz
  clear hT HV0 hsz hL
  go_enter Tryz.func40, Tryz.ntmps40
  go_upto_region 4 with fail
  generalize w.alloc (nObj nk nn ns np) = W at *
  (try simp only [hP])
  rw [hP] at HBA HE HSZ
  clear hP d0 d1 d2 d3
  obtain ⟨e0, e1, e2, e3⟩ := cells4 HE.out
  obtain ⟨⟨ks, ok⟩, hkv⟩ : ∃ z, kindsV nk np = z := ⟨_, rfl⟩
  obtain ⟨ab, hab⟩ : ∃ z, Hid (accB kd nk = z) := ⟨_, Lib.hid rfl⟩
  obtain ⟨fb, hfb⟩ : ∃ z, Hid (fieldsB ⟨nk, nn, ns, np⟩ kd = z) := ⟨_, Lib.hid rfl⟩
  have HFB : Hid (fieldsB ⟨nk, nn, ns, np⟩ kd = fb) := Lib.hid (hfb.out)
  have HKN := Lib.hid (kinds_is nk np ks ok (Lib.hid hkv) W)
  have HKV := Lib.hid hkv
  have HXS : Hid (X = if ab = true ∧ fb = true ∧ ok = true then nextK (fun k j => vAny p d (blkB k) k j) ks (i + 1) else none) := Lib.hid (by
    rw [HX0.out, hab.out, HFB.out]
    cases hab2 : ab with
    | false => simp
    | true =>
      rw [hab2] at hab
      rw [kidsK_kinds ⟨nk, nn, ns, np⟩ (accB_inR hab.out)]
      simp only [hkv]
      cases fb <;> cases ok <;> simp)
  have hgood : ab = true → ∀ k ∈ ks, blkR k = blkB k ∧ k ≠ 120 := fun h => by
    rw [h] at hab
    have := kindsV_good (kids := np) (accB_inR hab.out)
    rw [hkv] at this
    exact this
  have HGD := Lib.hid hgood
  have hkl : ok = true → ks.length ≤ 10 := fun h => by
    have := kindsV_len nk np
    rw [hkv] at this
    exact this
  have HKL := Lib.hid hkl
  clear HX0 hkv hgood hkl
  go_wp2_with fail
  ((with_reducible refine (HI.out _).mono ?_))
  rintro e w1 ⟨rfl, rfl⟩
  go_wp2_with fail
  ((with_reducible refine HKN.out.mono ?_))
  rintro e w2 ⟨rfl, hb2⟩
  have HE2 := Lib.hid (blk_below HE.out hb2)
  have HV2 := Lib.hid (HV.out.below hb2)
  have HB2 : Hid (Below P w w2) := Lib.hid (HBA.out.trans (hb2.mono HSZ.out))
  have HS2 : Hid (P ≤ w2.heap.size) := Lib.hid (Nat.le_trans HSZ.out hb2.size)
  have HPER := Lib.hid (fun w => per_is kd nk (accB kd nk) (Lib.hid rfl) w)
  have HFI := Lib.hid (fun w => rfields_is ⟨nk, nn, ns, np⟩ htn kd fb hfb w hps)
  unfold tokV at HFI
  simp only at HFI
  clear hb2 HE HV HBA HSZ e0 e1 e2 e3 HKN
  obtain ⟨e0, e1, e2, e3⟩ := cells4 HE2.out
  obtain ⟨tb, htb⟩ : ∃ tb, Hid (tb = !(ok && ab && fb)) := ⟨_, Lib.hid rfl⟩
  go_upto_region 18 with fail
  go_cut [109] (fun z wx => z = .bool tb ∧ Hid (Below w2.heap.size w2 wx))
  case first =>
    obtain ⟨pb, hpb⟩ : ∃ z, accB kd nk = z := ⟨_, rfl⟩
    have hpa : pb = ab := by rw [← hpb, hab.out]
    rw [hpb] at HPER
    subst hpa
    have hk120 : ((kd.toNat : Int) != 120) = true := by
      have := byte_int kd 120
      rw [bne, show (120 : Int) = ((120 : UInt8).toNat : Int) from rfl, this, beq_eq_false_iff_ne.2 hkx]
      rfl
    have HTB := Lib.hid htb.out
    clear hpb
    cases ok with
    | false =>
      have e : tb = true := by rw [HTB.out]; rfl
      subst e
      go_wp2_with fail
      go_meet
      exact ⟨rfl, Lib.hid (Below.refl _ _)⟩
    | true =>
      cases pb with
      | false =>
        have e : tb = true := by rw [HTB.out]; rfl
        subst e
        go_wp2_with fail
        ((with_reducible refine (HPER.out _).mono ?_))
        rintro e w5 ⟨rfl, rfl⟩
        go_wp2_with fail
        go_meet
        exact ⟨rfl, Lib.hid (Below.refl _ _)⟩
      | true =>
        have e : tb = !fb := by rw [HTB.out]; rfl
        subst e
        go_wp2_with fail
        ((with_reducible refine (HPER.out _).mono ?_))
        rintro e w5 ⟨rfl, rfl⟩
        go_wp2_with fail
        ((with_reducible refine (HFI.out _).mono ?_))
        rintro e w5 ⟨rfl, hb5⟩
        have HG5 := Lib.hid hb5
        clear hb5
        go_wp2_with fail
        go_meet
        exact ⟨rfl, HG5⟩
  case rest =>
  obtain ⟨rfl, HG3⟩ := hcut
  obtain ⟨w3, rfl⟩ : ∃ y : World, y = wc := ⟨_, rfl⟩
  have HV3 := Lib.hid (HV2.out.below HG3.out)
  have HB3 : Hid (Below P w w3) := Lib.hid (HB2.out.trans (HG3.out.mono HS2.out))
  have HS3 : Hid (P ≤ w3.heap.size) := Lib.hid (Nat.le_trans HS2.out HG3.out.size)
  clear HE2 HV2 HB2 HS2 HG3 e0 e1 e2 e3 HPER HFI
  cases tb with
  | true =>
    have HX : Hid (X = none) := Lib.hid (by
      rw [HXS.out]
      refine if_neg (fun e => ?_)
      have := htb.out
      rw [e.1, e.2.1, e.2.2] at this
      cases this)
    go_wp2_with fail
    go_ret
    rw [HX.out]
    exact ⟨rfl, by rw [HPE.out]; exact HB3.out⟩
  | false =>
    have hall : ab = true ∧ fb = true ∧ ok = true := by
      have := htb.out
      revert this
      cases ab <;> cases fb <;> cases ok <;> decide
    have HX1 : Hid (nextK (fun k j => vAny p d (blkB k) k j) ks (i + 1) = X) := Lib.hid (by rw [HXS.out, if_pos hall])
    have HGK := Lib.hid (HGD.out hall.1)
    have hkl := HKL.out hall.2.2
    obtain ⟨K, hK⟩ : ∃ K, ks.length = K := ⟨_, rfl⟩
    have HK := Lib.hid hK
    rw [hK] at hkl
    clear HXS hall HGD HKL htb hab hfb HFB
    go_wp2_with fail
    (try simp only [hK])
    clear hK
    go_loopw [1, 13] (fun x y wr => ∃ (j q : Nat), x = .int .i64 q ∧ y = .int .i64 j ∧ j ≤ K ∧ q ≤ L ∧ Hid (nextK (fun k j => vAny p d (blkB k) k j) (ks.drop j) q = X) ∧ Hid (NSl wr (.slice (some ⟨g, off, none⟩) L cap) p) ∧ Hid (Below P w wr) ∧ Hid (P ≤ wr.heap.size)) (fun _ y _ => K - (intOf y).toNat)
    case atStart => exact ⟨0, i + 1, by simp, rfl, by omega, by omega, HX1, HV3, HB3, HS3⟩
    case round =>
      clear HX1 HV3 HB3 HS3
      obtain ⟨j, q, rfl, rfl, hj, hq, HXJ, HV, HB, HS⟩ := hrel
      obtain ⟨w4, rfl⟩ : ∃ y : World, y = wr := ⟨_, rfl⟩
      have HKK := HK.out
      by_cases hlt : j < K
      · have hlt' : (j : Int) < (K : Int) := by omega
        have hjk : j < ks.length := by omega
        obtain ⟨kj, hkj⟩ : ∃ x, ks[j] = x := ⟨_, rfl⟩
        have hgk := HGK.out kj (by rw [← hkj]; exact List.getElem_mem hjk)
        have HXK : Hid (X = match vAny p d (blkB kj) kj q with | none => none | some z => nextK (fun k j => vAny p d (blkB k) k j) (ks.drop (j + 1)) z) := Lib.hid (by
          rw [← HXJ.out, List.drop_eq_getElem_cons hjk, hkj, nextK] <;> rfl)
        have HC : Hid (Calls Tryz.prog 40 #[.slice (some ⟨g, off, none⟩) L cap, .int .i64 q, .int .u8 kj.toNat, .int .i64 (dep + 1)] w4 (WPost w4 (vAny p d (blkB kj) kj q))) := Lib.hid (by
          cases hb : blkB kj with
          | true => exact IH.out.blk kj q _ w4 (by rw [hgk.1, hb]) HV.out (by rw [HL.out]; exact hq)
          | false => exact IH.out.one kj q _ w4 (by rw [hgk.1, hb]) hgk.2 HV.out (by rw [HL.out]; exact hq))
        unfold WPost at HC
        clear hgk HKK
        cases hx : vAny p d (blkB kj) kj q with
        | none =>
          rw [hx] at HC HXK
          have HX : Hid (X = none) := HXK
          clear hx HXJ HXK
          unfold wI at HC
          go_wp2_with fail
          ((with_reducible refine HC.out.mono ?_))
          rintro e w5 ⟨rfl, hb5⟩
          have HB5 : Hid (Below P w w5) := Lib.hid (HB.out.trans (hb5.mono HS.out))
          clear hb5
          go_wp2_with fail
          go_ret
          rw [HX.out]
          exact ⟨rfl, by rw [HPE.out]; exact HB5.out⟩
        | some z =>
          rw [hx] at HC HXK
          have hz := (vAny_good p d (blkB kj) kj q z hx).2
          rw [HL.out] at hz
          have HX5 : Hid (nextK (fun k j => vAny p d (blkB k) k j) (ks.drop (j + 1)) z = X) := Lib.hid HXK.out.symm
          clear hx HXJ HXK
          unfold wI at HC
          have hz0 : ¬ (z : Int) < 0 := by omega
          go_wp2_with fail
          ((with_reducible refine HC.out.mono ?_))
          rintro e w5 ⟨rfl, hb5⟩
          have HB5 : Hid (Below P w w5) := Lib.hid (HB.out.trans (hb5.mono HS.out))
          have HV5 := Lib.hid (HV.out.below hb5)
          have HS5 : Hid (P ≤ w5.heap.size) := Lib.hid (Nat.le_trans HS.out hb5.size)
          clear hb5 HC
          go_wp2_with fail
          go_roundw
          case rel => exact ⟨j + 1, z, by go_num, by go_num, by omega, hz, HX5, HV5, HB5, HS5⟩
          case measure => simp [intOf]; omega
      · have hlt' : ¬ (j : Int) < (ks.length : Int) := by omega
        have HX5 : Hid (X = some q) := Lib.hid (by rw [← HXJ.out, List.drop_eq_nil_of_le (by omega), nextK])
        clear HXJ HKK
        go_wp2_with fail
        go_ret
        rw [HX5.out]
        exact ⟨rfl, by rw [HPE.out]; exact HB.out⟩
set_option maxRecDepth 100000 in
set_option maxHeartbeats 8000000 in
theorem walk_el (p : List Nd) (hp : p.length ≤ 1000000) (d : Nat) (dep : Int) (hd0 : -1000 ≤ dep) (hd1 : dep ≤ 32) (ih : WalkOk p d (dep + 1)) (kq : UInt8) (hkq : kq ≠ 115) (i : Nat) (v : Value) (w : World) (hv : NSl w v p) (hi : i < p.length) (hps : p[i].str.length ≤ 65536) (hacc : accB kq p[i].kind = true) :
    Calls Tryz.prog 40 #[v, .int .i64 i, .int .u8 120, .int .i64 dep] w (WPost w (vAny p (d + 1) false kq i)) := by
  have IH := Lib.hid ih
  have HI : Hid (∀ w, Calls Tryz.prog 62 #[.int .u8 120] w fun e w' => e = .returned (.bool false) ∧ w = w') := Lib.hid (fun w => rblk_is 120 false (Lib.hid rfl) w)
  obtain ⟨X, hX⟩ : ∃ X, Hid (vAny p (d + 1) false kq i = X) := ⟨_, Lib.hid rfl⟩
  have HX0 : Hid (X = if accB kq p[i].kind = true ∧ fieldsB p[i] kq = true then (match kidsK p[i] with
      | none => none
      | some ks => nextK (fun k j => vAny p d (blkB k) k j) ks (i + 1)) else none) := Lib.hid (by rw [← hX.out, vAny, List.getElem?_eq_getElem hi] <;> rfl)
  rw [hX.out]
  clear ih hX
  have HV0 := Lib.hid hv
  obtain ⟨hts, htn⟩ := hv.2 p[i] (List.getElem_mem hi)
  obtain ⟨a, cap, rfl, hc⟩ := hv.1
  obtain ⟨g, off, rfl, hk⟩ := hc (by rintro rfl; simp at hi)
  obtain ⟨d0, d1, d2, d3⟩ := hk i hi
  have hi' : ¬ (i : Int) ≥ (p.length : Int) := by omega
  have hi2 : (i : Int) < (p.length : Int) := by omega
  have hd1' : ¬ dep > 32 := by omega
  clear hc hk hv
  obtain ⟨T, hT⟩ : ∃ T, p[i] = T := ⟨_, rfl⟩
  have HT := Lib.hid hT
  rw [hT] at d0 d1 d2 d3 hts htn HX0 hps hacc
  obtain ⟨nk, nn, ns, np⟩ := T
  simp only at d0 d1 d2 d3 hts htn HX0 hps hacc
  obtain ⟨L, hL⟩ : ∃ L, p.length = L := ⟨_, rfl⟩
  have HL := Lib.hid hL
  rw [hL] at hi hi' hi2 hp HV0 ⊢
  have HBA : Hid (Below w.heap.size w (w.alloc (nObj nk nn ns np))) := Lib.hid ((Below.refl _ _).alloc (Nat.le_refl _) _)
  have HE := Lib.hid (heap_alloc_new w (nObj nk nn ns np))
  have HV := Lib.hid (HV0.out.below HBA.out)
  have hsz : w.heap.size ≤ (w.alloc (nObj nk nn ns np)).heap.size := HBA.out.size
  obtain ⟨P, hP⟩ : ∃ P, w.heap.size = P := ⟨_, rfl⟩
  have HPE := Lib.hid hP
  have HSZ := Lib.hid hsz
  clear hT HV0 hsz hL
  go_enter Tryz.func40, Tryz.ntmps40
  go_upto_region 4 with fail
  generalize w.alloc (nObj nk nn ns np) = W at *
  (try simp only [hP])
  rw [hP] at HBA HE HSZ
  clear hP d0 d1 d2 d3
  obtain ⟨e0, e1, e2, e3⟩ := cells4 HE.out
  obtain ⟨⟨ks, ok⟩, hkv⟩ : ∃ z, kindsV nk np = z := ⟨_, rfl⟩
  obtain ⟨ab, hab⟩ : ∃ z, Hid (accB kq nk = z) := ⟨_, Lib.hid rfl⟩
  obtain ⟨fb, hfb⟩ : ∃ z, Hid (fieldsB ⟨nk, nn, ns, np⟩ 120 = z) := ⟨_, Lib.hid rfl⟩
  have HFB : Hid (fieldsB ⟨nk, nn, ns, np⟩ kq = fb) := Lib.hid ((fieldsB_k _ kq hkq).trans hfb.out)
  have HKN := Lib.hid (kinds_is nk np ks ok (Lib.hid hkv) W)
  have HKV := Lib.hid hkv
  have HXS : Hid (X = if ab = true ∧ fb = true ∧ ok = true then nextK (fun k j => vAny p d (blkB k) k j) ks (i + 1) else none) := Lib.hid (by
    rw [HX0.out, hab.out, HFB.out]
    cases hab2 : ab with
    | false => simp
    | true =>
      rw [hab2] at hab
      rw [kidsK_kinds ⟨nk, nn, ns, np⟩ (accB_inR hab.out)]
      simp only [hkv]
      cases fb <;> cases ok <;> simp)
  have hgood : ab = true → ∀ k ∈ ks, blkR k = blkB k ∧ k ≠ 120 := fun h => by
    rw [h] at hab
    have := kindsV_good (kids := np) (accB_inR hab.out)
    rw [hkv] at this
    exact this
  have HGD := Lib.hid hgood
  have hkl : ok = true → ks.length ≤ 10 := fun h => by
    have := kindsV_len nk np
    rw [hkv] at this
    exact this
  have HKL := Lib.hid hkl
  clear HX0 hkv hgood hkl
  go_wp2_with fail
  ((with_reducible refine (HI.out _).mono ?_))
  rintro e w1 ⟨rfl, rfl⟩
  go_wp2_with fail
  ((with_reducible refine HKN.out.mono ?_))
  rintro e w2 ⟨rfl, hb2⟩
  have HE2 := Lib.hid (blk_below HE.out hb2)
  have HV2 := Lib.hid (HV.out.below hb2)
  have HB2 : Hid (Below P w w2) := Lib.hid (HBA.out.trans (hb2.mono HSZ.out))
  have HS2 : Hid (P ≤ w2.heap.size) := Lib.hid (Nat.le_trans HSZ.out hb2.size)
  have HPER := Lib.hid (fun w => per_is 120 nk (accB 120 nk) (Lib.hid rfl) w)
  have HFI := Lib.hid (fun w => rfields_is ⟨nk, nn, ns, np⟩ htn 120 fb hfb w hps)
  unfold tokV at HFI
  simp only at HFI
  clear hb2 HE HV HBA HSZ e0 e1 e2 e3 HKN
  obtain ⟨e0, e1, e2, e3⟩ := cells4 HE2.out
  obtain ⟨tb, htb⟩ : ∃ tb, Hid (tb = !(ok && ab && fb)) := ⟨_, Lib.hid rfl⟩
  go_upto_region 18 with fail
  go_cut [109] (fun z wx => z = .bool tb ∧ Hid (Below w2.heap.size w2 wx))
  case first =>
    have e3 : ab = true := by rw [← hab.out]; exact hacc
    subst e3
    have HTB := Lib.hid htb.out
    cases ok with
    | false =>
      have e : tb = true := by rw [HTB.out]; rfl
      subst e
      go_wp2_with fail
      go_meet
      exact ⟨rfl, Lib.hid (Below.refl _ _)⟩
    | true =>
      have e : tb = !fb := by rw [HTB.out]; rfl
      subst e
      have HFI2 : Hid (∀ w, Calls Tryz.prog 77 #[.agg #[.int .i64 nk, .int .u64 nn, .string ⟨ns.toArray⟩, .int .i64 np], .int .u8 120] w fun e w' => e = .returned (.bool fb) ∧ Below w.heap.size w w') := HFI
      clear HFI
      go_wp2_with fail
      ((with_reducible refine (HFI2.out _).mono ?_))
      rintro e w5 ⟨rfl, hb5⟩
      have HG5 := Lib.hid hb5
      clear hb5
      go_wp2_with fail
      go_meet
      exact ⟨rfl, HG5⟩
  case rest =>
  obtain ⟨rfl, HG3⟩ := hcut
  obtain ⟨w3, rfl⟩ : ∃ y : World, y = wc := ⟨_, rfl⟩
  have HV3 := Lib.hid (HV2.out.below HG3.out)
  have HB3 : Hid (Below P w w3) := Lib.hid (HB2.out.trans (HG3.out.mono HS2.out))
  have HS3 : Hid (P ≤ w3.heap.size) := Lib.hid (Nat.le_trans HS2.out HG3.out.size)
  clear HE2 HV2 HB2 HS2 HG3 e0 e1 e2 e3 HPER HFI
  cases tb with
  | true =>
    have HX : Hid (X = none) := Lib.hid (by
      rw [HXS.out]
      refine if_neg (fun e => ?_)
      have := htb.out
      rw [e.1, e.2.1, e.2.2] at this
      cases this)
    go_wp2_with fail
    go_ret
    rw [HX.out]
    exact ⟨rfl, by rw [HPE.out]; exact HB3.out⟩
  | false =>
    have hall : ab = true ∧ fb = true ∧ ok = true := by
      have := htb.out
      revert this
      cases ab <;> cases fb <;> cases ok <;> decide
    have HX1 : Hid (nextK (fun k j => vAny p d (blkB k) k j) ks (i + 1) = X) := Lib.hid (by rw [HXS.out, if_pos hall])
    have HGK := Lib.hid (HGD.out hall.1)
    have hkl := HKL.out hall.2.2
    obtain ⟨K, hK⟩ : ∃ K, ks.length = K := ⟨_, rfl⟩
    have HK := Lib.hid hK
    rw [hK] at hkl
    clear HXS hall HGD HKL htb hab hfb HFB
    go_wp2_with fail
    (try simp only [hK])
    clear hK
    go_loopw [1, 13] (fun x y wr => ∃ (j q : Nat), x = .int .i64 q ∧ y = .int .i64 j ∧ j ≤ K ∧ q ≤ L ∧ Hid (nextK (fun k j => vAny p d (blkB k) k j) (ks.drop j) q = X) ∧ Hid (NSl wr (.slice (some ⟨g, off, none⟩) L cap) p) ∧ Hid (Below P w wr) ∧ Hid (P ≤ wr.heap.size)) (fun _ y _ => K - (intOf y).toNat)
    case atStart => exact ⟨0, i + 1, by simp, rfl, by omega, by omega, HX1, HV3, HB3, HS3⟩
    case round =>
      clear HX1 HV3 HB3 HS3
      obtain ⟨j, q, rfl, rfl, hj, hq, HXJ, HV, HB, HS⟩ := hrel
      obtain ⟨w4, rfl⟩ : ∃ y : World, y = wr := ⟨_, rfl⟩
      have HKK := HK.out
      by_cases hlt : j < K
      · have hlt' : (j : Int) < (K : Int) := by omega
        have hjk : j < ks.length := by omega
        obtain ⟨kj, hkj⟩ : ∃ x, ks[j] = x := ⟨_, rfl⟩
        have hgk := HGK.out kj (by rw [← hkj]; exact List.getElem_mem hjk)
        have HXK : Hid (X = match vAny p d (blkB kj) kj q with | none => none | some z => nextK (fun k j => vAny p d (blkB k) k j) (ks.drop (j + 1)) z) := Lib.hid (by
          rw [← HXJ.out, List.drop_eq_getElem_cons hjk, hkj, nextK] <;> rfl)
        have HC : Hid (Calls Tryz.prog 40 #[.slice (some ⟨g, off, none⟩) L cap, .int .i64 q, .int .u8 kj.toNat, .int .i64 (dep + 1)] w4 (WPost w4 (vAny p d (blkB kj) kj q))) := Lib.hid (by
          cases hb : blkB kj with
          | true => exact IH.out.blk kj q _ w4 (by rw [hgk.1, hb]) HV.out (by rw [HL.out]; exact hq)
          | false => exact IH.out.one kj q _ w4 (by rw [hgk.1, hb]) hgk.2 HV.out (by rw [HL.out]; exact hq))
        unfold WPost at HC
        clear hgk HKK
        cases hx : vAny p d (blkB kj) kj q with
        | none =>
          rw [hx] at HC HXK
          have HX : Hid (X = none) := HXK
          clear hx HXJ HXK
          unfold wI at HC
          go_wp2_with fail
          ((with_reducible refine HC.out.mono ?_))
          rintro e w5 ⟨rfl, hb5⟩
          have HB5 : Hid (Below P w w5) := Lib.hid (HB.out.trans (hb5.mono HS.out))
          clear hb5
          go_wp2_with fail
          go_ret
          rw [HX.out]
          exact ⟨rfl, by rw [HPE.out]; exact HB5.out⟩
        | some z =>
          rw [hx] at HC HXK
          have hz := (vAny_good p d (blkB kj) kj q z hx).2
          rw [HL.out] at hz
          have HX5 : Hid (nextK (fun k j => vAny p d (blkB k) k j) (ks.drop (j + 1)) z = X) := Lib.hid HXK.out.symm
          clear hx HXJ HXK
          unfold wI at HC
          have hz0 : ¬ (z : Int) < 0 := by omega
          go_wp2_with fail
          ((with_reducible refine HC.out.mono ?_))
          rintro e w5 ⟨rfl, hb5⟩
          have HB5 : Hid (Below P w w5) := Lib.hid (HB.out.trans (hb5.mono HS.out))
          have HV5 := Lib.hid (HV.out.below hb5)
          have HS5 : Hid (P ≤ w5.heap.size) := Lib.hid (Nat.le_trans HS.out hb5.size)
          clear hb5 HC
          go_wp2_with fail
          go_roundw
          case rel => exact ⟨j + 1, z, by go_num, by go_num, by omega, hz, HX5, HV5, HB5, HS5⟩
          case measure => simp [intOf]; omega
      · have hlt' : ¬ (j : Int) < (ks.length : Int) := by omega
        have HX5 : Hid (X = some q) := Lib.hid (by rw [← HXJ.out, List.drop_eq_nil_of_le (by omega), nextK])
        clear HXJ HKK
        go_wp2_with fail
        go_ret
        rw [HX5.out]
        exact ⟨rfl, by rw [HPE.out]; exact HB.out⟩
theorem walk_ok (p : List Nd) (hp : p.length ≤ 1000000) (hps : ∀ t ∈ p, t.str.length ≤ 65536) : ∀ (d : Nat) (dep : Int), dep + d = 33 → -900 ≤ dep → WalkOk p d dep
  | 0, dep, h, h0 => {
      blk := fun kd i v w hb hv hi => walk_deep p hp kd dep (by omega) i v w hv (by omega)
      one := fun kd i v w hb hx hv hi => walk_deep p hp kd dep (by omega) i v w hv (by omega)
      el := fun kq i v w hb hv hi ha => walk_deep p hp 120 dep (by omega) i v w hv (by omega) }
  | d + 1, dep, h, h0 => by
    have ih := walk_ok p hp hps d (dep + 1) (by omega) (by omega)
    refine { blk := fun kd i v w hb hv hi => ?_, one := fun kd i v w hb hx hv hi => ?_, el := fun kq i v w hb hv hi ha => ?_ }
    · rcases Nat.lt_or_ge i p.length with h2 | h2
      · exact walk_blk p hp d dep (by omega) (by omega) ih kd hb i v w hv h2
      · rw [vnone p (d + 1) true kd i h2]
        exact walk_end p hp kd dep i v w hv h2 (by omega)
    · rcases Nat.lt_or_ge i p.length with h2 | h2
      · exact walk_one p hp d dep (by omega) (by omega) ih kd hb hx i v w hv h2 (hps _ (List.getElem_mem h2))
      · rw [vnone p (d + 1) false kd i h2]
        exact walk_end p hp kd dep i v w hv h2 (by omega)
    · exact walk_el p hp d dep (by omega) (by omega) ih kq hb i v w hv hi (hps _ (List.getElem_mem hi)) ha
end Go.Proofs.YtnicnfchkdmieaaGreatDoor
namespace Go.Proofs.YtnicnfchkdmieaaGreatDoor
open Go.RowKit
set_option linter.unusedVariables false
set_option linter.unusedSimpArgs false
attribute [local go_sem] ByteArray.mk_append_mk bs_get bs_cut bs_end

set_option maxRecDepth 100000 in
set_option maxHeartbeats 8000000 in
theorem rvalid_any (p : List Nd) (hps : ∀ t ∈ p, t.str.length ≤ 65536) (v : Value) (w : World) (hv : NSl w v p) (hl : p.length ≤ 9223372036854775000) :
    Calls Tryz.prog 17 #[v] w fun e w' => e = .returned (.bool (validL p)) ∧ Below w.heap.size w w' := by
  obtain ⟨X, hX⟩ : ∃ X, Hid (validL p = X) := ⟨_, Lib.hid rfl⟩
  have HV0 := Lib.hid hv
  have HB0 := Lib.hid (Below.refl w.heap.size w)
  obtain ⟨a, cap, rfl, hc⟩ := hv.1
  rw [hX.out]
  clear hc hv
  by_cases h2 : p.length ≤ 2048
  · have h2' : ¬ (p.length : Int) > 2048 := by omega
    have HX0 : Hid (vTop p p.length 0 = X) := Lib.hid (by rw [← hX.out]; unfold validL; rw [decide_eq_true h2, Bool.true_and])
    have HEL := Lib.hid (walk_ok p (by omega) hps 32 1 (by omega) (by omega)).el
    obtain ⟨L, hL⟩ : ∃ L, p.length = L := ⟨_, rfl⟩
    have HL := Lib.hid hL
    rw [hL] at h2 h2' hl HV0 HX0 ⊢
    clear hL hX
    go_enter Tryz.func17, Tryz.ntmps17
    go_wp2_with fail
    go_loopw [3] (fun x wr => ∃ (f q : Nat), x = .int .i64 q ∧ q ≤ L ∧ L ≤ f + q ∧ Hid (vTop p f q = X) ∧ Hid (NSl wr (.slice a L cap) p) ∧ Hid (Below w.heap.size w wr)) (fun x _ => L - (intOf x).toNat)
    case atStart => exact ⟨L, 0, rfl, by omega, by omega, HX0, HV0, HB0⟩
    case round =>
      clear HX0 HV0 HB0
      obtain ⟨f, q, rfl, hq, hf, HX, HV, HB⟩ := hrel
      obtain ⟨w4, rfl⟩ : ∃ y : World, y = wr := ⟨_, rfl⟩
      by_cases hlt : q < L
      · have hlt' : (q : Int) < (L : Int) := by omega
        have hqp : q < p.length := by rw [HL.out]; exact hlt
        obtain ⟨f, rfl⟩ : ∃ g, f = g + 1 := ⟨f - 1, by omega⟩
        have HXK : Hid (X = match vAny p 32 false 68 q with | none => false | some j => vTop p f j) := Lib.hid (by rw [← HX.out, vTop, if_neg (by rw [HL.out]; omega)] <;> rfl)
        have hne : p ≠ [] := by rintro rfl; simp at hqp
        obtain ⟨⟨a2, cap2, hva, hc⟩, _⟩ := HV.out
        obtain ⟨g, off, hga, _⟩ := hc hne
        have hag : a = some ⟨g, off, none⟩ := by
          injection hva with e1 _ _
          rw [e1, hga]
        subst hag
        obtain ⟨c0, c1, c2, c3⟩ := HV.out.tat q hqp
        obtain ⟨qk, hqk⟩ : ∃ z, p[q].kind = z := ⟨_, rfl⟩
        rw [hqk] at c0
        obtain ⟨ab, hab⟩ : ∃ z, Hid (accB 68 qk = z) := ⟨_, Lib.hid rfl⟩
        have HPER : Hid (∀ w, Calls Tryz.prog 39 #[.int .u8 68, .int .i64 qk] w fun e w' => e = .returned (.bool ab) ∧ w = w') := Lib.hid (fun w => per_is 68 qk ab hab w)
        clear hc hva hga c1 c2 c3 HX
        cases ab with
        | false =>
          have HX2 : Hid (X = false) := Lib.hid (by
            rw [HXK.out]
            have : vAny p 32 false 68 q = none := by
              rw [vAny, List.getElem?_eq_getElem hqp]
              simp only []
              rw [if_neg (by rw [hqk, hab.out]; simp)]
            rw [this])
          clear HXK
          go_wp2_with fail
          ((with_reducible refine (HPER.out _).mono ?_))
          rintro e w5 ⟨rfl, rfl⟩
          go_wp2_with fail
          go_ret
          rw [HX2.out]
          exact ⟨rfl, HB.out⟩
        | true =>
          have HC : Hid (Calls Tryz.prog 40 #[.slice (some ⟨g, off, none⟩) L cap, .int .i64 q, .int .u8 120, .int .i64 1] w4 (WPost w4 (vAny p 32 false 68 q))) := Lib.hid (HEL.out 68 q _ w4 (by decide) HV.out hqp (by rw [hqk]; exact hab.out))
          unfold WPost at HC
          cases hx : vAny p 32 false 68 q with
          | none =>
            rw [hx] at HC HXK
            have HX2 : Hid (X = false) := HXK
            clear hx HXK
            unfold wI at HC
            go_wp2_with fail
            ((with_reducible refine (HPER.out _).mono ?_))
            rintro e w5 ⟨rfl, rfl⟩
            go_wp2_with fail
            ((with_reducible refine HC.out.mono ?_))
            rintro e w5 ⟨rfl, hb5⟩
            have HB5 : Hid (Below w.heap.size w w5) := Lib.hid (bel_then HB.out (Nat.le_refl _) hb5)
            clear hb5
            go_wp2_with fail
            go_ret
            rw [HX2.out]
            exact ⟨rfl, HB5.out⟩
          | some z =>
            rw [hx] at HC HXK
            have hz := vAny_good p 32 false 68 q z hx
            rw [HL.out] at hz
            obtain ⟨hz1, hz2⟩ := hz
            have HX5 : Hid (vTop p f z = X) := Lib.hid HXK.out.symm
            clear hx HXK
            unfold wI at HC
            have hz0 : ¬ (z : Int) < 0 := by omega
            go_wp2_with fail
            ((with_reducible refine (HPER.out _).mono ?_))
            rintro e w5 ⟨rfl, rfl⟩
            go_wp2_with fail
            ((with_reducible refine HC.out.mono ?_))
            rintro e w5 ⟨rfl, hb5⟩
            have HB5 : Hid (Below w.heap.size w w5) := Lib.hid (bel_then HB.out (Nat.le_refl _) hb5)
            have HV5 := Lib.hid (HV.out.below hb5)
            clear hb5 HC
            go_wp2_with fail
            go_roundw
            case rel => exact ⟨f, z, rfl, hz2, by omega, HX5, HV5, HB5⟩
            case measure => simp [intOf]; omega
      · have hlt' : ¬ (q : Int) < (L : Int) := by omega
        have HX5 : Hid (X = true) := Lib.hid (by
          rw [← HX.out]
          cases f with
          | zero => rw [vTop]; exact decide_eq_true (by rw [HL.out]; omega)
          | succ f => rw [vTop, if_pos (by rw [HL.out]; omega)])
        clear HX
        go_wp2_with fail
        go_ret
        rw [HX5.out]
        exact ⟨rfl, HB.out⟩
  · have h2' : (p.length : Int) > 2048 := by omega
    have HX0 : Hid (X = false) := Lib.hid (by rw [← hX.out]; unfold validL; rw [decide_eq_false h2, Bool.false_and])
    go_enter Tryz.func17, Tryz.ntmps17
    go_wp2_with fail
    go_ret
    rw [HX0.out]
    exact ⟨rfl, HB0.out⟩
theorem rvalid_is (p : List Nd) (hps : ∀ t ∈ p, t.str.length ≤ 65536) (b : Bool) (H : Hid (validL p = b)) (v : Value) (w : World) (hv : NSl w v p) (hl : p.length ≤ 9223372036854775000) :
    Calls Tryz.prog 17 #[v] w fun e w' => e = .returned (.bool b) ∧ Below w.heap.size w w' := by
  have := rvalid_any p hps v w hv hl
  rw [H.out] at this
  exact this
end Go.Proofs.YtnicnfchkdmieaaGreatDoor
namespace Go.Proofs.YtnicnfchkdmieaaGreatDoor
open Go.RowKit
set_option linter.unusedVariables false
set_option linter.unusedSimpArgs false
attribute [local go_sem] ByteArray.mk_append_mk bs_get bs_cut bs_end

def NdsS (l : List Nd) : Prop := ∀ t ∈ l, t.str.length ≤ 65536 ∧ 0 ≤ t.num
theorem NdsS.app {a b : List Nd} (h : NdsS a) (k : NdsS b) : NdsS (a ++ b) := fun t ht => by
  rcases List.mem_append.1 ht with ht | ht
  · exact h t ht
  · exact k t ht
theorem NdsS.cons {a : List Nd} {n : Nd} (hn : n.str.length ≤ 65536 ∧ 0 ≤ n.num) (h : NdsS a) : NdsS (n :: a) := fun t ht => by
  rcases List.mem_cons.1 ht with rfl | ht
  · exact hn
  · exact h t ht
theorem NdsS.tail {a : List Nd} (h : NdsS a) : NdsS a.tail := fun t ht => h t (List.mem_of_mem_tail ht)
theorem NdsS.nil : NdsS [] := fun t ht => by cases ht
def NGS (x : PR) : Prop := match x with
  | .no _ => True
  | .ok r ns => NdsS r ∧ NdsS ns
section
variable {sub : UInt8 → List TokI → PR} (hs : ∀ k r, NdsS r → NGS (sub k r))
include hs
theorem callL_nst (text : List UInt8) (ht : text.length ≤ 65536) : ∀ (f m : Nat) (ns : List Nd) (r : List TokI), NdsS ns → NdsS r → NGS (callL sub text f m ns r)
  | 0, m, ns, r, h, hr => trivial
  | f + 1, m, ns, r, h, hr => by
    rw [callL]
    have hk := hs 101 r hr
    cases hx : sub 101 r with
    | no x => trivial
    | ok r1 n1 =>
      rw [hx] at hk
      simp only []
      split
      · split
        · exact ⟨hk.1.tail, .cons ⟨ht, by show (0 : Int) ≤ 0; omega⟩ (h.app hk.2)⟩
        · trivial
      · exact callL_nst text ht f (m + 1) _ _ (h.app hk.2) hk.1.tail
theorem nameP_nst (k : UInt8) (text : List UInt8) (ht : text.length ≤ 65536) (r : List TokI) (hr : NdsS r) : NGS (nameP sub k text r) := by
  unfold nameP
  split
  · trivial
  split
  · trivial
  split
  · unfold callP
    split
    · exact ⟨hr.tail.tail.tail, .cons ⟨ht, by show (0 : Int) ≤ 0; omega⟩ .nil⟩
    · exact callL_nst hs text ht 7 0 [] _ .nil hr.tail.tail
  split
  · trivial
  · exact ⟨hr.tail, .cons ⟨ht, by show (0 : Int) ≤ 0; omega⟩ .nil⟩
theorem blockL_nst (k : UInt8) : ∀ (f m : Nat) (ns : List Nd) (r : List TokI), NdsS ns → NdsS r → NGS (blockL sub k f m ns r)
  | 0, m, ns, r, h, hr => trivial
  | f + 1, m, ns, r, h, hr => by
    rw [blockL]
    split
    · exact ⟨hr.tail, .cons ⟨by simp, by show (0 : Int) ≤ 0; omega⟩ h⟩
    split
    · trivial
    have hr2 : NdsS (if listB k = true ∧ 0 < m then r.tail else r) := by split; exact hr.tail; exact hr
    have hk := hs k _ hr2
    cases hx : sub k (if listB k = true ∧ 0 < m then r.tail else r) with
    | no x => trivial
    | ok r1 n1 => rw [hx] at hk; exact blockL_nst k f (m + 1) _ _ (h.app hk.2) hk.1
theorem blockP_nst (k : UInt8) (r : List TokI) (hr : NdsS r) : NGS (blockP sub k r) := by
  unfold blockP
  split
  · exact blockL_nst hs k _ 0 [] _ .nil hr.tail
  · trivial
theorem argsL_nst : ∀ (ks : List UInt8) (first : Bool) (ns : List Nd) (r : List TokI), NdsS ns → NdsS r → NGS (argsL sub ks first ns r)
  | [], first, ns, r, h, hr => by rw [argsL]; split; exact ⟨hr.tail, h⟩; trivial
  | k :: ks, first, ns, r, h, hr => by
    rw [argsL]
    split
    · split; exact ⟨hr.tail, h⟩; trivial
    split
    · trivial
    have hr2 : NdsS (if first = false then r.tail else r) := by split; exact hr.tail; exact hr
    have hk := hs k _ hr2
    cases hx : sub k (if first = false then r.tail else r) with
    | no x => trivial
    | ok r1 n1 => rw [hx] at hk; exact argsL_nst ks false _ _ (h.app hk.2) hk.1
theorem blksL_nst : ∀ (ks : List UInt8) (ns : List Nd) (r : List TokI), NdsS ns → NdsS r → NGS (blksL sub ks ns r)
  | [], ns, r, h, hr => by rw [blksL]; exact ⟨hr, h⟩
  | k :: ks, ns, r, h, hr => by
    rw [blksL]
    have hk := blockP_nst hs k r hr
    cases hx : blockP sub k r with
    | no x => trivial
    | ok r1 n1 => rw [hx] at hk; exact blksL_nst ks _ _ (h.app hk.2) hk.1
theorem opsP_nst (kinds : List UInt8) (r : List TokI) (hr : NdsS r) : NGS (opsP sub kinds r) := by
  unfold opsP
  split
  · exact ⟨hr, .nil⟩
  split
  · trivial
  have ha := argsL_nst hs kinds true [] r.tail .nil hr.tail
  cases hx : argsL sub kinds true [] r.tail with
  | no x => trivial
  | ok r1 n1 => rw [hx] at ha; exact blksL_nst hs _ _ _ ha.2 ha.1
theorem wordP_nst (k : UInt8) (w : List UInt8) (r : List TokI) (hr : NdsS r) : NGS (wordP sub k w r) := by
  unfold wordP
  cases hv : varW w with
  | some x =>
    obtain ⟨op, n⟩ := x
    simp only []
    split
    · exact ⟨hr.tail, .cons ⟨by simp, by show (0 : Int) ≤ (n : Int); omega⟩ .nil⟩
    · trivial
  | none =>
    simp only []
    split
    · trivial
    split
    · split
      · have := opsP_nst hs [101] r.tail hr.tail
        cases hx : opsP sub [101] r.tail with
        | no x => trivial
        | ok x ns => rw [hx] at this; exact ⟨this.1, .cons ⟨by simp, by show (0 : Int) ≤ 0; omega⟩ this.2⟩
      · exact ⟨hr.tail, .cons ⟨by simp, by show (0 : Int) ≤ 0; omega⟩ .nil⟩
    · have := opsP_nst hs (formP (opW w)).2 r.tail hr.tail
      cases hx : opsP sub (formP (opW w)).2 r.tail with
      | no x => trivial
      | ok x ns =>
        rw [hx] at this
        simp only []
        split
        · have hb := blockP_nst hs 83 x.tail this.1.tail
          cases hy : blockP sub 83 x.tail with
          | no z => trivial
          | ok r2 n2 => rw [hy] at hb; exact ⟨hb.1, .cons ⟨by simp, by show (0 : Int) ≤ 0; omega⟩ (this.2.app hb.2)⟩
        · exact ⟨this.1, .cons ⟨by simp, by show (0 : Int) ≤ 0; omega⟩ this.2⟩
end
theorem subP_nst : ∀ (f : Nat) (k : UInt8) (r : List TokI), NdsS r → NGS (subP f k r)
  | 0, k, r, hr => trivial
  | f + 1, k, r, hr => by
    cases r with
    | nil => trivial
    | cons t q =>
      have ht := hr t (by simp)
      unfold subP
      simp only []
      split
      · exact nameP_nst (subP_nst f) _ _ ht.1 _ hr
      split
      · exact wordP_nst (subP_nst f) _ _ _ hr
      split
      · exact ⟨hr.tail, .cons ⟨by simp, ht.2⟩ .nil⟩
      split
      · exact ⟨hr.tail, .cons ⟨ht.1, by show (0 : Int) ≤ 0; omega⟩ .nil⟩
      · trivial
theorem progF_nst (F : Nat) : ∀ (f : Nat) (ns : List Nd) (r : List TokI), NdsS ns → NdsS r → NGS (progF F f ns r)
  | 0, ns, r, h, hr => by rw [progF]; exact ⟨hr, h⟩
  | f + 1, ns, r, h, hr => by
    rw [progF]
    split
    · exact ⟨.nil, h⟩
    have hk := subP_nst F 68 r hr
    cases hx : subP F 68 r with
    | no x => trivial
    | ok r1 n1 => rw [hx] at hk; exact progF_nst F f _ _ (h.app hk.2) hk.1
theorem toI_ndsS (l : List Tok) (h : ∀ t ∈ l, TokOk t) : NdsS (l.map Tok.toI) := by
  intro t ht
  obtain ⟨x, hx, rfl⟩ := List.mem_map.1 ht
  refine ⟨(h x hx).1, ?_⟩
  show (0 : Int) ≤ (x.num : Int)
  omega
set_option maxRecDepth 100000 in
set_option maxHeartbeats 8000000 in
theorem rparse_syn (s : List UInt8) (m : Int) (w : World) (hm : SynG m w) (hs : s.length ≤ 4611686018427380000) :
    Calls Tryz.prog 27 #[.string ⟨s.toArray⟩] w (ParsePost w (parseL s)) := by
  have HSC := Lib.hid (rScan_any s w hs)
  have HG := Lib.hid hm
  obtain ⟨Z, hZ⟩ : ∃ Z, Hid (parseL s = Z) := ⟨_, Lib.hid rfl⟩
  have htok := scanL_ok s
  have hlen := scanL_len s
  obtain ⟨x, hx⟩ : ∃ x, scanL s = x := ⟨_, rfl⟩
  rw [hx] at HSC htok hlen
  have HZ0 : Hid (Z = if x.2.2 ≠ 0 then ([], (x.2.1 : Int), (x.2.2 : Int)) else parseT s.length (x.1.map Tok.toI)) := Lib.hid (by rw [← hZ.out]; unfold parseL; rw [hx])
  obtain ⟨tl, pos, er⟩ := x
  simp only at htok hlen HZ0
  unfold ScanPost at HSC
  simp only at HSC
  have HTOK := Lib.hid htok
  rw [hZ.out]
  clear hx hm htok hZ
  go_enter Tryz.func27, Tryz.ntmps27
  go_wp2_with fail
  ((with_reducible refine HSC.out.mono ?_))
  rintro e w1 ⟨v, rfl, hv, hb1⟩
  have HG1 := Lib.hid (HG.out.below hb1 HG.out.low)
  have HB1 := Lib.hid hb1
  have HV := Lib.hid hv
  obtain ⟨va, vc, rfl⟩ := hv.form
  clear hb1 hv HSC HG
  by_cases he : er = 0
  · subst he
    have HZ1 : Hid (Z = parseT s.length (tl.map Tok.toI)) := Lib.hid (by rw [HZ0.out, if_neg (fun h => h rfl)])
    obtain ⟨T, hT⟩ : ∃ T, tl.map Tok.toI = T := ⟨_, rfl⟩
    obtain ⟨Y, hY⟩ : ∃ Y, Hid (progF T.length T.length [] T = Y) := ⟨_, Lib.hid rfl⟩
    have HZ2 : Hid (Z = parseR s.length Y) := Lib.hid (by rw [HZ1.out, hT, ← hY.out] <;> rfl)
    have HNG : Hid (NGS Y) := Lib.hid (by rw [← hY.out]; exact progF_nst _ _ _ _ .nil (by rw [← hT]; exact toI_ndsS _ HTOK.out))
    have htl : tl.length = T.length := by rw [← hT, List.length_map]
    have HTB : Hid (TokB w1 w1.heap.size (.slice va tl.length vc) T) := Lib.hid (by rw [← hT]; exact HV.out.tokB)
    have HTG : Hid (TGood T) := Lib.hid (by rw [← hT]; exact toks_good HTOK.out)
    obtain ⟨b, hb⟩ : ∃ b, w1.heap.size = b := ⟨_, rfl⟩
    have HBE := Lib.hid hb
    rw [htl] at HTB hlen ⊢
    have hal : Below b w1 (w1.alloc (rpObj (.slice va T.length vc) 0 (.slice none 0 0) (-1))) := (Below.refl _ _).alloc (by omega) _
    have hsz0 : b ≤ (w1.alloc (rpObj (.slice va T.length vc) 0 (.slice none 0 0) (-1))).heap.size := by rw [← hb]; exact hal.size
    have HP0 : Hid (RSt m b b (w1.alloc (rpObj (.slice va T.length vc) 0 (.slice none 0 0) (-1))) T 0 (-1) []) := Lib.hid (by
      have h1 := heap_alloc_new w1 (rpObj (.slice va T.length vc) 0 (.slice none 0 0) (-1))
      rw [hb] at h1
      have h2 := HTB.out
      rw [hb] at h2
      exact ⟨⟨_, _, h1, h2.below hal, NodesI.nil _ _⟩, Nat.le_refl _, hsz0, HG1.out.below hal (by rw [← hb]; exact HG1.out.low), by rw [← hb]; exact HG1.out.low, HTG.out, Nat.zero_le _, by omega, by omega, by simp⟩)
    have HL0 := Lib.hid hal
    have HV1 : Hid (∀ (i : Nat) (t : TokI) (q : List TokI), T.drop i = t :: q → ∃ g off, va = some ⟨g, off, none⟩ ∧ g < b ∧ i < T.length ∧ TAt w1 g (off + i * 4) t) := Lib.hid (fun i t q hd => by
      obtain ⟨g, off, cap, hva, h1, h2, h3⟩ := HTB.out.drop_cells hd
      injection hva with hva _ _
      exact ⟨g, off, hva, by rw [← hb]; exact h1, h2, h3⟩)
    have hT6 : T.length ≤ 65536 := by omega
    clear hT HZ0 HZ1 HTOK HV hal hsz0 HG1 HTB HTG hb htl hlen
    go_wp2_with fail
    rw [HBE.out]
    generalize w1.alloc (rpObj (.slice va T.length vc) 0 (.slice none 0 0) (-1)) = W0 at HP0 HL0 ⊢
    have HSUBS := Lib.hid (rnode_ok m b b T (by omega) T.length)
    have HREL : Hid (∃ z, W0 = z ∧ ((∃ (f : Nat) (ns : List Nd) (i : Nat), (T.drop i).length ≤ f ∧ Hid (progF T.length f ns (T.drop i) = Y) ∧ Hid (RSt m b b z T i (-1) ns) ∧ Hid (Below b w1 z)) ∨ (∃ (i jf : Nat) (o' : List Nd), Hid (Y = .no (T.drop jf)) ∧ Hid (RSt m b b z T i jf o') ∧ Hid (Below b w1 z)))) := Lib.hid ⟨_, rfl, .inl ⟨T.length, [], 0, by simp, hY, HP0, HL0⟩⟩
    clear HP0 HL0 hY
    go_loopw [39] (fun _ wr => Hid ((∃ (f : Nat) (ns : List Nd) (i : Nat), (T.drop i).length ≤ f ∧ Hid (progF T.length f ns (T.drop i) = Y) ∧ Hid (RSt m b b wr T i (-1) ns) ∧ Hid (Below b w1 wr)) ∨ (∃ (i jf : Nat) (o' : List Nd), Hid (Y = .no (T.drop jf)) ∧ Hid (RSt m b b wr T i jf o') ∧ Hid (Below b w1 wr)))) (fun _ wr => rLeft wr b)
    case atStart =>
      obtain ⟨z, rfl, h⟩ := HREL.out
      exact Lib.hid h
    case round =>
      clear HREL
      rcases hrel.out with ⟨f, ns, i, hqf, HX, HP, HB⟩ | ⟨i, jf, o', HXF, HP, HB⟩
      · clear hrel
        obtain ⟨w3, rfl⟩ : ∃ y : World, y = wr := ⟨_, rfl⟩
        have HLF : Hid (rLeft w3 b = 1 + (T.length - i)) := Lib.hid (by rw [HP.out.left, if_neg (by omega)])
        have hix := HP.out.ix
        have hol := HP.out.ol
        obtain ⟨tv, nv, k1, k2, k3⟩ := HP.out.ex
        obtain ⟨ta, tcap, rfl, tl2, tc⟩ := k2
        obtain ⟨na, nc, rfl⟩ := k3.form
        obtain ⟨c0, c1, c2, c3⟩ := cells4 k1
        have HN := Lib.hid k3
        clear k1 k3 tc
        by_cases hlt : i < T.length
        · have hlt' : (i : Int) < (T.length : Int) := by omega
          obtain ⟨f, rfl⟩ : ∃ g, f = g + 1 := ⟨f - 1, by rw [List.length_drop] at hqf; omega⟩
          have hne : T.drop i ≠ [] := by intro e; have := congrArg List.length e; rw [List.length_drop] at this; simp at this; omega
          have HX2 : Hid (Y = match subP T.length 68 (T.drop i) with | .no x => .no x | .ok r1 n1 => progF T.length f (ns ++ n1) r1) := Lib.hid (by rw [← HX.out, progF, if_neg hne] <;> rfl)
          have hgood := subP_good T.length 68 (T.drop i)
          clear HX
          go_upto_region 5 with fail
          go_quiet (fail)
          go_wp2_with fail
          have HP4 : Hid (RSt m b b (w3.drewN nq) T i (-1) ns) := Lib.hid (HP.out.below (below_drewN (Below.refl _ _) _))
          have HB4 : Hid (Below b w1 (w3.drewN nq)) := Lib.hid (below_drewN HB.out _)
          clear c0 c1 c2 c3
          generalize w3.drewN nq = W4 at HP4 HB4 ⊢
          have HSUB : Hid (Calls Tryz.prog 50 #[.pointer (some ⟨b, 0, none⟩), .int .u8 68] W4 (RPost m b b T W4 ns (subP T.length 68 (T.drop i)))) := Lib.hid (HSUBS.out 68 i ns W4 HP4.out (by omega))
          cases hx : subP T.length 68 (T.drop i) with
          | no x =>
            rw [hx] at HSUB HX2
            have HX3 : Hid (Y = .no x) := HX2
            clear hx hgood
            ((with_reducible refine HSUB.out.mono ?_))
            rintro e w6 ⟨rfl, hb6, i6, j6, o6, rfl, hp6⟩
            have HB6 : Hid (Below b w1 w6) := Lib.hid (HB4.out.trans hb6)
            have HP6 := Lib.hid hp6
            clear hb6 hp6
            go_wp2_with fail
            go_roundw
            case rel => refine Lib.hid ?_; exact .inr ⟨i6, j6, o6, HX3, HP6, HB6⟩
            case measure => rw [HLF.out, HP6.out.left, if_pos (by omega)]; omega
          | ok x n1 =>
            rw [hx] at HSUB HX2 hgood
            have HX3 : Hid (progF T.length f (ns ++ n1) x = Y) := Lib.hid HX2.out.symm
            obtain ⟨d, hd1, hd2, hd3, hd4⟩ := hgood
            have HGOOD := Lib.hid hd3
            clear hx hd3
            ((with_reducible refine HSUB.out.mono ?_))
            rintro e w6 ⟨rfl, hb6, i6, hi6, hp6⟩
            have hlt6 : i < i6 := good_drop hp6.ix hi6 HGOOD.out hd1 hd2
            have hix6 := hp6.ix
            subst hi6
            have HB6 : Hid (Below b w1 w6) := Lib.hid (HB4.out.trans hb6)
            have HP6 := Lib.hid hp6
            have hf6 : (T.drop i6).length ≤ f := by rw [List.length_drop] at hqf ⊢; omega
            clear hb6 hp6
            go_wp2_with fail
            go_roundw
            case rel => refine Lib.hid ?_; exact .inl ⟨f, ns ++ n1, i6, hf6, HX3, HP6, HB6⟩
            case measure => rw [HLF.out, HP6.out.left, if_neg (by omega)]; omega
        · have hlt' : ¬ (i : Int) < (T.length : Int) := by omega
          have HX2 : Hid (Y = .ok [] ns) := Lib.hid (by
            rw [← HX.out, List.drop_eq_nil_of_le (by omega)]
            cases f with
            | zero => rw [progF]
            | succ f => rw [progF, if_pos rfl])
          have HZ3 : Hid (Z = if validL ns = true then (ns, 0, 0) else ([], 0, 11)) := Lib.hid (by rw [HZ2.out, HX2.out] <;> rfl)
          have hnd : NdsS ns := by
            have h := HNG.out
            rw [HX2.out] at h
            exact h.2
          obtain ⟨vb, hvb⟩ : ∃ z, validL ns = z := ⟨_, rfl⟩
          have HVA := Lib.hid (fun (x : World) (hx : Below w3.heap.size w3 x) => rvalid_is ns (fun t ht => (hnd t ht).1) vb (Lib.hid hvb) (.slice na ns.length nc) x ((HN.out.below hx).sl (fun t ht => ⟨Nat.le_trans (hnd t ht).1 (by omega), (hnd t ht).2⟩)) (by omega))
          rw [hvb] at HZ3
          clear HX hvb HX2 HZ2 HNG hlt hnd HLF
          go_upto_region 5 with fail
          go_quiet (fail)
          go_wp2_with fail
          ((with_reducible refine (HVA.out _ (below_drewN (Below.refl _ _) _)).mono ?_))
          rintro e w4 ⟨rfl, hb4⟩
          have hb34 : Below w3.heap.size w3 w4 := bel_then (below_drewN (Below.refl _ _) _) (Nat.le_refl _) hb4
          have HBW : Hid (Below w.heap.size w w4) := Lib.hid ((HB1.out.trans (HB.out.mono (by rw [← HBE.out]; exact HB1.out.size))).trans (hb34.mono (by have := HP.out.size; have := HB1.out.size; have := HBE.out; omega)))
          have HN4 := Lib.hid (HN.out.below hb34)
          have e2 : w4.cell? ⟨b, 2, none⟩ = some (.slice na ns.length nc) := (hb34.cell (p := ⟨b, 2, none⟩) (World.block_lt_of_cell? w3 ⟨b, 2, none⟩ c2)).trans c2
          clear hb4 hb34 c0 c1 c2 c3
          cases vb with
          | false =>
            have HZ4 : Hid (Z = ([], 0, 11)) := Lib.hid (by rw [HZ3.out] <;> rfl)
            go_wp2_with fail
            go_ret3
            unfold ParsePost
            rw [HZ4.out]
            exact ⟨_, rfl, NodesI.nil _ _, HBW.out⟩
          | true =>
            have HZ4 : Hid (Z = (ns, 0, 0)) := Lib.hid (by rw [HZ3.out] <;> rfl)
            go_wp2_with fail
            go_ret3
            unfold ParsePost
            rw [HZ4.out]
            exact ⟨_, rfl, HN4.out.base (by rw [← HBE.out]; exact HB1.out.size), HBW.out⟩
      · clear hrel
        obtain ⟨w3, rfl⟩ : ∃ y : World, y = wr := ⟨_, rfl⟩
        have HZ3 : Hid (Z = ([], posT s.length (T.drop jf), 2)) := Lib.hid (by rw [HZ2.out, HXF.out] <;> rfl)
        obtain ⟨⟨tv, nv, k1, k2, k3⟩, _⟩ := HP.out
        obtain ⟨c0, c1, c2, c3⟩ := cells4 k1
        obtain ⟨Fv, hFv⟩ : ∃ Fv : Int, (jf : Int) = Fv := ⟨_, rfl⟩
        have hF3 : decide (Fv < 0) = false := decide_eq_false (by omega)
        have hF4 : Fv ≥ 0 := by omega
        rw [hFv] at c3
        have HFV := Lib.hid hFv
        have HBW : Hid (Below w.heap.size w w3) := Lib.hid (HB1.out.trans (HB.out.mono (by rw [← HBE.out]; exact HB1.out.size)))
        clear k1 k2 k3 hFv c0 c1 c2
        go_upto_region 5 with fail
        have k3 : ∀ x, Grows (w3) x → x.cell? ⟨b, 3, none⟩ = some _ := fun x hx => (hx.cell (p := ⟨b, 3, none⟩) (World.block_lt_of_cell? _ ⟨b, 3, none⟩ c3)).trans c3
        refine wp_region_plan (Grows (w3)) 17 [.reads [0, 1, 2, 3, 4, 5, 6, 7, 8, 9, 10, 11, 12, 13, 14, 15, 16]] (by kernel_rfl) (by kernel_rfl) (by kernel_rfl) (by kernel_rfl) (by kernel_rfl) (fun _ _ d _ _ h => by cases d <;> exact h) (Grows.self _) ?_
        refine wpPlan_reads ?_
        simp only [pickOps, List.drop_succ_cons, List.drop_zero, List.take_succ_cons, List.take_zero, List.cons_append, List.nil_append]
        repeat (go_big_quiet_step ((intro hb; rw [k3 _ hb]; exact ⟨rfl, rfl⟩)))
        (try simp only [hF3])
        repeat (go_big_quiet_step (fail))
        refine wpQuiet_nil ?_
        clear k3
        refine wpPlan_nil ?_
        have d3b : w3.drew.cell? ⟨b, 3, none⟩ = some (.int .i64 Fv) := c3
        have d3 : (w3.drewN 1).cell? ⟨b, 3, none⟩ = some (.int .i64 Fv) := c3
        have HBX : Hid (Below w.heap.size w (w3.drewN 1)) := Lib.hid (below_drewN HBW.out _)
        have HBY : Hid (Below b w1 (w3.drewN 1)) := Lib.hid (below_drewN HB.out _)
        clear c3 HBW HB HP
        cases hd : T.drop jf with
        | nil =>
          have hge : ¬ Fv < (T.length : Int) := by
            have := congrArg List.length hd
            rw [List.length_drop] at this
            simp only [List.length_nil] at this
            have := HFV.out
            omega
          have HZ4 : Hid (Z = ([], (s.length : Int), 2)) := Lib.hid (by rw [HZ3.out, hd] <;> rfl)
          clear hd
          go_wp2_with fail
          go_ret3
          unfold ParsePost
          rw [HZ4.out]
          exact ⟨_, rfl, NodesI.nil _ _, HBX.out⟩
        | cons t q =>
          obtain ⟨g, off, rfl, hgb, hjl, t0, t1, t2, t3⟩ := HV1.out jf t q hd
          have hge : Fv < (T.length : Int) := by have := HFV.out; omega
          have HZ4 : Hid (Z = ([], t.pos, 2)) := Lib.hid (by rw [HZ3.out, hd] <;> rfl)
          have HT3 : Hid ((w3.drewN 1).cell? ⟨g, off + jf * 4 + 3, none⟩ = some (.int .i64 t.pos)) := Lib.hid ((HBY.out.cell (p := ⟨g, off + jf * 4 + 3, none⟩) hgb).trans t3)
          clear hd t0 t1 t2 t3
          go_upto_region 8 with fail
          have e0 : Fv = (jf : Int) := HFV.out.symm
          clear HFV
          subst e0
          have k3 : ∀ x, Grows (w3.drewN 1) x → x.cell? ⟨b, 3, none⟩ = some _ := fun x hx => (hx.cell (p := ⟨b, 3, none⟩) (World.block_lt_of_cell? _ ⟨b, 3, none⟩ d3)).trans d3
          have ht3 := HT3.out
          have q3 : ∀ x, Grows (w3.drewN 1) x → x.cell? ⟨g, off + jf * 4 + 3, none⟩ = some _ := fun x hx => (hx.cell (p := ⟨g, off + jf * 4 + 3, none⟩) (World.block_lt_of_cell? _ ⟨g, off + jf * 4 + 3, none⟩ ht3)).trans ht3
          refine wp_region_plan (Grows (w3.drewN 1)) 9 [.reads [0, 1, 2, 3, 4, 5, 6, 7, 8], .act 9, .act 10] (by kernel_rfl) (by kernel_rfl) (by kernel_rfl) (by kernel_rfl) (by kernel_rfl) (fun _ _ d _ _ h => by cases d <;> exact h) (Grows.self _) ?_
          refine wpPlan_reads ?_
          simp only [pickOps, List.drop_succ_cons, List.drop_zero, List.take_succ_cons, List.take_zero, List.cons_append, List.nil_append]
          repeat (go_big_quiet_step (first | (intro hb; rw [k3 _ hb]; exact ⟨rfl, rfl⟩) | (intro hb; rw [q3 _ hb]; exact ⟨rfl, rfl⟩)))
          refine wpQuiet_nil ?_
          clear k3 q3
          refine wpPlan_act rfl ?_
          simp only [pickOps, List.drop_succ_cons, List.drop_zero, List.take_succ_cons, List.take_zero, List.cons_append, List.nil_append]
          go_wp2_with fail
          refine ⟨fun h => absurd h (by decide), ?_⟩
          refine wpPlan_act rfl ?_
          simp only [pickOps, List.drop_succ_cons, List.drop_zero, List.take_succ_cons, List.take_zero, List.cons_append, List.nil_append]
          go_wp2_with fail
          refine ⟨fun h => absurd h (by decide), wpPlan_nil ?_⟩
          go_wp2_with fail
          go_ret3
          unfold ParsePost
          rw [HZ4.out]
          exact ⟨_, rfl, NodesI.nil _ _, below_drewN HBX.out 1⟩
  · have f1 : ((er : Int) != 0) = true := by rw [bne_iff_ne]; omega
    have HZ1 : Hid (Z = ([], (pos : Int), (er : Int))) := Lib.hid (by rw [HZ0.out, if_pos he])
    clear he HZ0
    go_wp2_with fail
    go_ret3
    unfold ParsePost
    rw [HZ1.out]
    exact ⟨_, rfl, NodesI.nil _ _, HB1.out⟩
theorem rparse_is (s : List UInt8) (ns : List Nd) (pos er m : Int) (H : Hid (parseL s = (ns, pos, er))) (w : World) (hm : SynG m w) (hs : s.length ≤ 4611686018427380000) :
    Calls Tryz.prog 27 #[.string ⟨s.toArray⟩] w fun e w' => ∃ v, e = .returned (.tuple #[v, .int .i64 pos, .int .i64 er]) ∧ NodesI w' w.heap.size v ns ∧ Below w.heap.size w w' := by
  have := rparse_syn s m w hm hs
  unfold ParsePost at this
  rw [H.out] at this
  exact this
end Go.Proofs.YtnicnfchkdmieaaGreatDoor
namespace Go.Proofs.YtnicnfchkdmieaaGreatDoor
open Go.RowKit
set_option linter.unusedVariables false
set_option linter.unusedSimpArgs false
attribute [local go_sem] ByteArray.mk_append_mk bs_get bs_cut bs_end

theorem parseL_nds (s : List UInt8) : NdsOk (parseL s).1 := by
  unfold parseL
  split
  · exact .nil
  · unfold parseT
    have h := progF_ng ((scanL s).1.map Tok.toI).length ((scanL s).1.map Tok.toI).length [] _ .nil (toI_nds _ (scanL_ok s))
    cases hx : progF ((scanL s).1.map Tok.toI).length ((scanL s).1.map Tok.toI).length [] ((scanL s).1.map Tok.toI) with
    | no x => exact .nil
    | ok r ns =>
      rw [hx] at h
      unfold parseR
      simp only []
      split
      · exact h.2
      · exact .nil
theorem parseL_len (s : List UInt8) : (parseL s).1.length ≤ 2048 := by
  unfold parseL
  split
  · simp
  · unfold parseT parseR
    split
    · simp
    · split
      · next h =>
        unfold validL at h
        simp only [Bool.and_eq_true, decide_eq_true_eq] at h
        exact h.1
      · simp
theorem agrees_any (s : List UInt8) (m : Int) (w : World) (hm : SynG m w) (hs : s.length ≤ 4611686018427380000) :
    Calls Tryz.prog 10 #[.string ⟨s.toArray⟩] w fun e w' => e = .returned (.bool true) ∧ Below w.heap.size w w' := by
  have HG := Lib.hid hm
  have HND : Hid (NdsOk (parseL s).1) := Lib.hid (parseL_nds s)
  have HLN : Hid ((parseL s).1.length ≤ 1000000) := Lib.hid (by
    have h := parseL_len s
    omega)
  obtain ⟨⟨ns, pos, er⟩, hR⟩ : ∃ x, parseL s = x := ⟨_, rfl⟩
  have HRR := Lib.hid hR
  rw [hR] at HND HLN
  have HP1 := Lib.hid (parse_is s ns pos er m HRR w hm hs)
  clear hR hm
  go_enter Tryz.func10, Tryz.ntmps10
  go_wp2_with fail
  ((with_reducible refine HP1.out.mono ?_))
  rintro e w1 ⟨v1, rfl, hv1, hb1⟩
  obtain ⟨a1, c1, rfl⟩ := hv1.form
  have HG1 := Lib.hid (HG.out.below hb1 HG.out.low)
  have HN1 := Lib.hid (hv1.sl HND.out)
  have HB1 := Lib.hid hb1
  have HP2 := Lib.hid (rparse_is s ns pos er m HRR w1 HG1.out hs)
  clear hv1 hb1 HP1
  go_wp2_with fail
  ((with_reducible refine HP2.out.mono ?_))
  rintro e w2 ⟨v2, rfl, hv2, hb2⟩
  obtain ⟨a2, c2, rfl⟩ := hv2.form
  have HN2 := Lib.hid (hv2.sl HND.out)
  have HN12 := Lib.hid (HN1.out.below hb2)
  have HB2 : Hid (Below w.heap.size w w2) := Lib.hid (bel_then HB1.out (Nat.le_refl _) hb2)
  have HEQ := Lib.hid (equal_nodes _ _ ns w2 HN12.out HN2.out (by have := HLN.out; omega))
  clear hv2 hb2 HP2
  go_wp2_with fail
  ((with_reducible refine HEQ.out.mono ?_))
  rintro e w3 ⟨rfl, n, rfl⟩
  go_wp2_with fail
  go_ret
  exact ⟨rfl, below_drewN HB2.out n⟩

abbrev allO : Obj := .cells #[.string ⟨#[78, 97, 109, 101]⟩, .string ⟨#[77, 101, 116, 104, 111, 100]⟩, .string ⟨#[68, 101, 118, 105, 99, 101]⟩, .string ⟨#[83, 99, 111, 112, 101]⟩, .string ⟨#[73, 102]⟩, .string ⟨#[69, 108, 115, 101]⟩, .string ⟨#[87, 104, 105, 108, 101]⟩, .string ⟨#[82, 101, 116, 117, 114, 110]⟩, .string ⟨#[83, 116, 111, 114, 101]⟩, .string ⟨#[65, 100, 100]⟩, .string ⟨#[66, 117, 102, 102, 101, 114]⟩, .string ⟨#[80, 97, 99, 107, 97, 103, 101]⟩, .string ⟨#[76, 111, 99, 97, 108, 48]⟩, .string ⟨#[65, 114, 103, 54]⟩, .string ⟨#[76, 111, 99, 97, 108, 56]⟩, .string ⟨#[65]⟩, .string ⟨#[92]⟩, .string ⟨#[94, 66, 46, 67]⟩, .string ⟨#[40]⟩, .string ⟨#[41]⟩, .string ⟨#[123]⟩, .string ⟨#[125]⟩, .string ⟨#[44]⟩, .string ⟨#[49]⟩, .string ⟨#[48]⟩, .string ⟨#[34, 120, 34]⟩, .string ⟨#[70, 105, 101, 108, 100]⟩, .string ⟨#[85, 110, 105, 116]⟩, .string ⟨#[66, 114, 101, 97, 107]⟩, .string ⟨#[65, 99, 113, 117, 105, 114, 101]⟩, .string ⟨#[40, 65, 44, 32, 49, 41]⟩, .string ⟨#[40, 49, 44, 32, 50, 41]⟩] 9
def allL : List (List UInt8) := [[78, 97, 109, 101], [77, 101, 116, 104, 111, 100], [68, 101, 118, 105, 99, 101], [83, 99, 111, 112, 101], [73, 102], [69, 108, 115, 101], [87, 104, 105, 108, 101], [82, 101, 116, 117, 114, 110], [83, 116, 111, 114, 101], [65, 100, 100], [66, 117, 102, 102, 101, 114], [80, 97, 99, 107, 97, 103, 101], [76, 111, 99, 97, 108, 48], [65, 114, 103, 54], [76, 111, 99, 97, 108, 56], [65], [92], [94, 66, 46, 67], [40], [41], [123], [125], [44], [49], [48], [34, 120, 34], [70, 105, 101, 108, 100], [85, 110, 105, 116], [66, 114, 101, 97, 107], [65, 99, 113, 117, 105, 114, 101], [40, 65, 44, 32, 49, 41], [40, 49, 44, 32, 50, 41]]
theorem all_at : ∀ k : Fin 32, ∃ x ∈ allL, allL[k.val]? = some x ∧ x.length ≤ 10 := by decide +kernel
theorem all_cell {w : World} {A : Nat} (h : w.heap[A]? = some allO) (k : Nat) (hk : k < 32) : ∃ x : List UInt8, x.length ≤ 10 ∧ w.cell? ⟨A, k, none⟩ = some (.string ⟨x.toArray⟩) := by
  obtain ⟨x, _, h1, h2⟩ := all_at ⟨k, hk⟩
  refine ⟨x, h2, ?_⟩
  rw [cell_of_row w A k _ _ (0, 0) h]
  have e : (allL.map strV).toArray[k]? = some (strV x) := by
    have h1' : allL[k]? = some x := h1
    rw [List.getElem?_toArray, List.getElem?_map, h1']
    rfl
  exact e
set_option maxRecDepth 100000 in
set_option maxHeartbeats 8000000 in
theorem law_exact (s : List UInt8) (v : Value) (l : List UInt8) (m : Int) (w : World) (hm : SynG m w) (hv : BArg w v l) (hs : s.length ≤ 4611686018427380000) :
    Calls Tryz.prog 3 #[.string ⟨s.toArray⟩, v] w fun e w' => e = .returned (.bool true) ∧ Below w.heap.size w w' := by
  obtain ⟨a, cap, rfl, hl, hc⟩ := hv
  have HC := Lib.hid hc
  have HG0 : Hid (SynG m (w.alloc allO)) := Lib.hid (hm.below ((Below.refl _ _).alloc (Nat.le_refl _) _) hm.low)
  have HA : Hid ((w.alloc allO).heap[w.heap.size]? = some allO) := Lib.hid (heap_alloc_new _ _)
  have HB0 : Hid (Below w.heap.size w (w.alloc allO)) := Lib.hid ((Below.refl _ _).alloc (Nat.le_refl _) _)
  clear hc hm
  go_enter Tryz.func3, Tryz.ntmps3
  go_upto_region 2 with fail
  have HCC : Hid (∀ k (h : k < l.length), ∃ b off, a = some ⟨b, off, none⟩ ∧ (w.alloc allO).cell? ⟨b, off + k, none⟩ = some (.int .u8 l[k].toNat)) := Lib.hid (fun k hk => by
    obtain ⟨b, off, ha, kk⟩ := HC.out (by rintro rfl; simp at hk)
    exact ⟨b, off, ha, (HB0.out.cell (p := ⟨b, off + k, none⟩) (World.block_lt_of_cell? w _ (kk k hk))).trans (kk k hk)⟩)
  obtain ⟨A, hA⟩ : ∃ A, w.heap.size = A := ⟨_, rfl⟩
  have HAE := Lib.hid hA
  rw [hA] at HA HB0
  (try simp only [hA])
  generalize w.alloc allO = W0 at HG0 HA HB0 HCC ⊢
  clear hA HC
  go_wp2_with fail
  go_loopw [6, 7] (fun z i wr => ∃ (k : Nat) (t : List UInt8), z = .string ⟨t.toArray⟩ ∧ i = .int .i64 k ∧ t.length ≤ 11 * k ∧ k ≤ 60 ∧ k ≤ l.length ∧ W0 = wr) (fun z i _ => 60 - (intOf i).toNat)
  case atStart => exact ⟨0, [], rfl, rfl, Nat.zero_le _, by omega, by omega, rfl⟩
  case round =>
    obtain ⟨k, t, rfl, rfl, ht, hk, hkl, rfl⟩ := hrel
    obtain ⟨w1, rfl⟩ : ∃ y : World, y = W0 := ⟨_, rfl⟩
    by_cases h12 : k < l.length ∧ k < 60
    · obtain ⟨h1, h2⟩ := h12
      have h1' : (k : Int) < (l.length : Int) := by omega
      obtain ⟨b, off, rfl, c0⟩ := HCC.out k h1
      have hx := l[k].toNat_lt
      obtain ⟨xn, hxe⟩ : ∃ n : Nat, l[k].toNat = n := ⟨_, rfl⟩
      rw [hxe] at c0 hx
      have hm1 : ((xn : Int).tmod 32) = ((xn % 32 : Nat) : Int) := Int.ofNat_tmod xn 32 |>.symm
      have hm2 : xn % 32 < 32 := Nat.mod_lt _ (by decide)
      obtain ⟨y, hy, c1⟩ := all_cell HA.out (xn % 32) hm2
      obtain ⟨q, hq⟩ : ∃ q, xn % 32 = q := ⟨_, rfl⟩
      rw [hq] at hm1 hm2 c1
      have hm3 : (q : Int) < 32 := by omega
      clear hxe hq
      go_wp2_with fail
      go_roundw
      case rel => exact ⟨k + 1, _, rfl, by go_num, by simp only [List.length_append, List.length_cons, List.length_nil]; omega, by omega, by omega, by trivial⟩
      case measure => simp [intOf]; omega
    · have hex : ¬ (k : Int) < (l.length : Int) ∨ ((k : Int) < (l.length : Int) ∧ ¬ (k : Int) < 60) := by omega
      have HAW := Lib.hid (awake_any m w1 HG0.out)
      rcases hex with hex | ⟨hex1, hex⟩
      all_goals
        go_wp2_with fail
        ((with_reducible refine HAW.out.mono ?_))
        rintro e w2 ⟨rfl, hb⟩
        have HG2 := Lib.hid (HG0.out.below hb HG0.out.low)
        have HB2 : Hid (Below A w w2) := Lib.hid (bel_then HB0.out (by have := HAE.out; omega) hb)
        clear hb
        have HA1 := Lib.hid (agrees_any s m w2 HG2.out hs)
        go_wp2_with fail
        ((with_reducible refine HA1.out.mono ?_))
        rintro e w3 ⟨rfl, hb⟩
        have HG3 := Lib.hid (HG2.out.below hb HG2.out.low)
        have HB3 : Hid (Below A w w3) := Lib.hid (bel_then HB2.out (by have := HAE.out; omega) hb)
        clear hb
        have HA2 := Lib.hid (agrees_any t m w3 HG3.out (by omega))
        go_wp2_with fail
        ((with_reducible refine HA2.out.mono ?_))
        rintro e w4 ⟨rfl, hb⟩
        have HB4 : Hid (Below A w w4) := Lib.hid (bel_then HB3.out (by have := HAE.out; omega) hb)
        clear hb
        go_wp2_with fail
        go_ret
        exact ⟨rfl, by rw [HAE.out]; exact HB4.out⟩
end Go.Proofs.YtnicnfchkdmieaaGreatDoor
namespace Go.Proofs.YtnicnfchkdmieaaGreatDoor
open Go.RowKit
set_option linter.unusedVariables false
set_option linter.unusedSimpArgs false
set_option maxRecDepth 100000

def formData {H : Type} (T : List (List UInt8 × List UInt8)) : DataW H := .agg (T.map fun x => .agg [.lit (.string x.1), .lit (.string x.2)])
theorem cells_of_forms {H : Type} {enc : TypeId × Value → H} {P : Program} {w : World} {base : Nat} {sp : Nat → Bool} {held : Bool} {fuel : Nat} {t e tS n : Nat} {fs : Array Field} {f0 f1 : Field} {cs : List Value} {T : List (List UInt8 × List UInt8)} {p : List MemPlace}
    (ht : P.underlying t = some (.array n e)) (he : P.underlying e = some (.struct fs)) (hce : P.cellsOf e = 2) (hS : P.underlying tS = some .string) (hcS : P.cellsOf tS = 1)
    (h0 : fs[0]? = some f0) (h1 : fs[1]? = some f1) (o0 : f0.offset = 0) (o1 : f1.offset = 1) (t0 : f0.type = tS) (t1 : f1.type = tS)
    (h : DataW.trod enc P w base sp held fuel t cs = some (formData T, p)) (i : Nat) (hi : i < T.length) :
    cs[2 * i]? = some (.string ⟨T[i].1.toArray⟩) ∧ cs[2 * i + 1]? = some (.string ⟨T[i].2.toArray⟩) := by
  cases fuel with
  | zero => simp [DataW.trod] at h
  | succ fuel =>
    simp only [DataW.trod, ht, hce] at h
    split at h
    · obtain ⟨xs, hm, hx⟩ := Option.map_eq_some_iff.1 h
      have hxs : xs.map (·.1) = T.map fun x => (DataW.agg [.lit (.string x.1), .lit (.string x.2)] : DataW H) := by
        have := congrArg Prod.fst hx
        simpa [formData] using this
      have hxl : xs.length = n := by simpa using Lib.mapM_length hm
      have hTl : T.length = xs.length := by
        have h9 : (xs.map (·.1)).length = (T.map fun x => (DataW.agg [.lit (.string x.1), .lit (.string x.2)] : DataW H)).length := by rw [hxs]
        rw [List.length_map, List.length_map] at h9
        exact h9.symm
      have hin : i < n := by omega
      obtain ⟨b, hb, hf⟩ := Lib.mapM_at hm i i (List.getElem?_range hin)
      have hb1 : b.1 = .agg [.lit (.string T[i].1), .lit (.string T[i].2)] := by
        have h2 : (xs.map (·.1))[i]? = some b.1 := by simp [hb]
        rw [hxs] at h2
        simp [List.getElem?_map, hi] at h2
        exact h2.symm
      obtain ⟨ys, m, -, e1, e2, e3, e4⟩ := DataW.trod_struct he hf
      rw [e1] at hb1
      simp only [DataW.agg.injEq] at hb1
      have y0 := e4 0 f0 h0
      have y1 := e4 1 f1 h1
      rw [o0, t0, hcS] at y0
      rw [o1, t1, hcS] at y1
      have g0 : (ys.map (·.1))[0]? = some (DataW.lit (.string T[i].1) : DataW H) := by rw [hb1]; rfl
      have g1 : (ys.map (·.1))[1]? = some (DataW.lit (.string T[i].2) : DataW H) := by rw [hb1]; rfl
      rw [List.getElem?_map, Option.map_eq_some_iff] at g0 g1
      obtain ⟨z0, q0, r0⟩ := g0
      obtain ⟨z1, q1, r1⟩ := g1
      rw [q0] at y0
      rw [q1] at y1
      obtain ⟨s0, c0, d0, -⟩ := DataW.trod_string hS y0
      obtain ⟨s1, c1, d1, -⟩ := DataW.trod_string hS y1
      rw [d0] at r0
      rw [d1] at r1
      simp only [DataW.lit.injEq, Lit.string.injEq] at r0 r1
      have k0 := congrArg (·[0]?) c0
      have k1 := congrArg (·[0]?) c1
      simp [List.getElem?_take, List.getElem?_drop] at k0 k1
      rw [Nat.mul_comm 2 i]
      refine ⟨?_, ?_⟩
      · rw [k0, ← r0]
      · rw [k1, ← r1]
    · cases h
theorem forms_of_head {P : Program} {W : World} {name : String} {T : List (List UInt8 × List UInt8)} {rest : List (String × DataW Unit)} {g t e tS n : Nat} {fs : Array Field} {f0 f1 : Field}
    (hg : P.globalNamed name = some g) (hty : (P.globals[g]?).map (·.type) = some t) (ht : P.underlying t = some (.array n e)) (he : P.underlying e = some (.struct fs)) (hce : P.cellsOf e = 2) (hS : P.underlying tS = some .string) (hcS : P.cellsOf tS = 1)
    (h0 : fs[0]? = some f0) (h1 : fs[1]? = some f1) (o0 : f0.offset = 0) (o1 : f1.offset = 1) (t0 : f0.type = tS) (t1 : f1.type = tS)
    (h : laidMet P ((name, formData T) :: rest) W) (i : Nat) (hi : i < T.length) :
    W.cell? ⟨g, 2 * i, none⟩ = some (.string ⟨T[i].1.toArray⟩) ∧ W.cell? ⟨g, 2 * i + 1, none⟩ = some (.string ⟨T[i].2.toArray⟩) := by
  obtain ⟨ps, ⟨g', t', cs, fuel, p, q, hg', ht', hvar, hd, _, _⟩, _⟩ := h
  obtain rfl := Option.some.inj (hg.symm.trans hg')
  obtain rfl := Option.some.inj (hty.symm.trans ht')
  obtain ⟨a, b⟩ := cells_of_forms ht he hce hS hcS h0 h1 o0 o1 t0 t1 hd i hi
  exact ⟨by rw [World.var?_cell hg hvar]; simpa using a, by rw [World.var?_cell hg hvar]; simpa using b⟩
theorem laid_expr {W : World} (h : laidMetH Tryz.prog Rows.syntaxParsesExactlyRow.laid W) (i : Nat) (hi : i < exprT.length) :
    W.cell? ⟨2, 2 * i, none⟩ = some (.string ⟨exprT[i].1.toArray⟩) ∧ W.cell? ⟨2, 2 * i + 1, none⟩ = some (.string ⟨exprT[i].2.toArray⟩) := by
  have h1 := h.filter fun x => x.1 == "platformfw/syntax.expressionForms"
  rw [show (Rows.syntaxParsesExactlyRow.laid.filter fun x => x.1 == "platformfw/syntax.expressionForms") = [("platformfw/syntax.expressionForms", formData exprT)] by kernel_rfl] at h1
  exact forms_of_head (rest := []) (name := "platformfw/syntax.expressionForms") (t := 152) (e := 119) (tS := 9) (by kernel_rfl) (by kernel_rfl) Tryz.underlying152 Tryz.underlying119 (by kernel_rfl) Tryz.underlying9 (by kernel_rfl) rfl rfl rfl rfl rfl rfl h1 i hi
theorem laid_stmt {W : World} (h : laidMetH Tryz.prog Rows.syntaxParsesExactlyRow.laid W) (i : Nat) (hi : i < stmtT.length) :
    W.cell? ⟨1, 2 * i, none⟩ = some (.string ⟨stmtT[i].1.toArray⟩) ∧ W.cell? ⟨1, 2 * i + 1, none⟩ = some (.string ⟨stmtT[i].2.toArray⟩) := by
  have h1 := h.filter fun x => x.1 == "platformfw/syntax.statementForms"
  rw [show (Rows.syntaxParsesExactlyRow.laid.filter fun x => x.1 == "platformfw/syntax.statementForms") = [("platformfw/syntax.statementForms", formData stmtT)] by kernel_rfl] at h1
  exact forms_of_head (rest := []) (name := "platformfw/syntax.statementForms") (t := 151) (e := 119) (tS := 9) (by kernel_rfl) (by kernel_rfl) Tryz.underlying151 Tryz.underlying119 (by kernel_rfl) Tryz.underlying9 (by kernel_rfl) rfl rfl rfl rfl rfl rfl h1 i hi
theorem laid_decl {W : World} (h : laidMetH Tryz.prog Rows.syntaxParsesExactlyRow.laid W) (i : Nat) (hi : i < declT.length) :
    W.cell? ⟨0, 2 * i, none⟩ = some (.string ⟨declT[i].1.toArray⟩) ∧ W.cell? ⟨0, 2 * i + 1, none⟩ = some (.string ⟨declT[i].2.toArray⟩) := by
  have h1 := h.filter fun x => x.1 == "platformfw/syntax.declarationForms"
  rw [show (Rows.syntaxParsesExactlyRow.laid.filter fun x => x.1 == "platformfw/syntax.declarationForms") = [("platformfw/syntax.declarationForms", formData declT)] by kernel_rfl] at h1
  exact forms_of_head (rest := []) (name := "platformfw/syntax.declarationForms") (t := 150) (e := 119) (tS := 9) (by kernel_rfl) (by kernel_rfl) Tryz.underlying150 Tryz.underlying119 (by kernel_rfl) Tryz.underlying9 (by kernel_rfl) rfl rfl rfl rfl rfl rfl h1 i hi
theorem laid_syn {W : World} {m : Int} (h : laidMetH Tryz.prog Rows.syntaxParsesExactlyRow.laid W) (hm : W.cell? ⟨3, 0, none⟩ = some (.int .i64 m)) : SynG m W :=
  ⟨hm, laid_expr h, laid_stmt h, laid_decl h⟩
/-- The library's own variable holds some integer. -/
theorem max_cell {W : World} (h : W.ShapedOpen Tryz.prog) : ∃ m, W.cell? ⟨3, 0, none⟩ = some (.int .i64 m) :=
  Go.Proofs.cell_of_shapedOpen_int (zero := #[.int .i64 0]) (t := 3) h (of_decide_eq_true (by kernel_rfl)) (by kernel_rfl) rfl (by kernel_rfl) (by kernel_rfl) Tryz.underlying3
end Go.Proofs.YtnicnfchkdmieaaGreatDoor
namespace Go.Proofs.YtnicnfchkdmieaaGreatDoor
open Go.ChangeShapes Go.WideShapes Go.RowKit Go.Joins

theorem cellsT5 : Tryz.prog.cellsOf 5 = 1 := by kernel_rfl
theorem bytesT5 : Tryz.prog.bytesOf 5 = 1 := by kernel_rfl
theorem add_zero_addr (b o k : Nat) : (⟨b, o, none⟩ : Addr).add k = ⟨b, o + k, none⟩ := by by_cases h : k = 0 <;> simp [Addr.add, h]
theorem open_bytesV {H : Type} {enc : TypeId × Value → H} {W : World} {fuel : Nat} {v : Value} {y : DataW H × List MemPlace} (h : DataW.trod enc Tryz.prog W 0 (fun _ => true) true fuel 22 [v] = some y) (hw : ∀ m ∈ y.1.weights Tryz.prog 22, m ≤ reachBytes) :
    ∃ l, BArg W v l := by
  rcases open_ints Tryz.underlying22 Tryz.underlying5 cellsT5 h with ⟨hcs, hx⟩ | ⟨a, len, cap, zs, hcs, _, hl, hm, hz, hx, hcell, hwz⟩
  · cases hcs
    exact ⟨[], none, 0, rfl, by simp, fun h => absurd rfl h⟩
  · cases hcs
    subst hx
    simp only [if_true] at hz
    have h1 : ((lits (H := H) .u8 (zs.take len)).length + (lits (H := H) .u8 (zs.drop len)).length) * Tryz.prog.bytesOf 5 ≤ reachBytes := by
      apply hw
      simp only [DataW.weights, Tryz.underlying22]
      exact List.mem_cons_self ..
    rw [bytesT5] at h1
    simp only [lits, List.length_map, List.length_take, List.length_drop] at h1
    have hr : reachBytes = 140737488351232 := rfl
    rw [hr] at h1
    have hlen : ((zs.take len).map (fun z => UInt8.ofNat z.toNat)).length = len := by simp; omega
    refine ⟨(zs.take len).map (fun z => UInt8.ofNat z.toNat), some a, cap, by rw [hlen], by rw [hlen]; omega, fun hn => ?_⟩
    have hpos : 0 < len := by
      rcases Nat.eq_zero_or_pos len with h0 | h0
      · subst h0; simp at hn
      · exact h0
    obtain ⟨b, o, spot⟩ := a
    have hsp : spot = none := by
      have h1 := hcell 0 (by omega)
      simpa [Addr.add] using World.cell?_spot h1
    subst hsp
    refine ⟨b, o, rfl, fun k hk => ?_⟩
    rw [hlen] at hk
    have h2 := hcell k (by omega)
    rw [add_zero_addr] at h2
    rw [h2]
    have hb := bounds_u8 (hwz zs[k] (List.getElem_mem _))
    simp [List.getD, List.getElem?_eq_getElem (show k < zs.length by omega)]
    omega
set_option maxRecDepth 100000 in
theorem open_bytesA {H : Type} {enc : TypeId × Value → H} {W : World} {b0 : Nat} {v : Value} {d : DataW H} {p : List MemPlace} (hv : Value.okWide Tryz.prog W .any b0 22 v) (h : DataW.Trod enc Tryz.prog W 0 (fun _ => true) true 22 v d p) (hw : ∀ m ∈ d.weights Tryz.prog 22, m ≤ reachBytes) :
    ∃ l, BArg W v l := by
  obtain ⟨a0, len, cap, rfl⟩ := okWide_slice Tryz.underlying22 hv
  obtain ⟨fuel, hf⟩ := h
  exact open_bytesV (by simpa [Value.cells] using hf) hw
theorem sized_each {H : Type} {P : Program} {ts : List TypeId} {ds : List (DataW H)} (h : (DataW.weightsEach P ts ds).all (· ≤ reachBytes) = true) {j : Nat} {t : TypeId} {d : DataW H} (ht : ts[j]? = some t) (hd : ds[j]? = some d) : ∀ m ∈ d.weights P t, m ≤ reachBytes := by
  intro m hm
  have := List.all_eq_true.1 h m (DataW.weights_mem_each ht hd m hm)
  simpa using this
end Go.Proofs.YtnicnfchkdmieaaGreatDoor
