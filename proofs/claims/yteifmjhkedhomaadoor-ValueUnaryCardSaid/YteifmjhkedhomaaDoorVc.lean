/- Integer, of the layer and of its reference: the walks. -/
import Derived.Test.YteifmjhkedhomaaDoorVb
namespace Go.Proofs.YteifmjhkedhomaaDoor
open Go.RowKit
attribute [local go_sem] ByteArray.mk_append_mk bs_get bs_cut bs_end

/-- The number that hexadecimal digits denote, as far as they go; m: how many may be read. -/
def hexGo (s : List UInt8) : Nat → Nat → Nat → Nat
  | 0, _, acc => acc
  | f + 1, i, acc => match s[i]? with
    | none => acc
    | some c => match hexV c.toNat with
      | none => acc
      | some d => hexGo s f (i + 1) (acc * 16 + d)
def hexN (s : List UInt8) : Nat := hexGo s 16 0 0
/-- What Integer returns: the number, the error. -/
def intV (k n : Int) (s : List UInt8) : Int × Int := if validV k s = false then (0, 1) else if k = 1 then (n, 0) else if k = 2 then ((hexN s : Nat), 0) else if k = 3 then ((num (s.take 8) : Nat), 0) else (0, 10)
theorem hexGo_lt (s : List UInt8) : ∀ f i acc, hexGo s f i acc < (acc + 1) * 16 ^ f
  | 0, i, acc => by simp [hexGo]
  | f + 1, i, acc => by
    have hp : 1 ≤ 16 ^ (f + 1) := Nat.one_le_pow _ _ (by omega)
    have base : acc < (acc + 1) * 16 ^ (f + 1) := by
      have := Nat.mul_le_mul_left (acc + 1) hp
      omega
    rw [hexGo]
    split
    · exact base
    · rename_i c _
      cases hh : hexV c.toNat with
      | none => exact base
      | some d =>
        have hd := hexV_lt hh
        have h := hexGo_lt s f (i + 1) (acc * 16 + d)
        have h2 : (acc * 16 + d + 1) * 16 ^ f ≤ ((acc + 1) * 16) * 16 ^ f := Nat.mul_le_mul_right _ (by omega)
        rw [Nat.pow_succ, Nat.mul_comm (16 ^ f) 16, ← Nat.mul_assoc]
        show hexGo s f (i + 1) (acc * 16 + d) < _
        omega
/-- One step of 'n = n<<4 | d'. -/
theorem hex_step (a d : Nat) (k : Nat) (hk : k < 16) (ha : a < 16 ^ k) (hd : d < 16) : bits .or .u64 (IntKind.u64.wrap ((a : Int) * 16)) (d : Int) = ((a * 16 + d : Nat) : Int) := by
  have hp : (16 : Nat) ^ k ≤ 16 ^ 15 := Nat.pow_le_pow_right (by omega) (by omega)
  have hc : ((a : Int) * 16) = ((a * 16 : Nat) : Int) := by rw [Int.natCast_mul]; rfl
  have h1 : IntKind.u64.wrap ((a * 16 : Nat) : Int) = ((a * 16 : Nat) : Int) := IntWalk.u64_in _ ⟨by omega, by omega⟩
  rw [hc, h1, u64_or_nat _ _ (by omega) (by omega), nat_join 4 _ _ (by omega) hd]
theorem acc_lt {a d k : Nat} (ha : a < 16 ^ k) (hd : d < 16) : a * 16 + d < 16 ^ (k + 1) := by rw [Nat.pow_succ]; omega
theorem hexGo_stop (s : List UInt8) (f i acc : Nat) (h : s.length ≤ i) : hexGo s f i acc = acc := by
  cases f with
  | zero => rfl
  | succ f => rw [hexGo, List.getElem?_eq_none h]
theorem hexGo_none (s : List UInt8) (f i acc : Nat) (h : i < s.length) (hn : hexV s[i].toNat = none) : hexGo s f i acc = acc := by
  cases f with
  | zero => rfl
  | succ f => rw [hexGo, List.getElem?_eq_getElem h]; simp only [hn]
theorem hexGo_some (s : List UInt8) (f i acc d : Nat) (h : i < s.length) (hn : hexV s[i].toNat = some d) : hexGo s (f + 1) i acc = hexGo s f (i + 1) (acc * 16 + d) := by
  rw [hexGo, List.getElem?_eq_getElem h]; simp only [hn]
theorem intV_bad {k n : Int} {s : List UInt8} (h : validV k s = false) : intV k n s = (0, 1) := by unfold intV; rw [if_pos h]
theorem intV_int {n : Int} {s : List UInt8} : intV 1 n s = (n, 0) := by unfold intV; rw [if_neg (by simp [validV]), if_pos rfl]
theorem intV_str {n : Int} {s : List UInt8} (h : s.length ≤ 255) : intV 2 n s = (((hexN s : Nat) : Int), 0) := by unfold intV; rw [if_neg (by simp [validV, h]), if_neg (by decide), if_pos rfl]
theorem intV_buf {n : Int} {s : List UInt8} (h : s.length ≤ 255) : intV 3 n s = (((num (s.take 8) : Nat) : Int), 0) := by unfold intV; rw [if_neg (by simp [validV, h]), if_neg (by decide), if_neg (by decide), if_pos rfl]
theorem intV_type {k n : Int} {s : List UInt8} (h : validV k s = true) (h1 : k ≠ 1) (h2 : k ≠ 2) (h3 : k ≠ 3) : intV k n s = (0, 10) := by unfold intV; rw [if_neg (by rw [h]; decide), if_neg h1, if_neg h2, if_neg h3]
theorem valid_is (k n o : Int) (s : List UInt8) (b : Bool) (H : Hid (validV k s = b)) (w : World) (hs : s.length ≤ 9223372036854775000) : Calls Tryd.prog 17 #[valV k n s o] w fun e w' => e = .returned (.bool b) ∧ Below w.heap.size w w' := by
  rw [← H.out]; exact valid_any k n o s w hs
theorem rvalid_is (k n o : Int) (s : List UInt8) (b : Bool) (H : Hid (validV k s = b)) (w : World) (hs : s.length ≤ 9223372036854775000) : Calls Tryd.prog 31 #[valV k n s o] w fun e w' => e = .returned (.bool b) ∧ Below w.heap.size w w' := by
  rw [← H.out]; exact rvalid_any k n o s w hs
def IntPost (w : World) (r : Int × Int) (e : Ending) (w' : World) : Prop := e = .returned (.tuple #[.int .u64 r.1, .int .i64 r.2]) ∧ Below w.heap.size w w'
/-- The boxed parameter. -/
def VBox (w wr : World) (k n : Int) (s : List UInt8) (o : Int) : Prop := wr.heap[w.heap.size]? = some (.cells #[.int .i64 k, .int .u64 n, .string ⟨s.toArray⟩, .int .i64 o] 24 (0, 0)) ∧ Below w.heap.size w wr
theorem VBox.start (w : World) (k n : Int) (s : List UInt8) (o : Int) : VBox w (w.alloc (.cells #[.int .i64 k, .int .u64 n, .string ⟨s.toArray⟩, .int .i64 o] 24)) k n s o := ⟨heap_alloc_new w _, (Below.refl _ _).alloc (Nat.le_refl _) _⟩
theorem VBox.below {w wr w2 : World} {k n : Int} {s : List UInt8} {o : Int} (h : VBox w wr k n s o) (hb : Below wr.heap.size wr w2) : VBox w w2 k n s o := ⟨blk_below h.1 hb, bel_then h.2 (Nat.le_refl _) hb⟩
theorem VBox.cells {w wr : World} {k n : Int} {s : List UInt8} {o : Int} (h : VBox w wr k n s o) : wr.cell? ⟨w.heap.size, 0, none⟩ = some (.int .i64 k) ∧ wr.cell? ⟨w.heap.size, 1, none⟩ = some (.int .u64 n) ∧ wr.cell? ⟨w.heap.size, 2, none⟩ = some (.string ⟨s.toArray⟩) ∧ wr.cell? ⟨w.heap.size, 3, none⟩ = some (.int .i64 o) := cells4 h.1
set_option maxRecDepth 100000 in
set_option maxHeartbeats 2000000 in
theorem integer_any (k n o : Int) (s : List UInt8) (w : World) (hs : s.length ≤ 9223372036854775000) : Calls Tryd.prog 14 #[valV k n s o] w (IntPost w (intV k n s)) := by
  have HB0 := Lib.hid (VBox.start w k n s o)
  obtain ⟨c0, c1, c2, c3⟩ := HB0.out.cells
  cases hv : validV k s
  · have HV := Lib.hid hv
    have HR := Lib.hid (intV_bad (n := n) hv)
    clear hv
    go_enter Tryd.func14, Tryd.ntmps14
    go_wp2_with fail
    ((with_reducible refine (valid_is k n o s false HV _ hs).mono ?_))
    rintro e w1 ⟨rfl, hb1⟩
    have HB1 := Lib.hid (HB0.out.below hb1)
    clear hb1
    go_wp2_with fail
    go_ret2
    exact ⟨by rw [HR.out]; rfl, HB1.out.2⟩
  · have HV := Lib.hid hv
    have hk06 : 0 ≤ k ∧ k ≤ 6 ∧ ((k ≠ 2 ∧ k ≠ 3) ∨ s.length ≤ 255) := by unfold validV at hv; exact of_decide_eq_true hv
    go_enter Tryd.func14, Tryd.ntmps14
    go_wp2_with fail
    ((with_reducible refine (valid_is k n o s true HV _ hs).mono ?_))
    rintro e w1 ⟨rfl, hb1⟩
    have HB1 := Lib.hid (HB0.out.below hb1)
    clear hb1 c0 c1 c2 c3 HB0
    obtain ⟨c0, c1, c2, c3⟩ := HB1.out.cells
    by_cases h1 : k = 1
    · subst h1
      clear hv hk06
      go_wp2_with fail
      go_ret2
      exact ⟨by rw [intV_int]; rfl, HB1.out.2⟩
    · by_cases h2 : k = 2
      · subst h2
        have hl : s.length ≤ 255 := by omega
        have HR := Lib.hid (intV_str (n := n) hl)
        clear hv hk06 h1
        obtain ⟨q, hq⟩ : ∃ q : Nat, q = min s.length 16 := ⟨_, rfl⟩
        have hq1 : q ≤ s.length := by omega
        have hq2 : q ≤ 16 := by omega
        have HQ := Lib.hid hq
        clear hq
        go_upto_region 8 with fail
        go_cut [23, 24] (fun m i wx => m = .int .i64 q ∧ i = .int .i64 0 ∧ w1 = wx)
        case first =>
          by_cases h16 : s.length < 16
          · have h16' : (s.length : Int) < 16 := by omega
            have HQ2 : Hid (q = s.length) := Lib.hid (by have := HQ.out; omega)
            go_wp2_with fail
            go_meet
            exact ⟨by rw [HQ2.out], rfl, rfl⟩
          · have h16' : ¬ (s.length : Int) < 16 := by omega
            have HQ2 : Hid (q = 16) := Lib.hid (by have := HQ.out; omega)
            by_cases h16e : s.length = 16
            · have h16f : ¬ (16 : Int) < s.length := by omega
              go_wp2_with fail
              go_meet
              exact ⟨by rw [HQ2.out]; first | rfl | (rw [h16e]; rfl), rfl, rfl⟩
            · have h16f : (16 : Int) < s.length := by omega
              go_wp2_with fail
              go_meet
              exact ⟨by rw [HQ2.out]; rfl, rfl, rfl⟩
        case rest =>
          obtain ⟨rfl, rfl, rfl⟩ := hcut
          go_wp2_with fail
          go_loop [4, 24] (fun m i => ∃ j acc : Nat, i = .int .i64 j ∧ m = .int .u64 acc ∧ j ≤ q ∧ Hid (acc < 16 ^ j) ∧ Hid (hexN s = hexGo s (16 - j) j acc)) (fun _ i => 16 - (intOf i).toNat)
          case atStart => exact ⟨0, 0, rfl, rfl, by omega, Lib.hid (by decide), Lib.hid rfl⟩
          case round =>
            obtain ⟨j, acc, rfl, rfl, hj, HA, HG⟩ := hrel
            by_cases hlt : j < q
            · have hlt' : (j : Int) < q := by omega
              have hjs : j < s.length := by omega
              have hjs' : (j : Int) < s.length := by omega
              cases hd : hexV s[j].toNat with
              | none =>
                have HD := Lib.hid hd
                have HR2 : Hid (intV 2 n s = ((acc : Int), 0)) := Lib.hid (by rw [HR.out, HG.out, hexGo_none s _ _ _ hjs hd])
                clear hd
                go_wp2_with fail
                ((with_reducible refine (hexDigit_none s[j] HD.out _).mono ?_))
                rintro e w2 ⟨rfl, rfl⟩
                go_wp2_with fail
                go_ret2
                exact ⟨by rw [HR2.out]; rfl, HB1.out.2⟩
              | some d =>
                have HD := Lib.hid hd
                have hd16 := hexV_lt hd
                have HG2 : Hid (hexN s = hexGo s (16 - (j + 1)) (j + 1) (acc * 16 + d)) := Lib.hid (by rw [HG.out, show 16 - j = (16 - (j + 1)) + 1 by omega, hexGo_some s _ _ _ d hjs hd])
                have HS := Lib.hid (hex_step acc d j (by omega) HA.out hd16)
                have HA2 := Lib.hid (acc_lt HA.out hd16)
                clear hd HG
                go_wp2_with fail
                ((with_reducible refine (hexDigit_some s[j] d HD.out _).mono ?_))
                rintro e w2 ⟨rfl, rfl⟩
                go_wp2_with fail
                go_round
                case rel => exact ⟨j + 1, acc * 16 + d, by go_num, by exact congrArg (Value.int .u64) HS.out, by omega, HA2, HG2⟩
                case measure => simp [intOf]; omega
            · have hlt' : ¬ (j : Int) < q := by omega
              have HR2 : Hid (intV 2 n s = ((acc : Int), 0)) := Lib.hid (by
                rw [HR.out, HG.out]
                have hq := HQ.out
                by_cases h16 : s.length ≤ j
                · rw [hexGo_stop s _ _ _ h16]
                · rw [show 16 - j = 0 by omega]; rfl)
              go_wp2_with fail
              go_ret2
              exact ⟨by rw [HR2.out]; rfl, HB1.out.2⟩
      · by_cases h3 : k = 3
        · subst h3
          have hl : s.length ≤ 255 := by omega
          have HR := Lib.hid (intV_buf (n := n) hl)
          clear hv hk06 h1 h2
          obtain ⟨q, hq⟩ : ∃ q : Nat, q = min s.length 8 := ⟨_, rfl⟩
          have hq1 : q ≤ s.length := by omega
          have hq2 : q ≤ 8 := by omega
          have HQ := Lib.hid hq
          clear hq
          go_upto_region 17 with fail
          go_cut [48, 49] (fun m i wx => m = .int .i64 q ∧ i = .int .i64 0 ∧ w1 = wx)
          case first =>
            by_cases h16 : s.length < 8
            · have h16' : (s.length : Int) < 8 := by omega
              have HQ2 : Hid (q = s.length) := Lib.hid (by have := HQ.out; omega)
              go_wp2_with fail
              go_meet
              exact ⟨by rw [HQ2.out], rfl, rfl⟩
            · have h16' : ¬ (s.length : Int) < 8 := by omega
              have HQ2 : Hid (q = 8) := Lib.hid (by have := HQ.out; omega)
              by_cases h16e : s.length = 8
              · have h16f : ¬ (8 : Int) < s.length := by omega
                go_wp2_with fail
                go_meet
                exact ⟨by rw [HQ2.out]; first | rfl | (rw [h16e]; rfl), rfl, rfl⟩
              · have h16f : (8 : Int) < s.length := by omega
                go_wp2_with fail
                go_meet
                exact ⟨by rw [HQ2.out]; rfl, rfl, rfl⟩
          case rest =>
            obtain ⟨rfl, rfl, rfl⟩ := hcut
            go_wp2_with fail
            go_loop [4, 49] (fun m i => ∃ j acc : Nat, i = .int .i64 j ∧ m = .int .u64 acc ∧ j ≤ q ∧ Hid (acc = num (s.take j))) (fun _ i => 8 - (intOf i).toNat)
            case atStart => exact ⟨0, 0, rfl, rfl, by omega, Lib.hid rfl⟩
            case round =>
              obtain ⟨j, acc, rfl, rfl, hj, HA⟩ := hrel
              by_cases hlt : j < q
              · have hlt' : (j : Int) < q := by omega
                have hjs : j < s.length := by omega
                have hjs' : (j : Int) < s.length := by omega
                have HS : Hid (bits .or .u64 (acc : Int) (IntKind.u64.wrap (IntKind.u64.wrap (s[j].toNat : Int) * 2 ^ (8 * j))) = (num (s.take (j + 1)) : Nat)) := Lib.hid (by
                  rw [HA.out]
                  have h := or_step (s.take j) s[j] (by rw [List.length_take]; omega)
                  rw [List.length_take, Nat.min_eq_left (by omega)] at h
                  rw [List.take_succ_eq_append_getElem hjs]; exact h)
                go_wp2_with fail
                go_round
                case rel => exact ⟨j + 1, num (s.take (j + 1)), by go_num, by exact congrArg (Value.int .u64) HS.out, by omega, Lib.hid rfl⟩
                case measure => simp [intOf]; omega
              · have hlt' : ¬ (j : Int) < q := by omega
                have HR2 : Hid (intV 3 n s = ((acc : Int), 0)) := Lib.hid (by
                  rw [HR.out, HA.out]
                  have hq := HQ.out
                  by_cases h16 : s.length ≤ j
                  · rw [List.take_of_length_le h16, List.take_of_length_le (by omega)]
                  · rw [show j = 8 by omega])
                go_wp2_with fail
                go_ret2
                exact ⟨by rw [HR2.out]; rfl, HB1.out.2⟩
        · have HR := Lib.hid (intV_type (n := n) hv h1 h2 h3)
          have e1 : (k == 1) = false := by rw [beq_eq_false_iff_ne]; exact h1
          have e2 : (k == 2) = false := by rw [beq_eq_false_iff_ne]; exact h2
          have e3 : (k == 3) = false := by rw [beq_eq_false_iff_ne]; exact h3
          clear hv hk06 h1 h2 h3
          go_wp2_with fail
          go_ret2
          exact ⟨by rw [HR.out]; rfl, HB1.out.2⟩
set_option maxRecDepth 100000 in
set_option maxHeartbeats 2000000 in
theorem rinteger_any (k n o : Int) (s : List UInt8) (w : World) (hs : s.length ≤ 9223372036854775000) : Calls Tryd.prog 32 #[valV k n s o] w (IntPost w (intV k n s)) := by
  have HB0 := Lib.hid (VBox.start w k n s o)
  obtain ⟨c0, c1, c2, c3⟩ := HB0.out.cells
  cases hv : validV k s
  · have HV := Lib.hid hv
    have HR := Lib.hid (intV_bad (n := n) hv)
    clear hv
    go_enter Tryd.func32, Tryd.ntmps32
    go_wp2_with fail
    ((with_reducible refine (rvalid_is k n o s false HV _ hs).mono ?_))
    rintro e w1 ⟨rfl, hb1⟩
    have HB1 := Lib.hid (HB0.out.below hb1)
    clear hb1
    go_wp2_with fail
    go_ret2
    exact ⟨by rw [HR.out]; rfl, HB1.out.2⟩
  · have HV := Lib.hid hv
    have hk06 : 0 ≤ k ∧ k ≤ 6 ∧ ((k ≠ 2 ∧ k ≠ 3) ∨ s.length ≤ 255) := by unfold validV at hv; exact of_decide_eq_true hv
    go_enter Tryd.func32, Tryd.ntmps32
    go_wp2_with fail
    ((with_reducible refine (rvalid_is k n o s true HV _ hs).mono ?_))
    rintro e w1 ⟨rfl, hb1⟩
    have HB1 := Lib.hid (HB0.out.below hb1)
    clear hb1 c0 c1 c2 c3 HB0
    obtain ⟨c0, c1, c2, c3⟩ := HB1.out.cells
    by_cases h1 : k = 1
    · subst h1
      clear hv hk06
      go_wp2_with fail
      go_ret2
      exact ⟨by rw [intV_int]; rfl, HB1.out.2⟩
    · by_cases h2 : k = 2
      · subst h2
        have hl : s.length ≤ 255 := by omega
        have HR := Lib.hid (intV_str (n := n) hl)
        clear hv hk06 h1
        go_wp2_with fail
        go_loop [4, 5] (fun m i => ∃ j acc : Nat, i = .int .i64 j ∧ m = .int .u64 acc ∧ j ≤ s.length ∧ j ≤ 16 ∧ Hid (acc < 16 ^ j) ∧ Hid (hexN s = hexGo s (16 - j) j acc)) (fun _ i => 16 - (intOf i).toNat)
        case atStart => exact ⟨0, 0, rfl, rfl, by omega, by omega, Lib.hid (by decide), Lib.hid rfl⟩
        case round =>
          obtain ⟨j, acc, rfl, rfl, hj, hj16, HA, HG⟩ := hrel
          by_cases hjs : j < s.length
          · have hjs' : (j : Int) < s.length := by omega
            by_cases hj6 : j < 16
            · have hj6' : (j : Int) < 16 := by omega
              cases hd : hexV s[j].toNat with
              | none =>
                have HD := Lib.hid hd
                have HR2 : Hid (intV 2 n s = ((acc : Int), 0)) := Lib.hid (by rw [HR.out, HG.out, hexGo_none s _ _ _ hjs hd])
                clear hd
                go_wp2_with fail
                ((with_reducible refine (rhex_none s[j] HD.out _).mono ?_))
                rintro e w2 ⟨rfl, rfl⟩
                go_wp2_with fail
                go_ret2
                exact ⟨by rw [HR2.out]; rfl, HB1.out.2⟩
              | some d =>
                have HD := Lib.hid hd
                have hd16 := hexV_lt hd
                have HG2 : Hid (hexN s = hexGo s (16 - (j + 1)) (j + 1) (acc * 16 + d)) := Lib.hid (by rw [HG.out, show 16 - j = (16 - (j + 1)) + 1 by omega, hexGo_some s _ _ _ d hjs hd])
                have HS := Lib.hid (hex_step acc d j (by omega) HA.out hd16)
                have HA2 := Lib.hid (acc_lt HA.out hd16)
                clear hd HG
                go_wp2_with fail
                ((with_reducible refine (rhex_some s[j] d HD.out _).mono ?_))
                rintro e w2 ⟨rfl, rfl⟩
                go_wp2_with fail
                ((with_reducible refine (rhex_some s[j] d HD.out _).mono ?_))
                rintro e w2 ⟨rfl, rfl⟩
                go_wp2_with fail
                go_round
                case rel => exact ⟨j + 1, acc * 16 + d, by go_num, by exact congrArg (Value.int .u64) HS.out, by omega, by omega, HA2, HG2⟩
                case measure => simp [intOf]; omega
            · have hj6' : ¬ (j : Int) < 16 := by omega
              have HR2 : Hid (intV 2 n s = ((acc : Int), 0)) := Lib.hid (by rw [HR.out, HG.out, show 16 - j = 0 by omega]; rfl)
              go_wp2_with fail
              go_ret2
              exact ⟨by rw [HR2.out]; rfl, HB1.out.2⟩
          · have hjs' : ¬ (j : Int) < s.length := by omega
            have HR2 : Hid (intV 2 n s = ((acc : Int), 0)) := Lib.hid (by rw [HR.out, HG.out, hexGo_stop s _ _ _ (by omega)])
            go_wp2_with fail
            go_ret2
            exact ⟨by rw [HR2.out]; rfl, HB1.out.2⟩
      · by_cases h3 : k = 3
        · subst h3
          have hl : s.length ≤ 255 := by omega
          have HR := Lib.hid (intV_buf (n := n) hl)
          clear hv hk06 h1 h2
          go_wp2_with fail
          go_loop [4, 6] (fun m i => ∃ j acc : Nat, i = .int .i64 j ∧ m = .int .u64 acc ∧ j ≤ s.length ∧ j ≤ 8 ∧ Hid (acc = num (s.take j))) (fun _ i => 8 - (intOf i).toNat)
          case atStart => exact ⟨0, 0, rfl, rfl, by omega, by omega, Lib.hid rfl⟩
          case round =>
            obtain ⟨j, acc, rfl, rfl, hj, hj8, HA⟩ := hrel
            by_cases hlt : j < s.length ∧ j < 8
            · obtain ⟨hjs, hj7⟩ := hlt
              have hjs' : (j : Int) < s.length := by omega
              have hj7' : (j : Int) < 8 := by omega
              have HS : Hid (bits .or .u64 (acc : Int) (IntKind.u64.wrap (IntKind.u64.wrap (s[j].toNat : Int) * 2 ^ (8 * j))) = (num (s.take (j + 1)) : Nat)) := Lib.hid (by
                rw [HA.out]
                have h := or_step (s.take j) s[j] (by rw [List.length_take]; omega)
                rw [List.length_take, Nat.min_eq_left (by omega)] at h
                rw [List.take_succ_eq_append_getElem hjs]; exact h)
              go_wp2_with fail
              go_round
              case rel => exact ⟨j + 1, num (s.take (j + 1)), by go_num, by exact congrArg (Value.int .u64) HS.out, by omega, by omega, Lib.hid rfl⟩
              case measure => simp [intOf]; omega
            · have HR2 : Hid (intV 3 n s = ((acc : Int), 0)) := Lib.hid (by
                rw [HR.out, HA.out]
                by_cases h16 : s.length ≤ j
                · rw [List.take_of_length_le h16, List.take_of_length_le (by omega)]
                · rw [show j = 8 by omega])
              by_cases hjs : j < s.length
              · have hjs' : (j : Int) < s.length := by omega
                have hj7' : ¬ (j : Int) < 8 := by omega
                clear hlt
                go_wp2_with fail
                go_ret2
                exact ⟨by rw [HR2.out]; rfl, HB1.out.2⟩
              · have hjs' : ¬ (j : Int) < s.length := by omega
                clear hlt
                go_wp2_with fail
                go_ret2
                exact ⟨by rw [HR2.out]; rfl, HB1.out.2⟩
        · have HR := Lib.hid (intV_type (n := n) hv h1 h2 h3)
          have e1 : (k == 1) = false := by rw [beq_eq_false_iff_ne]; exact h1
          have e2 : (k == 2) = false := by rw [beq_eq_false_iff_ne]; exact h2
          have e3 : (k == 3) = false := by rw [beq_eq_false_iff_ne]; exact h3
          clear hv hk06 h1 h2 h3
          go_wp2_with fail
          go_ret2
          exact ⟨by rw [HR.out]; rfl, HB1.out.2⟩
end Go.Proofs.YteifmjhkedhomaaDoor
