/- digits, list, twoDigits: the walks. -/
import Derived.Test.YteifmjhkedhomaaDoorVc
import Derived.BigRegion
namespace Go.Proofs.YteifmjhkedhomaaDoor
open Go.RowKit
attribute [local go_sem] ByteArray.mk_append_mk bs_get bs_cut bs_end conv1 conv2

/-- The digits' characters. -/
def digTab : List UInt8 := [48, 49, 50, 51, 52, 53, 54, 55, 56, 57, 65, 66, 67, 68, 69, 70]
def digC (d : Nat) : List UInt8 := (digTab.drop d).take 1
theorem digC_len (d : Nat) (h : d < 16) : (digC d).length = 1 := by
  unfold digC digTab
  rw [List.length_take, List.length_drop]; simp; omega
/-- The digits of n in a base, at least m of them, ahead of acc. -/
def digGo (base : Nat) : Nat → Nat → Nat → List UInt8 → List UInt8
  | 0, _, _, acc => acc
  | f + 1, n, m, acc => if n = 0 ∧ m = 0 then acc else digGo base f (n / base) (m - 1) (digC (n % base) ++ acc)
def digL (n base least : Nat) : List UInt8 := digGo base 80 n least []
def strLenV : Value → Nat
  | .string b => b.size
  | _ => 0
theorem dig_stop (base f : Nat) (acc : List UInt8) : digGo base f 0 0 acc = acc := by
  cases f with
  | zero => rfl
  | succ f => rw [digGo, if_pos ⟨rfl, rfl⟩]
theorem dig_step (base f n m : Nat) (acc : List UInt8) (h : 0 < n ∨ 0 < m) : digGo base (f + 1) n m acc = digGo base f (n / base) (m - 1) (digC (n % base) ++ acc) := by
  rw [digGo, if_neg (by omega)]
theorem div_pow {n b j : Nat} (hb : 2 ≤ b) (h : n < 2 ^ (64 - j)) (hj : j < 64) : n / b < 2 ^ (64 - (j + 1)) := by
  have h2 : n / b ≤ n / 2 := Nat.div_le_div_left hb (by omega)
  have h3 : 2 ^ (64 - j) = 2 * 2 ^ (64 - (j + 1)) := by rw [← Nat.pow_succ']; congr 1; omega
  omega
set_option maxHeartbeats 1000000 in
theorem digits_any (n base least : Nat) (w : World) (HN : Hid (n < 2 ^ 64)) (hb : 2 ≤ base) (hb2 : base ≤ 16) (hl : least ≤ 16) :
    Calls Tryd.prog 59 #[.int .u64 n, .int .u64 base, .int .i64 least] w fun e w' => ∃ l : List UInt8, Hid (l = digL n base least) ∧ l.length ≤ 80 ∧ e = .returned (.string ⟨l.toArray⟩) ∧ w = w' := by
  go_enter Tryd.func59, Tryd.ntmps59
  go_wp2_with fail
  go_loop [0, 7] (fun x s => ∃ (m : Nat) (acc : List UInt8), x = .int .u64 m ∧ s = .string ⟨acc.toArray⟩ ∧ acc.length ≤ 64 ∧ Hid (m < 2 ^ (64 - acc.length)) ∧ Hid (digL n base least = digGo base (80 - acc.length) m (least - acc.length) acc)) (fun _ s => 80 - strLenV s)
  case atStart => exact ⟨n, [], rfl, rfl, by simp, HN, Lib.hid rfl⟩
  case round =>
    obtain ⟨m, acc, rfl, rfl, ha, HM, HG⟩ := hrel
    by_cases hgo : 0 < m ∨ acc.length < least
    · have ha64 : acc.length < 64 := by
        rcases Nat.lt_or_ge acc.length 64 with h | h
        · exact h
        · have h64 : acc.length = 64 := by omega
          have hm := HM.out
          rw [h64] at hm
          simp at hm
          omega
      have hd16 : m % base < 16 := by have := Nat.mod_lt m (show 0 < base by omega); omega
      have hdl := digC_len (m % base) hd16
      have HG2 : Hid (digL n base least = digGo base (80 - (digC (m % base) ++ acc).length) (m / base) (least - (digC (m % base) ++ acc).length) (digC (m % base) ++ acc)) := Lib.hid (by
        rw [HG.out, show 80 - acc.length = (80 - acc.length - 1) + 1 by omega, dig_step _ _ _ _ _ (by omega), List.length_append, hdl]
        congr 1 <;> omega)
      have HM2 : Hid (m / base < 2 ^ (64 - (digC (m % base) ++ acc).length)) := Lib.hid (by
        rw [List.length_append, hdl, Nat.add_comm]; exact div_pow hb HM.out ha64)
      have HDL := Lib.hid hdl
      clear hdl
      have HWD : Hid (IntKind.u64.wrap ((m : Int) / (base : Int)) = ((m / base : Nat) : Int)) := Lib.hid (by
        rw [← Int.natCast_ediv]
        have h1 : m / base ≤ m := Nat.div_le_self _ _
        have h2 : (2 : Nat) ^ (64 - acc.length) ≤ 2 ^ 64 := Nat.pow_le_pow_right (by omega) (by omega)
        have h3 := HM.out
        generalize m / base = q at *
        exact IntWalk.u64_in _ ⟨by omega, by omega⟩)
      by_cases hm : 0 < m
      · have hm' : (0 : Int) < m := by omega
        go_wp2_with fail
        go_round
        case rel => exact ⟨m / base, digC (m % base) ++ acc, by rw [HWD.out], rfl, by rw [List.length_append, HDL.out]; omega, HM2, HG2⟩
        case measure => show 80 - (digC (m % base) ++ acc).length < 80 - acc.length; have := HDL.out; rw [List.length_append]; omega
      · have hm' : ¬ (0 : Int) < m := by omega
        have hle : acc.length < least := by omega
        have hle' : (acc.length : Int) < least := by omega
        go_wp2_with fail
        go_round
        case rel => exact ⟨m / base, digC (m % base) ++ acc, by rw [HWD.out], rfl, by rw [List.length_append, HDL.out]; omega, HM2, HG2⟩
        case measure => show 80 - (digC (m % base) ++ acc).length < 80 - acc.length; have := HDL.out; rw [List.length_append]; omega
    · have hm' : ¬ (0 : Int) < m := by omega
      have hle' : ¬ (acc.length : Int) < least := by omega
      have HF : Hid (acc = digL n base least) := Lib.hid (by rw [HG.out, show m = 0 by omega, show least - acc.length = 0 by omega, dig_stop])
      clear hgo
      go_wp2_with fail
      go_ret
      exact ⟨acc, HF, by omega, rfl, rfl⟩
theorem u8_and15 (c : UInt8) : bits .and .u8 (c.toNat : Int) 15 = ((c.toNat % 16 : Nat) : Int) := by rw [byte_and15]; omega
theorem get_dig (d : Nat) (h : d < 16) : digC d = [digTab[d]'(by simpa [digTab] using h)] := by
  unfold digC
  rw [List.drop_eq_getElem_cons (by simpa [digTab] using h)]; rfl
theorem conv2d (w : World) (x y : Int) : Sem.run Tryd.prog (convert 58 9 (.slice (some ⟨w.heap.size, 0, none⟩) 2 2)) (w.alloc (.cells #[.int .u8 x, .int .u8 y] 5)).drew = .ok (.string ⟨[UInt8.ofNat x.toNat, UInt8.ofNat y.toNat].toArray⟩) (w.alloc (.cells #[.int .u8 x, .int .u8 y] 5)).drew := by
  rw [run_convert_bytes_string _ 58 9 5 _ _ _ Tryd.underlying58 Tryd.underlying5 Tryd.underlying9]
  rw [run_bytesToString _ _ 2 2 [x, y] (by simp [loadCells, go_sem])]
  rfl
attribute [local go_sem] conv2d
theorem twoDigits_any (c : UInt8) (w : World) : Calls Tryd.prog 27 #[.int .u8 c.toNat] w fun e w' => e = .returned (.string ⟨(digC (c.toNat / 16) ++ digC (c.toNat % 16)).toArray⟩) ∧ Below w.heap.size w w' := by
  have hc := c.toNat_lt
  obtain ⟨hi, hhi⟩ : ∃ hi, hi = c.toNat / 16 := ⟨_, rfl⟩
  obtain ⟨lo, hlo⟩ : ∃ lo, lo = c.toNat % 16 := ⟨_, rfl⟩
  have e1 : (c.toNat : Int) / 16 = (hi : Int) := by omega
  have e2 : (c.toNat : Int) % 16 = (lo : Int) := by omega
  have h16 : hi < 16 := by omega
  have l16 : lo < 16 := by omega
  have h16' : (hi : Int) < 16 := by omega
  have l16' : (lo : Int) < 16 := by omega
  rw [← hhi, ← hlo, get_dig hi h16, get_dig lo l16]
  clear hhi hlo
  go_enter Tryd.func27, Tryd.ntmps27
  go_wp2_with fail
  go_region
  clear e1 e2
  go_wp2_with fail
  go_ret
  exact ⟨rfl, ((Below.refl _ _).alloc (Nat.le_refl _) _).drew⟩
/-- The representations of the first k bytes, with a separator between them. -/
def joinK (g : UInt8 → List UInt8) (sep s : List UInt8) : Nat → List UInt8
  | 0 => []
  | k + 1 => joinK g sep s k ++ ((if 0 < k then sep else []) ++ (match s[k]? with
    | some c => g c
    | none => []))
def joinL (g : UInt8 → List UInt8) (sep s : List UInt8) : List UInt8 := joinK g sep s s.length
theorem joinK_succ (g : UInt8 → List UInt8) (sep s : List UInt8) (k : Nat) (h : k < s.length) : joinK g sep s (k + 1) = joinK g sep s k ++ ((if 0 < k then sep else []) ++ g s[k]) := by
  rw [joinK, List.getElem?_eq_getElem h]
theorem joinK_len (g : UInt8 → List UInt8) (sep s : List UInt8) (B : Nat) (hg : ∀ c, (g c).length ≤ B) (hs : sep.length ≤ 1) : ∀ k, (joinK g sep s k).length ≤ (B + 1) * k
  | 0 => by simp [joinK]
  | k + 1 => by
    have ih := joinK_len g sep s B hg hs k
    rw [joinK, List.length_append, List.length_append]
    have h1 : (if 0 < k then sep else []).length ≤ 1 := by
      split
      · exact hs
      · simp
    have h2 : (match s[k]? with | some c => g c | none => []).length ≤ B := by
      split
      · exact hg _
      · simp
    rw [Nat.mul_succ]; omega
set_option maxHeartbeats 1000000 in
theorem rlist_any (s front sep : List UInt8) (base least : Nat) (w : World) (hs : s.length ≤ 255) (hf : front.length ≤ 2) (hsep : sep.length ≤ 1) (hb : 2 ≤ base) (hb2 : base ≤ 16) (hl : least ≤ 16) :
    Calls Tryd.prog 60 #[.string ⟨s.toArray⟩, .string ⟨front.toArray⟩, .string ⟨sep.toArray⟩, .int .u64 base, .int .i64 least] w fun e w' => ∃ l : List UInt8, Hid (l = joinL (fun c => front ++ digL c.toNat base least) sep s) ∧ l.length ≤ 21165 ∧ e = .returned (.string ⟨l.toArray⟩) ∧ w = w' := by
  go_enter Tryd.func60, Tryd.ntmps60
  go_wp2_with fail
  go_loop [11, 12] (fun t i => ∃ (k : Nat) (x : List UInt8), i = .int .i64 k ∧ t = .string ⟨x.toArray⟩ ∧ k ≤ s.length ∧ x.length ≤ 83 * k ∧ Hid (x = joinK (fun c => front ++ digL c.toNat base least) sep s k)) (fun _ i => s.length - (intOf i).toNat)
  case atStart => exact ⟨0, [], rfl, rfl, Nat.zero_le _, by simp, Lib.hid rfl⟩
  case round =>
    obtain ⟨k, x, rfl, rfl, hk, hxl, HX⟩ := hrel
    by_cases hlt : k < s.length
    · have hlt' : (k : Int) < s.length := by omega
      have HJ := Lib.hid (joinK_succ (fun c => front ++ digL c.toNat base least) sep s k hlt)
      have hcl := s[k].toNat_lt
      have HC : Hid (s[k].toNat < 2 ^ 64) := Lib.hid (by omega)
      by_cases h0 : 0 < k
      · have h0' : (0 : Int) < k := by omega
        have HJ2 : Hid (joinK (fun c => front ++ digL c.toNat base least) sep s (k + 1) = x ++ (sep ++ (front ++ digL s[k].toNat base least))) := Lib.hid (by rw [HJ.out, if_pos h0, ← HX.out])
        clear HJ HX
        go_wp2_with fail
        ((with_reducible refine (digits_any s[k].toNat base least _ HC hb hb2 hl).mono ?_))
        rintro e w2 ⟨d, HD, hdl, rfl, rfl⟩
        go_wp2_with fail
        go_round
        case rel => exact ⟨k + 1, x ++ sep ++ (front ++ d), by go_num, by simp, by omega, by simp only [List.length_append]; omega, Lib.hid (by rw [HJ2.out, HD.out, List.append_assoc])⟩
        case measure => simp [intOf]; omega
      · have h0' : ¬ (0 : Int) < k := by omega
        have HJ2 : Hid (joinK (fun c => front ++ digL c.toNat base least) sep s (k + 1) = x ++ (front ++ digL s[k].toNat base least)) := Lib.hid (by rw [HJ.out, if_neg h0, ← HX.out, List.nil_append])
        clear HJ HX
        go_wp2_with fail
        ((with_reducible refine (digits_any s[k].toNat base least _ HC hb hb2 hl).mono ?_))
        rintro e w2 ⟨d, HD, hdl, rfl, rfl⟩
        go_wp2_with fail
        go_round
        case rel => exact ⟨k + 1, x ++ (front ++ d), by go_num, by simp, by omega, by simp only [List.length_append]; omega, Lib.hid (by rw [HJ2.out, HD.out])⟩
        case measure => simp [intOf]; omega
    · have hlt' : ¬ (k : Int) < s.length := by omega
      obtain rfl : k = s.length := by omega
      go_wp2_with fail
      go_ret
      exact ⟨x, HX, by omega, rfl, rfl⟩
end Go.Proofs.YteifmjhkedhomaaDoor
