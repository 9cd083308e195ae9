/- Digits, numbers read: plain lists. -/
import Derived.Test.YteifmjhkedhomaaDoorVd
import Derived.Test.YteifmjhkedhomaaDoorTla
import Derived.Lib.ItoaNum
namespace Go.Proofs.YteifmjhkedhomaaDoor
open Go.RowKit
set_option linter.unusedVariables false

theorem digC_hex (d : Nat) (h : d < 16) : digC d = [hexC d] := by
  have : ∀ d : Fin 16, digC d.val = [hexC d.val] := by decide +kernel
  exact this ⟨d, h⟩
theorem digC_dec (d : Nat) (h : d < 10) : digC d = [UInt8.ofNat (48 + d)] := by
  have : ∀ d : Fin 10, digC d.val = [UInt8.ofNat (48 + d.val)] := by decide +kernel
  exact this ⟨d, h⟩
theorem digGo_hex : ∀ (f n : Nat) (acc : List UInt8), n < 2 ^ f → digGo 16 f n 0 acc = hexP n ++ acc
  | 0, n, acc, h => by
    have : n = 0 := by simp at h; omega
    subst this; rw [hexP_zero]; rfl
  | f + 1, n, acc, h => by
    by_cases h0 : n = 0
    · subst h0; rw [dig_stop, hexP_zero]; rfl
    · rw [dig_step _ _ _ _ _ (by omega), digGo_hex f (n / 16) _ (by rw [Nat.pow_succ] at h; omega), digC_hex _ (Nat.mod_lt _ (by decide)), hexP_pos h0, List.append_assoc]
theorem digL_hexU (n : Nat) (h : n < 2 ^ 64) : digL n 16 1 = hexU n := by
  have e : (2 : Nat) ^ 79 = 2 ^ 64 * 32768 := by decide
  unfold digL
  rw [dig_step 16 79 n 1 [] (by omega), digGo_hex 79 (n / 16) _ (by omega), digC_hex _ (Nat.mod_lt _ (by decide)), List.append_nil]
  rfl
theorem decDigits_small {n : Nat} (h : n < 10) : Lib.decDigits n = [UInt8.ofNat (48 + n)] := by rw [Lib.decDigits, dif_pos h]
theorem decDigits_big {n : Nat} (h : ¬ n < 10) : Lib.decDigits n = Lib.decDigits (n / 10) ++ [UInt8.ofNat (48 + n % 10)] := by rw [Lib.decDigits, dif_neg h]
theorem digGo_dec : ∀ (f n : Nat) (acc : List UInt8), n < 2 ^ f → n ≠ 0 → digGo 10 f n 0 acc = Lib.decDigits n ++ acc
  | 0, n, acc, h, h0 => by simp at h; omega
  | f + 1, n, acc, h, h0 => by
    rw [dig_step _ _ _ _ _ (by omega)]
    by_cases h1 : n < 10
    · rw [show n / 10 = 0 by omega, dig_stop, digC_dec _ (by omega), decDigits_small h1, show n % 10 = n by omega]
    · rw [digGo_dec f (n / 10) _ (by rw [Nat.pow_succ] at h; omega) (by omega), digC_dec _ (by omega), decDigits_big h1, List.append_assoc]
theorem digL_dec (n : Nat) (h : n < 2 ^ 64) : digL n 10 1 = Lib.decDigits n := by
  have e : (2 : Nat) ^ 79 = 2 ^ 64 * 32768 := by decide
  unfold digL
  rw [dig_step 10 79 n 1 [] (by omega)]
  by_cases h1 : n < 10
  · rw [show n / 10 = 0 by omega, dig_stop, digC_dec _ (by omega), decDigits_small h1, show n % 10 = n by omega]; rfl
  · rw [digGo_dec 79 (n / 10) _ (by omega) (by omega), digC_dec _ (by omega), decDigits_big h1, List.append_nil]
theorem digL_two (c : UInt8) : digL c.toNat 16 2 = digC (c.toNat / 16) ++ digC (c.toNat % 16) := by
  have hc := c.toNat_lt
  unfold digL
  rw [dig_step 16 79 _ 2 [] (by omega), dig_step 16 78 _ (2 - 1) _ (by omega), show c.toNat / 16 / 16 = 0 by omega, show (2 - 1 - 1 : Nat) = 0 from rfl, dig_stop, show c.toNat / 16 % 16 = c.toNat / 16 by omega, List.append_nil]
/-- The number that starts a text, from n on; none: too great. -/
def parGo (base : Nat) : List UInt8 → Nat → Option Nat
  | [], n => some n
  | c :: r, n => match hexV c.toNat with
    | none => some n
    | some d => if base ≤ d then some n else if (18446744073709551615 - d) / base < n then none else parGo base r (n * base + d)
theorem parGo_none {base n : Nat} {c : UInt8} {r : List UInt8} (h : hexV c.toNat = none) : parGo base (c :: r) n = some n := by rw [parGo, h]
theorem parGo_stop {base n d : Nat} {c : UInt8} {r : List UInt8} (h : hexV c.toNat = some d) (hd : base ≤ d) : parGo base (c :: r) n = some n := by rw [parGo, h]; simp only [if_pos hd]
theorem parGo_over {base n d : Nat} {c : UInt8} {r : List UInt8} (h : hexV c.toNat = some d) (hd : ¬ base ≤ d) (ho : (18446744073709551615 - d) / base < n) : parGo base (c :: r) n = none := by rw [parGo, h]; simp only [if_neg hd, if_pos ho]
theorem parGo_step {base n d : Nat} {c : UInt8} {r : List UInt8} (h : hexV c.toNat = some d) (hd : ¬ base ≤ d) (ho : ¬ (18446744073709551615 - d) / base < n) : parGo base (c :: r) n = parGo base r (n * base + d) := by rw [parGo, h]; simp only [if_neg hd, if_neg ho]
/-- Whether a text starts with 0x or 0X. -/
def pre0x (s : List UInt8) : Bool := decide (s.take 2 = [48, 120] ∨ s.take 2 = [48, 88])
def parV (s : List UInt8) : Option Nat := if pre0x s = true then parGo 16 (s.drop 2) 0 else parGo 10 s 0
/-- As a pair of number and error. -/
def parE (o : Option Nat) : Int × Int := match o with
  | some n => ((n : Nat), 0)
  | none => (0, 11)
theorem no_over {base n d : Nat} (hb : 0 < base) (hd : d ≤ 18446744073709551615) (h : ¬ (18446744073709551615 - d) / base < n) : n * base + d ≤ 18446744073709551615 := by
  have h1 : n ≤ (18446744073709551615 - d) / base := by omega
  have h2 := Nat.mul_le_of_le_div base n _ h1
  omega
/-- All of a text are digits below the base. -/
def AllD (base : Nat) (s : List UInt8) : Prop := ∀ c ∈ s, ∃ d, hexV c.toNat = some d ∧ d < base
theorem parGo_app {base : Nat} : ∀ (a b : List UInt8) (n : Nat), AllD base a → parGo base (a ++ b) n = (parGo base a n).bind fun m => parGo base b m
  | [], b, n, _ => rfl
  | c :: r, b, n, h => by
    obtain ⟨d, hd, hlt⟩ := h c (by simp)
    by_cases ho : (18446744073709551615 - d) / base < n
    · rw [List.cons_append, parGo_over hd (by omega) ho, parGo_over hd (by omega) ho]; rfl
    · rw [List.cons_append, parGo_step hd (by omega) ho, parGo_step hd (by omega) ho, parGo_app r b _ (fun x hx => h x (by simp [hx]))]
theorem parGo_one {base n d : Nat} {c : UInt8} (hb : 0 < base) (h : hexV c.toNat = some d) (hd : d < base) (hn : n * base + d ≤ 18446744073709551615) : parGo base [c] n = some (n * base + d) := by
  have ho : ¬ (18446744073709551615 - d) / base < n := by
    have : n ≤ (18446744073709551615 - d) / base := (Nat.le_div_iff_mul_le hb).2 (by omega)
    omega
  rw [parGo_step h (by omega) ho]; rfl
theorem hexC_v (d : Nat) (h : d < 16) : hexV (hexC d).toNat = some d := by
  have : ∀ d : Fin 16, hexV (hexC d.val).toNat = some d.val := by decide +kernel
  exact this ⟨d, h⟩
theorem dec_v (d : Nat) (h : d < 10) : hexV (UInt8.ofNat (48 + d)).toNat = some d := by
  have : ∀ d : Fin 10, hexV (UInt8.ofNat (48 + d.val)).toNat = some d.val := by decide +kernel
  exact this ⟨d, h⟩
theorem hexP_back : ∀ (f n : Nat), n ≤ f → n ≤ 18446744073709551615 → AllD 16 (hexP n) ∧ parGo 16 (hexP n) 0 = some n
  | f, n, hf, hn => by
    by_cases h0 : n = 0
    · subst h0; rw [hexP_zero]; exact ⟨fun c h => (by cases h), rfl⟩
    · cases f with
      | zero => omega
      | succ f =>
        obtain ⟨h1, h2⟩ := hexP_back f (n / 16) (by omega) (by omega)
        rw [hexP_pos h0]
        refine ⟨?_, ?_⟩
        · intro c hc
          rcases List.mem_append.1 hc with hc | hc
          · exact h1 c hc
          · simp only [List.mem_cons, List.not_mem_nil, or_false] at hc
            subst hc
            exact ⟨_, hexC_v _ (Nat.mod_lt _ (by decide)), Nat.mod_lt _ (by decide)⟩
        · rw [parGo_app _ _ _ h1, h2]
          show parGo 16 [hexC (n % 16)] (n / 16) = _
          rw [parGo_one (by decide) (hexC_v _ (Nat.mod_lt _ (by decide))) (Nat.mod_lt _ (by decide)) (by omega)]
          congr 1; omega
theorem hexU_back (n : Nat) (hn : n ≤ 18446744073709551615) : parGo 16 (hexU n) 0 = some n := by
  obtain ⟨h1, h2⟩ := hexP_back (n / 16) (n / 16) (Nat.le_refl _) (by omega)
  unfold hexU
  rw [parGo_app _ _ _ h1, h2]
  show parGo 16 [hexC (n % 16)] (n / 16) = _
  rw [parGo_one (by decide) (hexC_v _ (Nat.mod_lt _ (by decide))) (Nat.mod_lt _ (by decide)) (by omega)]
  congr 1; omega
theorem dec_back : ∀ (f n : Nat), n ≤ f → n ≤ 18446744073709551615 → AllD 10 (Lib.decDigits n) ∧ parGo 10 (Lib.decDigits n) 0 = some n
  | f, n, hf, hn => by
    by_cases h1 : n < 10
    · rw [decDigits_small h1]
      refine ⟨?_, ?_⟩
      · intro c hc
        simp only [List.mem_cons, List.not_mem_nil, or_false] at hc
        subst hc
        exact ⟨n, dec_v n h1, h1⟩
      · rw [parGo_one (by decide) (dec_v n h1) h1 (by omega)]
        congr 1; omega
    · cases f with
      | zero => omega
      | succ f =>
        obtain ⟨i1, i2⟩ := dec_back f (n / 10) (by omega) (by omega)
        rw [decDigits_big h1]
        refine ⟨?_, ?_⟩
        · intro c hc
          rcases List.mem_append.1 hc with hc | hc
          · exact i1 c hc
          · simp only [List.mem_cons, List.not_mem_nil, or_false] at hc
            subst hc
            exact ⟨_, dec_v _ (Nat.mod_lt _ (by decide)), Nat.mod_lt _ (by decide)⟩
        · rw [parGo_app _ _ _ i1, i2]
          show parGo 10 [UInt8.ofNat (48 + n % 10)] (n / 10) = _
          rw [parGo_one (by decide) (dec_v _ (Nat.mod_lt _ (by decide))) (Nat.mod_lt _ (by decide)) (by omega)]
          congr 1; omega
theorem decDigits_len : ∀ (k n : Nat), n < 10 ^ (k + 1) → (Lib.decDigits n).length ≤ k + 1
  | 0, n, h => by rw [decDigits_small (by simpa using h)]; simp
  | k + 1, n, h => by
    by_cases h1 : n < 10
    · rw [decDigits_small h1]; simp
    · rw [decDigits_big h1, List.length_append]
      have := decDigits_len k (n / 10) (by rw [Nat.pow_succ] at h; omega)
      simp; omega
end Go.Proofs.YteifmjhkedhomaaDoor
