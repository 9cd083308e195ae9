/- Plain laws on bytes and numbers of the layer 'bytecode': no program in sight. -/
import Derived.Laws.BitsAllLaws
import Derived.Laws.BitsLemmas
import Derived.IntWalk
namespace Go.Proofs.YteifmjhkedhomaaDoor

/-- The number that bytes denote, least significant first. -/
def num : List UInt8 → Nat
  | [] => 0
  | b :: r => b.toNat + 256 * num r

/-- The n low bytes of v, least significant first. -/
def little (v : Nat) : Nat → List UInt8
  | 0 => []
  | n + 1 => UInt8.ofNat (v % 256) :: little (v / 256) n

theorem num_lt (l : List UInt8) : num l < 256 ^ l.length := by
  induction l with
  | nil => simp [num]
  | cons b r ih =>
    have := b.toNat_lt
    simp only [num, List.length_cons, Nat.pow_succ]
    omega

theorem num_append (a b : List UInt8) : num (a ++ b) = num a + 256 ^ a.length * num b := by
  induction a with
  | nil => simp [num]
  | cons x r ih =>
    simp only [List.cons_append, num, ih, List.length_cons, Nat.pow_succ]
    rw [Nat.mul_add, Nat.mul_comm (256 ^ r.length) 256, Nat.mul_assoc, Nat.add_assoc]

theorem num_snoc (a : List UInt8) (b : UInt8) : num (a ++ [b]) = num a + 256 ^ a.length * b.toNat := by
  rw [num_append]; simp [num]

theorem little_length (v n : Nat) : (little v n).length = n := by
  induction n generalizing v with
  | zero => rfl
  | succ n ih => simp [little, ih]

theorem num_little (v n : Nat) : num (little v n) = v % 256 ^ n := by
  induction n generalizing v with
  | zero => simp [little, num, Nat.mod_one]
  | succ n ih =>
    simp only [little, num, ih, UInt8.toNat_ofNat', Nat.reducePow, Nat.mod_mod, Nat.pow_succ]
    rw [Nat.mul_comm (256 ^ n) 256, Nat.mod_mul]

theorem little_num (l : List UInt8) : little (num l) l.length = l := by
  induction l with
  | nil => rfl
  | cons b r ih =>
    have hb := b.toNat_lt
    simp only [List.length_cons, little, num]
    have h1 : (b.toNat + 256 * num r) % 256 = b.toNat := by omega
    have h2 : (b.toNat + 256 * num r) / 256 = num r := by omega
    rw [h1, h2, ih]; simp

theorem little_snoc (v n : Nat) : little v (n + 1) = little v n ++ [UInt8.ofNat (v / 256 ^ n % 256)] := by
  induction n generalizing v with
  | zero => simp [little]
  | succ n ih =>
    rw [little, ih (v / 256), little]
    simp only [List.cons_append, List.cons.injEq, List.append_cancel_left_eq, true_and, and_true]
    rw [Nat.div_div_eq_div_mul, Nat.pow_succ, Nat.mul_comm 256]

theorem pow256 (k : Nat) : 256 ^ k = 2 ^ (8 * k) := by rw [Nat.pow_mul]

theorem byte_pow_lt (b : UInt8) (k : Nat) (hk : k < 8) : b.toNat * 2 ^ (8 * k) < 18446744073709551616 := by
  have h1 : b.toNat * 2 ^ (8 * k) < 256 * 2 ^ (8 * k) := Nat.mul_lt_mul_of_pos_right b.toNat_lt (Nat.two_pow_pos _)
  have h2 : (256 : Nat) * 2 ^ (8 * k) = 2 ^ (8 * k + 8) := by rw [Nat.pow_add]; omega
  have h3 : (2 : Nat) ^ (8 * k + 8) ≤ 2 ^ 64 := Nat.pow_le_pow_right (by omega) (by omega)
  omega

/-- One step of 'v |= uint64(c) << (8*k)'. -/
theorem or_step (l : List UInt8) (b : UInt8) (h : l.length < 8) :
    bits .or .u64 (num l : Int) (IntKind.u64.wrap (IntKind.u64.wrap (b.toNat : Int) * 2 ^ (8 * l.length))) = (num (l ++ [b]) : Nat) := by
  have hb := b.toNat_lt
  have h0 : IntKind.u64.wrap (b.toNat : Int) = b.toNat := IntWalk.u64_in _ ⟨by omega, by omega⟩
  have hlt := byte_pow_lt b l.length h
  have hc : ((b.toNat : Int) * 2 ^ (8 * l.length)) = ((b.toNat * 2 ^ (8 * l.length) : Nat) : Int) := by
    rw [Int.natCast_mul, Int.natCast_pow]; rfl
  have hn := num_lt l
  rw [pow256] at hn
  have hp : (2 : Nat) ^ (8 * l.length) ≤ 2 ^ 64 := Nat.pow_le_pow_right (by omega) (by omega)
  have h1 : IntKind.u64.wrap ((b.toNat * 2 ^ (8 * l.length) : Nat) : Int) = ((b.toNat * 2 ^ (8 * l.length) : Nat) : Int) := IntWalk.u64_in _ ⟨by omega, by omega⟩
  rw [h0, hc, h1, u64_or_nat _ _ (by omega) hlt, Nat.or_comm, nat_join (8 * l.length) _ _ (Nat.mul_mod_left _ _) hn, num_snoc, pow256, Nat.mul_comm]
  omega

/-- One step of 'v = v<<8 | uint64(c)', from the last byte on. -/
theorem or_step_back (b : UInt8) (l : List UInt8) (h : l.length < 8) :
    bits .or .u64 (IntKind.u64.wrap ((num l : Int) * 256)) (IntKind.u64.wrap (b.toNat : Int)) = (num (b :: l) : Nat) := by
  have hb := b.toNat_lt
  have h0 : IntKind.u64.wrap (b.toNat : Int) = b.toNat := IntWalk.u64_in _ ⟨by omega, by omega⟩
  have hn := num_lt l
  have hp : (256 : Nat) ^ l.length ≤ 256 ^ 7 := Nat.pow_le_pow_right (by omega) (by omega)
  have hc : ((num l : Int) * 256) = ((num l * 256 : Nat) : Int) := by rw [Int.natCast_mul]; rfl
  have h1 : IntKind.u64.wrap ((num l * 256 : Nat) : Int) = ((num l * 256 : Nat) : Int) := IntWalk.u64_in _ ⟨by omega, by omega⟩
  rw [h0, hc, h1, u64_or_nat _ _ (by omega) (by omega), nat_join 8 _ _ (by omega) hb, num]
  omega

theorem i64_and15 (n : Int) : bits .and .i64 n 15 = n % 16 := by
  have h15 : (BitVec.ofInt 64 15).toNat = 2 ^ 4 - 1 := by decide
  have key : (BitVec.ofInt 64 n &&& BitVec.ofInt 64 15).toNat = (n % ((2 ^ 64 : Nat) : Int)).toNat % 2 ^ 4 := by
    rw [BitVec.toNat_and, BitVec.toNat_ofInt, h15, Nat.and_two_pow_sub_one_eq_mod]
  show IntKind.i64.wrap ((BitVec.ofInt 64 n &&& BitVec.ofInt 64 15).toNat : Nat) = n % 16
  rw [key, IntKind.wrap_i64]
  omega
theorem wraps_i64 (n : Int) (h₀ : 0 ≤ n) (h₁ : n < 2 ^ 63) : IntKind.i64.wrap n = n := by rw [IntKind.wrap_i64]; omega
theorem i64_or4 (x y : Int) (hx : 0 ≤ x) (hx' : x % 16 = 0) (hx'' : x < 9223372036854775808) (hy : 0 ≤ y) (hy' : y < 16) : bits .or .i64 x y = x + y :=
  bits_join .i64 63 (by decide) wraps_i64 4 x y hx (by omega) (by omega) hy (by omega) (by omega)
theorem i64_or4' (x y : Int) (hx : 0 ≤ x) (hx' : x % 16 = 0) (hx'' : x < 9223372036854775808) (hy : 0 ≤ y) (hy' : y < 16) : bits .or .i64 y x = y + x := by
  have hc : bits .or .i64 y x = bits .or .i64 x y := by simp only [bits, BitVec.or_comm]
  rw [hc, i64_or4 x y hx hx' hx'' hy hy']; omega
theorem i64_or_64 (x : Int) : bits .or .i64 64 (x % 16) = 64 + x % 16 := i64_or4 _ _ (by omega) (by omega) (by omega) (by omega) (by omega)
theorem i64_or_128 (x : Int) : bits .or .i64 128 (x % 16) = 128 + x % 16 := i64_or4 _ _ (by omega) (by omega) (by omega) (by omega) (by omega)
theorem i64_or_192 (x : Int) : bits .or .i64 192 (x % 16) = 192 + x % 16 := i64_or4 _ _ (by omega) (by omega) (by omega) (by omega) (by omega)
theorem byte_and15 (c : UInt8) : bits .and .u8 (c.toNat : Int) 15 = (c.toNat : Int) % 16 := u8_and15 _ (by omega) (by have := c.toNat_lt; omega)
theorem byte_and63 (c : UInt8) : bits .and .u8 (c.toNat : Int) 63 = (c.toNat : Int) % 64 := u8_and63 _ (by omega) (by have := c.toNat_lt; omega)
theorem nat_and48 (x : Nat) (h : x < 256) : x &&& 48 = x / 16 % 4 * 16 := by
  have : ∀ x : Fin 256, x.val &&& 48 = x.val / 16 % 4 * 16 := by decide +kernel
  exact this ⟨x, h⟩
theorem byte_and48 (c : UInt8) : bits .and .u8 (c.toNat : Int) 48 = (c.toNat : Int) / 16 % 4 * 16 := by
  have hc := c.toNat_lt
  rw [u8_and _ _ (by omega) (by omega) (by omega) (by omega)]
  rw [show (48 : Int).toNat = 48 from rfl, Int.toNat_natCast, nat_and48 _ hc]
  omega

end Go.Proofs.YteifmjhkedhomaaDoor
