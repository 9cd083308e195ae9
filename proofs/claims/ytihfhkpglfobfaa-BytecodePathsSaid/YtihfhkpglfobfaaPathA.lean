/- Path: the walk. -/
import Derived.Test.YtihfhkpglfobfaaCnt
import Derived.Deep.AppendLies
namespace Go.Proofs.Ytihfhkpglfobfaa
open Go.RowKit
attribute [local go_sem] conv1 conv2 ByteArray.mk_append_mk get_mk cut_mk

theorem prefix47_no0 (w : World) : Calls Try.prog 47 #[.string ⟨([] : List UInt8).toArray⟩, .string ⟨#[92]⟩] w fun e w' => e = .returned (.bool false) ∧ w = w' := by
  go_enter Try.func47, Try.ntmps47
  go_wp2_with fail
  go_ret
  exact ⟨rfl, rfl⟩
theorem prefix47_yes (r : List UInt8) (w : World) (hm : r.length ≤ 9223372036854775000) : Calls Try.prog 47 #[.string ⟨(92 :: r).toArray⟩, .string ⟨#[92]⟩] w fun e w' => e = .returned (.bool true) ∧ w = w' := by
  have h1 : ¬ ((r.length : Int) + 1 < 1) := by omega
  go_enter Try.func47, Try.ntmps47
  go_wp2_with fail
  go_ret
  exact ⟨rfl, rfl⟩
theorem prefix47_no (c : UInt8) (r : List UInt8) (w : World) (hc : c ≠ 92) (hm : r.length ≤ 9223372036854775000) : Calls Try.prog 47 #[.string ⟨(c :: r).toArray⟩, .string ⟨#[92]⟩] w fun e w' => e = .returned (.bool false) ∧ w = w' := by
  have h1 : ¬ ((r.length : Int) + 1 < 1) := by omega
  go_enter Try.func47, Try.ntmps47
  go_wp2_with fail
  go_ret
  exact ⟨by rw [show (c == 92) = false by simpa using hc]; rfl, rfl⟩
/-- Does the path begin at the root. -/
def rootOf : List UInt8 → Bool
  | [] => false
  | c :: _ => c == 92
theorem hasPrefix_any (s : List UInt8) (w : World) (hm : s.length ≤ 9223372036854775000) : Calls Try.prog 36 #[.string ⟨s.toArray⟩, .string ⟨#[92]⟩] w fun e w' => e = .returned (.bool (rootOf s)) ∧ w = w' := by
  match s, hm with
  | [], _ =>
    go_enter Try.func36, Try.ntmps36
    go_wp2_with (go_at_call 47; refine (prefix47_no0 _).mono ?_; rintro e w' ⟨rfl, rfl⟩)
    go_ret
    exact ⟨rfl, rfl⟩
  | c :: r, hm =>
    rw [List.length_cons] at hm
    by_cases hc : c = 92
    · subst hc
      go_enter Try.func36, Try.ntmps36
      go_wp2_with (go_at_call 47; refine (prefix47_yes r _ (by omega)).mono ?_; rintro e w' ⟨rfl, rfl⟩)
      go_ret
      exact ⟨rfl, rfl⟩
    · have HC : Hid (rootOf (c :: r) = false) := Lib.hid (by rw [rootOf]; simpa using hc)
      go_enter Try.func36, Try.ntmps36
      go_wp2_with (go_at_call 47; refine (prefix47_no c r _ hc (by omega)).mono ?_; rintro e w' ⟨rfl, rfl⟩)
      go_ret
      exact ⟨by rw [HC.out]; rfl, rfl⟩

/-- How many bytes 0x5e stand at the front. -/
def carets : List UInt8 → Nat
  | [] => 0
  | c :: r => if c.toNat = 94 then carets r + 1 else 0
theorem carets_le (s : List UInt8) : carets s ≤ s.length := by
  induction s with
  | nil => exact Nat.le_refl _
  | cons c r ih => rw [carets, List.length_cons]; split <;> omega
theorem carets_yes (s : List UInt8) (k : Nat) (h : k < s.length) (hc : s[k].toNat = 94) : k + carets (s.drop k) = (k + 1) + carets (s.drop (k + 1)) := by
  rw [List.drop_eq_getElem_cons h, carets, if_pos hc]; omega
theorem carets_no (s : List UInt8) (k : Nat) (h : k < s.length) (hc : ¬ s[k].toNat = 94) : carets (s.drop k) = 0 := by
  rw [List.drop_eq_getElem_cons h, carets, if_neg hc]
/-- The segments: their strings, the position behind them, the error. -/
def segsGo (s : List UInt8) : Nat → Nat → List (List UInt8) → List (List UInt8) × Nat × Nat
  | 0, pos, acc => (acc, pos, 0)
  | n + 1, pos, acc => if (rdSeg (s.drop pos)).2 = 0 then segsGo s n (pos + 4) (acc ++ [(rdSeg (s.drop pos)).1]) else ([], 0, (rdSeg (s.drop pos)).2)
structure PathR where
  root : Bool
  up : Nat
  segs : List (List UInt8)
  pos : Nat
  err : Nat
def badPath (e : Nat) : PathR := ⟨false, 0, [], 0, e⟩
def pathRest (s : List UInt8) (root : Bool) (up pos : Nat) : PathR :=
  if 32 < up then badPath 3 else
  let c := rdCnt (s.drop pos) (32 - up) (decide (0 < pos))
  if c.2.2 = 0 then
    let g := segsGo s c.1.toNat (pos + c.2.1.toNat) []
    if g.2.2 = 0 then ⟨root, up, g.1, g.2.1, 0⟩ else badPath g.2.2
  else badPath c.2.2.toNat
/-- What Path returns. -/
def rdPath (s : List UInt8) : PathR := if rootOf s = true then pathRest s true 0 1 else pathRest s false (carets s) (carets s)
def strV (l : List UInt8) : Value := .string ⟨l.toArray⟩
def PathPost (w : World) (r : PathR) (e : Ending) (w' : World) : Prop :=
  ∃ v, e = .returned (.tuple #[.agg #[.bool r.root, .int .i64 r.up, v], .int .i64 r.pos, .int .i64 r.err]) ∧ w'.ownsRow w.heap.size 9 1 v r.segs.length (r.segs.map strV) ∧ Below w.heap.size w w'

theorem ret_path (tmps : Array Value) (w : World) (b : Nat) (c0 c1 c2 : Value) (h2 : tmps.getD 2 undef = .pointer (some ⟨b, 0, none⟩)) (hb : w.heap[b]? = some (.cells #[c0, c1, c2] 45 (0, 0))) :
    (results Try.f26 tmps).run Try.prog w = .ok (.tuple #[.agg #[c0, c1, c2], tmps.getD 3 undef, tmps.getD 4 undef]) w := by
  have e0 : w.cell? ⟨b, 0, none⟩ = some c0 := (cell_of_row w _ 0 _ _ _ hb).trans rfl
  have e1 : w.cell? ⟨b, 1, none⟩ = some c1 := (cell_of_row w _ 1 _ _ _ hb).trans rfl
  have e2 : w.cell? ⟨b, 2, none⟩ = some c2 := (cell_of_row w _ 2 _ _ _ hb).trans rfl
  have h2' : tmps[2]?.getD undef = .pointer (some ⟨b, 0, none⟩) := by rw [← h2]; simp
  simp [results]
  go_simp
end Go.Proofs.Ytihfhkpglfobfaa
