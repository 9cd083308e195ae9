/- Layer 3, plain: validity. -/
import Derived.Test.YtnicnfchkdmieaaGreatDoorSa
namespace Go.Proofs.YtnicnfchkdmieaaGreatDoor
open Go.RowKit
set_option linter.unusedVariables false

def fieldsB (n : Nd) (k : UInt8) : Bool :=
  (if n.kind = 1 then true else if n.kind = 6 then decide (n.num < 8) else if n.kind = 7 then decide (n.num < 7) else n.num == 0) &&
  (if n.kind = 3 ∨ n.kind = 5 then nameB k n.str else if n.kind = 2 then decide (n.str.length ≤ 255) else n.str == [])
/-- The kinds of a node's children. -/
def kidsK (n : Nd) : Option (List UInt8) :=
  if n.kind = 5 then (if 0 ≤ n.pos ∧ n.pos ≤ 7 then some (List.replicate n.pos.toNat 101) else none)
  else if n.kind = 33 then (if 0 ≤ n.pos ∧ n.pos ≤ 1 then some (List.replicate n.pos.toNat 101) else none)
  else if n.kind = 31 ∧ n.pos = 3 then some [101, 83, 83]
  else if ((formP n.kind).2.length : Int) = n.pos then some (formP n.kind).2 else none
def nextN (f : Nat → Option Nat) : Nat → Nat → Option Nat
  | 0, i => some i
  | m + 1, i => match f i with
    | none => none
    | some j => nextN f m j
def nextK (f : UInt8 → Nat → Option Nat) : List UInt8 → Nat → Option Nat
  | [], i => some i
  | k :: ks, i => match f k i with
    | none => none
    | some j => nextK f ks j
/-- The index behind a subtree (true: a block), where it is valid; at most d deep. -/
def vAny (p : List Nd) : Nat → Bool → UInt8 → Nat → Option Nat
  | 0, _, _, _ => none
  | d + 1, true, k, i => match p[i]? with
    | none => none
    | some n => if n.kind = 4 ∧ n.num = 0 ∧ n.str = [] ∧ 0 ≤ n.pos then nextN (vAny p d false k) n.pos.toNat (i + 1) else none
  | d + 1, false, k, i => match p[i]? with
    | none => none
    | some n => if accB k n.kind = true ∧ fieldsB n k = true then (match kidsK n with
      | none => none
      | some ks => nextK (fun k j => vAny p d (blkB k) k j) ks (i + 1)) else none
def vTop (p : List Nd) : Nat → Nat → Bool
  | 0, i => decide (p.length ≤ i)
  | f + 1, i => if p.length ≤ i then true else match vAny p 32 false 68 i with
    | none => false
    | some j => vTop p f j
def validL (p : List Nd) : Bool := decide (p.length ≤ 2048) && vTop p p.length 0
theorem nextN_good {f : Nat → Option Nat} {L : Nat} (h : ∀ i j, f i = some j → i < j ∧ j ≤ L) : ∀ (m i j : Nat), nextN f m i = some j → i ≤ L → i ≤ j ∧ j ≤ L
  | 0, i, j, e, hi => by rw [nextN] at e; injection e with e; omega
  | m + 1, i, j, e, hi => by
    rw [nextN] at e
    cases hf : f i with
    | none => rw [hf] at e; cases e
    | some k =>
      rw [hf] at e
      have := h i k hf
      have := nextN_good h m k j e this.2
      omega
theorem nextK_good {f : UInt8 → Nat → Option Nat} {L : Nat} (h : ∀ k i j, f k i = some j → i < j ∧ j ≤ L) : ∀ (ks : List UInt8) (i j : Nat), nextK f ks i = some j → i ≤ L → i ≤ j ∧ j ≤ L
  | [], i, j, e, hi => by rw [nextK] at e; injection e with e; omega
  | k :: ks, i, j, e, hi => by
    rw [nextK] at e
    cases hf : f k i with
    | none => rw [hf] at e; cases e
    | some q =>
      rw [hf] at e
      have := h k i q hf
      have := nextK_good h ks q j e this.2
      omega
theorem vAny_good (p : List Nd) : ∀ (d : Nat) (b : Bool) (k : UInt8) (i j : Nat), vAny p d b k i = some j → i < j ∧ j ≤ p.length
  | 0, b, k, i, j, e => by rw [vAny] at e; cases e
  | d + 1, true, k, i, j, e => by
    rw [vAny] at e
    cases hn : p[i]? with
    | none => rw [hn] at e; cases e
    | some n =>
      rw [hn] at e
      simp only [] at e
      have hi : i < p.length := (List.getElem?_eq_some_iff.1 hn).1
      split at e
      · have := nextN_good (fun i j => vAny_good p d false k i j) _ _ _ e (by omega)
        omega
      · cases e
  | d + 1, false, k, i, j, e => by
    rw [vAny] at e
    cases hn : p[i]? with
    | none => rw [hn] at e; cases e
    | some n =>
      rw [hn] at e
      simp only [] at e
      have hi : i < p.length := (List.getElem?_eq_some_iff.1 hn).1
      split at e
      · cases hk : kidsK n with
        | none => rw [hk] at e; cases e
        | some ks =>
          rw [hk] at e
          have := nextK_good (fun k i j => vAny_good p d (blkB k) k i j) _ _ _ e (by omega)
          omega
      · cases e
end Go.Proofs.YtnicnfchkdmieaaGreatDoor
