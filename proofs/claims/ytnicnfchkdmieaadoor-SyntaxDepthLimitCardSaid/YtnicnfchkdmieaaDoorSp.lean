/- Parse: the walk. -/
import Derived.Test.YtnicnfchkdmieaaDoorSo
namespace Go.Proofs.YtnicnfchkdmieaaDoor
open Go.RowKit
set_option linter.unusedVariables false
set_option linter.unusedSimpArgs false
attribute [local go_sem] ByteArray.mk_append_mk bs_get bs_cut bs_end

def TokOk (t : Tok) : Prop := t.str.length ≤ 65536 ∧ (t.kind = 2 → t.str ≠ [])
theorem scanF_ok (s : List UInt8) (hs : s.length ≤ 65536) : ∀ (f p : Nat) (acc : List Tok), p ≤ s.length → (∀ t ∈ acc, TokOk t) → ∀ t ∈ (scanF s f p acc).1, TokOk t
  | 0, p, acc, hp, h => by rw [scanF]; exact h
  | f + 1, p, acc, hp, h => by
    obtain ⟨q, hq1, hq2, e1, e2⟩ := skip_place s p hp
    unfold scanF
    rw [e2, e1]
    split
    · intro t ht; cases ht
    · split
      · exact h
      · split
        · intro t ht; cases ht
        · next k v t n hi =>
          have hn : 1 ≤ n ∧ n ≤ (s.drop q).length := itemL_le hi
          obtain ⟨g1, g2⟩ := item_good hi
          rw [List.length_drop] at hn g1
          refine scanF_ok s hs f (q + n) _ (by omega) (fun x hx => ?_)
          rcases List.mem_append.1 hx with hx | hx
          · exact h x hx
          · simp only [List.mem_cons, List.not_mem_nil, or_false] at hx
            subst hx
            exact ⟨by show t.length ≤ 65536; omega, g2⟩
theorem scanL_ok (s : List UInt8) : ∀ t ∈ (scanL s).1, TokOk t := by
  unfold scanL
  split
  · intro t ht; cases ht
  · exact scanF_ok s (by omega) _ 0 [] (by omega) (fun t ht => by cases ht)
theorem toks_good {l : List Tok} (h : ∀ t ∈ l, TokOk t) : TGood (l.map Tok.toI) := by
  intro t ht
  obtain ⟨x, hx, rfl⟩ := List.mem_map.1 ht
  exact ⟨(h x hx).1, fun hk => (h x hx).2 (by have : (x.kind : Int) = 2 := hk; omega)⟩
theorem Toks.tokB {w : World} {B : Nat} {v : Value} {l : List Tok} (h : Toks w B v l) : TokB w w.heap.size v (l.map Tok.toI) := by
  obtain ⟨a, c, rfl⟩ := h.form
  have hcap : l.length ≤ c := by
    rcases h.2 with ⟨hv, h0⟩ | ⟨g, cap, cur, hv, hb, hg, hn, _⟩
    · injection hv with _ _ e; omega
    · injection hv with _ _ e; omega
  refine ⟨a, c, by rw [List.length_map], by rw [List.length_map]; exact hcap, fun hne => ?_⟩
  have hpos : 0 < l.length := by
    cases l with
    | nil => exact absurd rfl hne
    | cons x y => simp
  obtain ⟨b, ha, hB, q0, _⟩ := h.cells 0 hpos
  refine ⟨b, 0, ha, World.block_lt_of_cell? w _ q0, fun i hi => ?_⟩
  rw [List.length_map] at hi
  obtain ⟨b2, ha2, _, k0, k1, k2, k3⟩ := h.cells i hi
  rw [ha] at ha2
  injection ha2 with ha2
  injection ha2 with ha2
  subst ha2
  rw [Nat.zero_add, List.getElem_map]
  exact ⟨k0, k1, k2, k3⟩
/-- All declarations. -/
def progF (F : Nat) : Nat → List Nd → List TokI → PR
  | 0, ns, r => .ok r ns
  | f + 1, ns, r => if r = [] then .ok [] ns else match subP F 68 r with
    | .no x => .no x
    | .ok r1 n1 => progF F f (ns ++ n1) r1
def parseR (E : Int) : PR → List Nd × Int × Int
  | .no x => ([], posT E x, 2)
  | .ok _ ns => if validL ns = true then (ns, 0, 0) else ([], 0, 11)
def parseT (E : Int) (l : List TokI) : List Nd × Int × Int := parseR E (progF l.length l.length [] l)
/-- What Parse returns: the program, the error's offset, the error. -/
def parseL (s : List UInt8) : List Nd × Int × Int :=
  if (scanL s).2.2 ≠ 0 then ([], (scanL s).2.1, (scanL s).2.2) else parseT s.length ((scanL s).1.map Tok.toI)
def NdsOk (l : List Nd) : Prop := ∀ t ∈ l, t.str.length ≤ 4000000000 ∧ 0 ≤ t.num
theorem NdsOk.app {a b : List Nd} (h : NdsOk a) (k : NdsOk b) : NdsOk (a ++ b) := fun t ht => by
  rcases List.mem_append.1 ht with ht | ht
  · exact h t ht
  · exact k t ht
theorem NdsOk.cons {a : List Nd} {n : Nd} (hn : n.str.length ≤ 4000000000 ∧ 0 ≤ n.num) (h : NdsOk a) : NdsOk (n :: a) := fun t ht => by
  rcases List.mem_cons.1 ht with rfl | ht
  · exact hn
  · exact h t ht
theorem NdsOk.tail {a : List Nd} (h : NdsOk a) : NdsOk a.tail := fun t ht => h t (List.mem_of_mem_tail ht)
theorem NdsOk.nil : NdsOk [] := fun t ht => by cases ht
def NG (x : PR) : Prop := match x with
  | .no _ => True
  | .ok r ns => NdsOk r ∧ NdsOk ns
section
variable {sub : UInt8 → List TokI → PR} (hs : ∀ k r, NdsOk r → NG (sub k r))
include hs
theorem callL_ng (text : List UInt8) (ht : text.length ≤ 4000000000) : ∀ (f m : Nat) (ns : List Nd) (r : List TokI), NdsOk ns → NdsOk r → NG (callL sub text f m ns r)
  | 0, m, ns, r, h, hr => trivial
  | f + 1, m, ns, r, h, hr => by
    rw [callL]
    have hk := hs 101 r hr
    cases hx : sub 101 r with
    | no x => trivial
    | ok r1 n1 =>
      rw [hx] at hk
      simp only []
      split
      · split
        · exact ⟨hk.1.tail, .cons ⟨ht, by show (0 : Int) ≤ 0; omega⟩ (h.app hk.2)⟩
        · trivial
      · exact callL_ng text ht f (m + 1) _ _ (h.app hk.2) hk.1.tail
theorem nameP_ng (k : UInt8) (text : List UInt8) (ht : text.length ≤ 4000000000) (r : List TokI) (hr : NdsOk r) : NG (nameP sub k text r) := by
  unfold nameP
  split
  · trivial
  split
  · trivial
  split
  · unfold callP
    split
    · exact ⟨hr.tail.tail.tail, .cons ⟨ht, by show (0 : Int) ≤ 0; omega⟩ .nil⟩
    · exact callL_ng hs text ht 7 0 [] _ .nil hr.tail.tail
  split
  · trivial
  · exact ⟨hr.tail, .cons ⟨ht, by show (0 : Int) ≤ 0; omega⟩ .nil⟩
theorem blockL_ng (k : UInt8) : ∀ (f m : Nat) (ns : List Nd) (r : List TokI), NdsOk ns → NdsOk r → NG (blockL sub k f m ns r)
  | 0, m, ns, r, h, hr => trivial
  | f + 1, m, ns, r, h, hr => by
    rw [blockL]
    split
    · exact ⟨hr.tail, .cons ⟨by simp, by show (0 : Int) ≤ 0; omega⟩ h⟩
    split
    · trivial
    have hr2 : NdsOk (if listB k = true ∧ 0 < m then r.tail else r) := by split; exact hr.tail; exact hr
    have hk := hs k _ hr2
    cases hx : sub k (if listB k = true ∧ 0 < m then r.tail else r) with
    | no x => trivial
    | ok r1 n1 => rw [hx] at hk; exact blockL_ng k f (m + 1) _ _ (h.app hk.2) hk.1
theorem blockP_ng (k : UInt8) (r : List TokI) (hr : NdsOk r) : NG (blockP sub k r) := by
  unfold blockP
  split
  · exact blockL_ng hs k _ 0 [] _ .nil hr.tail
  · trivial
theorem argsL_ng : ∀ (ks : List UInt8) (first : Bool) (ns : List Nd) (r : List TokI), NdsOk ns → NdsOk r → NG (argsL sub ks first ns r)
  | [], first, ns, r, h, hr => by rw [argsL]; split; exact ⟨hr.tail, h⟩; trivial
  | k :: ks, first, ns, r, h, hr => by
    rw [argsL]
    split
    · split; exact ⟨hr.tail, h⟩; trivial
    split
    · trivial
    have hr2 : NdsOk (if first = false then r.tail else r) := by split; exact hr.tail; exact hr
    have hk := hs k _ hr2
    cases hx : sub k (if first = false then r.tail else r) with
    | no x => trivial
    | ok r1 n1 => rw [hx] at hk; exact argsL_ng ks false _ _ (h.app hk.2) hk.1
theorem blksL_ng : ∀ (ks : List UInt8) (ns : List Nd) (r : List TokI), NdsOk ns → NdsOk r → NG (blksL sub ks ns r)
  | [], ns, r, h, hr => by rw [blksL]; exact ⟨hr, h⟩
  | k :: ks, ns, r, h, hr => by
    rw [blksL]
    have hk := blockP_ng hs k r hr
    cases hx : blockP sub k r with
    | no x => trivial
    | ok r1 n1 => rw [hx] at hk; exact blksL_ng ks _ _ (h.app hk.2) hk.1
theorem opsP_ng (kinds : List UInt8) (r : List TokI) (hr : NdsOk r) : NG (opsP sub kinds r) := by
  unfold opsP
  split
  · exact ⟨hr, .nil⟩
  split
  · trivial
  have ha := argsL_ng hs kinds true [] r.tail .nil hr.tail
  cases hx : argsL sub kinds true [] r.tail with
  | no x => trivial
  | ok r1 n1 => rw [hx] at ha; exact blksL_ng hs _ _ _ ha.2 ha.1
theorem wordP_ng (k : UInt8) (w : List UInt8) (r : List TokI) (hr : NdsOk r) : NG (wordP sub k w r) := by
  unfold wordP
  cases hv : varW w with
  | some x =>
    obtain ⟨op, n⟩ := x
    simp only []
    split
    · exact ⟨hr.tail, .cons ⟨by simp, by show (0 : Int) ≤ (n : Int); omega⟩ .nil⟩
    · trivial
  | none =>
    simp only []
    split
    · trivial
    split
    · split
      · have := opsP_ng hs [101] r.tail hr.tail
        cases hx : opsP sub [101] r.tail with
        | no x => trivial
        | ok x ns => rw [hx] at this; exact ⟨this.1, .cons ⟨by simp, by show (0 : Int) ≤ 0; omega⟩ this.2⟩
      · exact ⟨hr.tail, .cons ⟨by simp, by show (0 : Int) ≤ 0; omega⟩ .nil⟩
    · have := opsP_ng hs (formP (opW w)).2 r.tail hr.tail
      cases hx : opsP sub (formP (opW w)).2 r.tail with
      | no x => trivial
      | ok x ns =>
        rw [hx] at this
        simp only []
        split
        · have hb := blockP_ng hs 83 x.tail this.1.tail
          cases hy : blockP sub 83 x.tail with
          | no z => trivial
          | ok r2 n2 => rw [hy] at hb; exact ⟨hb.1, .cons ⟨by simp, by show (0 : Int) ≤ 0; omega⟩ (this.2.app hb.2)⟩
        · exact ⟨this.1, .cons ⟨by simp, by show (0 : Int) ≤ 0; omega⟩ this.2⟩
end
theorem subP_ng : ∀ (f : Nat) (k : UInt8) (r : List TokI), NdsOk r → NG (subP f k r)
  | 0, k, r, hr => trivial
  | f + 1, k, r, hr => by
    cases r with
    | nil => trivial
    | cons t q =>
      have ht := hr t (by simp)
      unfold subP
      simp only []
      split
      · exact nameP_ng (subP_ng f) _ _ ht.1 _ hr
      split
      · exact wordP_ng (subP_ng f) _ _ _ hr
      split
      · exact ⟨hr.tail, .cons ⟨by simp, ht.2⟩ .nil⟩
      split
      · exact ⟨hr.tail, .cons ⟨ht.1, by show (0 : Int) ≤ 0; omega⟩ .nil⟩
      · trivial
theorem progF_ng (F : Nat) : ∀ (f : Nat) (ns : List Nd) (r : List TokI), NdsOk ns → NdsOk r → NG (progF F f ns r)
  | 0, ns, r, h, hr => by rw [progF]; exact ⟨hr, h⟩
  | f + 1, ns, r, h, hr => by
    rw [progF]
    split
    · exact ⟨.nil, h⟩
    have hk := subP_ng F 68 r hr
    cases hx : subP F 68 r with
    | no x => trivial
    | ok r1 n1 => rw [hx] at hk; exact progF_ng F f _ _ (h.app hk.2) hk.1
def ParsePost (w : World) (x : List Nd × Int × Int) (e : Ending) (w' : World) : Prop :=
  ∃ v, e = .returned (.tuple #[v, .int .i64 x.2.1, .int .i64 x.2.2]) ∧ NodesI w' w.heap.size v x.1 ∧ Below w.heap.size w w'
end Go.Proofs.YtnicnfchkdmieaaDoor
