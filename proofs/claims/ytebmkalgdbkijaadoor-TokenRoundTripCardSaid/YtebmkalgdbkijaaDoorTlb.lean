/- Tokens as values; some, bare, at: the walks. -/
import Derived.Test.YtebmkalgdbkijaaDoorTkt
import Derived.Test.YtebmkalgdbkijaaDoorTla
import Derived.Test.YtebmkalgdbkijaaDoorMod
namespace Go.Proofs.YtebmkalgdbkijaaDoor
open Go.RowKit
set_option linter.unusedVariables false
set_option linter.unusedSimpArgs false
attribute [local go_sem] ByteArray.mk_append_mk bs_get bs_cut bs_end

/-- A token, with whatever numbers. -/
structure TokI where
  kind : Int
  num : Int
  str : List UInt8
  pos : Int
deriving DecidableEq
def TokI.val (t : TokI) : Value := tokV t.kind t.num t.str t.pos
def Tok.toI (t : Tok) : TokI := ⟨t.kind, t.num, t.str, t.pos⟩
/-- A token's block. -/
abbrev tObj (a b : Int) (c : List UInt8) (d : Int) : Obj := .cells #[.int .i64 a, .int .u64 b, .string ⟨c.toArray⟩, .int .i64 d] 27 (0, 0)
/-- A token without what has no meaning. -/
def bareT (t : TokI) : TokI := if t.kind = 1 ∨ t.kind = 2 ∨ t.kind = 4 then ⟨t.kind, 0, t.str, 0⟩ else if t.kind = 3 then ⟨t.kind, t.num, [], 0⟩ else ⟨t.kind, 0, [], 0⟩
theorem ret_bare (tmps : Array Value) (w : World) (b : Nat) (c0 c1 c2 c3 : Value) (h2 : tmps.getD 2 undef = .pointer (some ⟨b, 0, none⟩)) (hb : w.heap[b]? = some (.cells #[c0, c1, c2, c3] 27 (0, 0))) :
    (results Tryd.f22 tmps).run Tryd.prog w = .ok (.agg #[c0, c1, c2, c3]) w := by
  obtain ⟨e0, e1, e2, e3⟩ := cells4 hb
  have h2' : tmps[2]?.getD undef = .pointer (some ⟨b, 0, none⟩) := by rw [← h2]; simp
  simp [results]
  go_simp
set_option maxRecDepth 100000 in
set_option maxHeartbeats 4000000 in
theorem bare_any (k n d : Int) (s : List UInt8) (w : World) : Calls Tryd.prog 22 #[tokV k n s d] w fun e w' => e = .returned (bareT ⟨k, n, s, d⟩).val ∧ Below w.heap.size w w' := by
  obtain ⟨X, hX⟩ : ∃ X, Hid (bareT ⟨k, n, s, d⟩ = X) := ⟨_, Lib.hid rfl⟩
  rw [hX.out]
  have HX : Hid (X = if k = 1 ∨ k = 2 ∨ k = 4 then ⟨k, 0, s, 0⟩ else if k = 3 then ⟨k, n, [], 0⟩ else ⟨k, 0, [], 0⟩) := Lib.hid hX.out.symm
  have HB : Hid (∀ o o', Below w.heap.size w ((w.alloc o).alloc o')) := Lib.hid fun o o' => ((Below.refl w.heap.size w).alloc (Nat.le_refl _) o).alloc (by simp) o'
  clear hX
  unfold tokV
  by_cases h1 : k = 1
  · subst h1
    obtain rfl : X = ⟨1, 0, s, 0⟩ := by rw [HX.out]; rfl
    clear HX
    go_enter Tryd.func22, Tryd.ntmps22
    go_wp2_with fail
    exact bodyPost_ret (v := TokI.val ⟨1, 0, s, 0⟩) (by simp [results, Tryd.results22, go_sem, TokI.val, tokV]) rfl ⟨rfl, HB.out _ _⟩
  by_cases h2 : k = 2
  · subst h2
    obtain rfl : X = ⟨2, 0, s, 0⟩ := by rw [HX.out]; rfl
    clear HX
    go_enter Tryd.func22, Tryd.ntmps22
    go_wp2_with fail
    exact bodyPost_ret (v := TokI.val ⟨2, 0, s, 0⟩) (by simp [results, Tryd.results22, go_sem, TokI.val, tokV]) rfl ⟨rfl, HB.out _ _⟩
  by_cases h4 : k = 4
  · subst h4
    obtain rfl : X = ⟨4, 0, s, 0⟩ := by rw [HX.out]; rfl
    clear HX
    go_enter Tryd.func22, Tryd.ntmps22
    go_wp2_with fail
    exact bodyPost_ret (v := TokI.val ⟨4, 0, s, 0⟩) (by simp [results, Tryd.results22, go_sem, TokI.val, tokV]) rfl ⟨rfl, HB.out _ _⟩
  by_cases h3 : k = 3
  · subst h3
    obtain rfl : X = ⟨3, n, [], 0⟩ := by rw [HX.out]; rfl
    clear HX
    go_enter Tryd.func22, Tryd.ntmps22
    go_wp2_with fail
    exact bodyPost_ret (v := TokI.val ⟨3, n, [], 0⟩) (by simp [results, Tryd.results22, go_sem, TokI.val, tokV]) rfl ⟨rfl, HB.out _ _⟩
  · have b1 : (k == 1) = false := beq_eq_false_iff_ne.2 h1
    have b2 : (k == 2) = false := beq_eq_false_iff_ne.2 h2
    have b3 : (k == 3) = false := beq_eq_false_iff_ne.2 h3
    have b4 : (k == 4) = false := beq_eq_false_iff_ne.2 h4
    obtain rfl : X = ⟨k, 0, [], 0⟩ := by rw [HX.out]; simp [h1, h2, h3, h4]
    clear HX h1 h2 h3 h4
    go_enter Tryd.func22, Tryd.ntmps22
    go_wp2_with fail
    exact bodyPost_ret (v := TokI.val ⟨k, 0, [], 0⟩) (by simp [results, Tryd.results22, go_sem, TokI.val, tokV]) rfl ⟨rfl, HB.out _ _⟩
end Go.Proofs.YtebmkalgdbkijaaDoor
