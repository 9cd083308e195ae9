/- The generator: Program: the walk. Equal of nodes, awake; nested blocks: plain laws and walks. awake; SyntaxDepthLimit: the walks. Arguments opened: a slice of integers, a slice of nodes, a node. Layer 3, plain: subtrees' ends, children. End, Children of both, Equal of integers: the walks. SyntaxSubtrees: the walk. The package's tables and the library's own variable, from the row. Arguments opened: a slice of bytes. -/
import Derived.Test.YtnicnfchkdmieaaGreatDoorKe
import Derived.Test.YtnicnfchkdmieaaGreatDoorKh
import Derived.Test.YtnicnfchkdmieaaGreatDoorKa
import Derived.Test.YtnicnfchkdmieaaGreatDoorKb
import Derived.Test.YtnicnfchkdmieaaGreatDoorCards
import Derived.Test.YtnicnfchkdmieaaGreatDoorChecked
import Derived.ProofKit
import Derived.OpenShut
import Derived.SizedLaws
import Derived.SliceStrings
import Derived.Lib.SmallJoins
import Derived.ChangeSlices
import Derived.Shelf.Vars
import Derived.Deep.Slices
import Derived.ChangeSame
import Derived.Test.YtnicnfchkdmieaaGreatDoorRows
import Derived.LaidSub
import Derived.Lib.LaidTab
import Derived.Test.YtnicnfchkdmieaaGreatDoorByt
namespace Go.Proofs.YtnicnfchkdmieaaGreatDoor
open Go.RowKit
set_option linter.unusedVariables false
set_option linter.unusedSimpArgs false
attribute [local go_sem] ByteArray.mk_append_mk bs_get bs_cut bs_end

/-- What Program leaves: a valid program of the call's own. -/
def ProgPost (w : World) (e : Ending) (w' : World) : Prop := ∃ v ns, e = .returned v ∧ NodesI w' w.heap.size v ns ∧ (∀ t ∈ ns, NdG t) ∧ validL ns = true ∧ Below w.heap.size w w'
theorem NodesI.keepC {w w' : World} {B C : Nat} {v : Value} {ns : List Nd} (h : NodesI w B v ns) (hC : CSt w C) (hk : Keep C w w') : NodesI w' B v ns := by
  obtain ⟨a, cap, i, l, hc, _⟩ := hC
  exact own_grown h hk (fun g hg e => own_ch h hc (by rw [hg, e]))
theorem NodesI.slG {w : World} {B : Nat} {v : Value} {l : List Nd} (h : NodesI w B v l) (hs : ∀ t ∈ l, NdG t) : NSl w v l := h.sl (fun t ht => ⟨by have := (hs t ht).1; omega, (hs t ht).2⟩)
set_option maxRecDepth 100000 in
set_option maxHeartbeats 8000000 in
theorem program_any (v0 : Value) (l : List Int) (w : World) (h : IArg w v0 l) :
    Calls Tryz.prog 13 #[v0] w (ProgPost w) := by
  have HNW := Lib.hid (new_any v0 l w h)
  obtain ⟨a0, cap0, rfl, _⟩ := h
  obtain ⟨C, hCe⟩ : ∃ C, w.heap.size = C := ⟨_, rfl⟩
  unfold ProgPost
  rw [hCe] at HNW
  rw [hCe]
  clear hCe
  go_enter Tryz.func13, Tryz.ntmps13
  go_wp2_with fail
  ((with_reducible refine HNW.out.mono ?_))
  rintro e w1 ⟨rfl, hc1, hb1⟩
  have HC1 := Lib.hid hc1
  have HB1 := Lib.hid hb1
  have HN := Lib.hid (next_any C 5 w1 hc1 (by omega) (by omega))
  have hCP : C < w1.heap.size := hc1.lt
  clear hc1 hb1 HNW
  go_wp2_with fail
  ((with_reducible refine HN.out.mono ?_))
  rintro e w2 ⟨k2, rfl, hk2, hc2, hkk2⟩
  have HK2 := Lib.hid hkk2
  have HC2 := Lib.hid hc2
  have hk2' : (k2 : Int) < 5 := hk2
  clear hc2 hkk2 HN
  have HDE := Lib.hid (decl_2 C)
  unfold DeclOk at HDE
  go_wp2_with fail
  go_loopw [4, 5] (fun x i wr => ∃ (v : Value) (ns : List Nd) (q : Nat), v = x ∧ i = .int .i64 q ∧ q ≤ 5 ∧ ns.length ≤ (5 - q) * 54533 ∧ Hid (NodesI wr w1.heap.size v ns) ∧ Hid (∀ t ∈ ns, NdG t) ∧ Hid (CSt wr C) ∧ Hid (Keep C w1 wr)) (fun _ i _ => (intOf i).toNat)
  case atStart => exact ⟨_, [], k2 + 1, rfl, by go_num, by omega, by simp, Lib.hid (NodesI.nil _ _), Lib.hid (by intro t ht; cases ht), HC2, HK2⟩
  case round =>
    clear HC2 HK2 HC1
    obtain ⟨v, ns, q, rfl, rfl, hq, hnl, HR, HG, HC, HK⟩ := hrel
    obtain ⟨w3, rfl⟩ : ∃ y : World, y = wr := ⟨_, rfl⟩
    by_cases hq0 : 0 < q
    · have hq1 : (0 : Int) < (q : Int) := by omega
      have HLF := Lib.hid (left_any C w3 HC.out)
      go_wp2_with fail
      ((with_reducible refine HLF.out.mono ?_))
      rintro e w4 ⟨lb, rfl, hc4, hkk4⟩
      have HR4 := Lib.hid (HR.out.keepC HC.out hkk4)
      have HK4 := Lib.hid (HK.out.trans hkk4)
      have HC4 := Lib.hid hc4
      clear hc4 hkk4 HR HK HC HLF
      cases lb with
      | false =>
        have HB9 : Hid (Below C w w4) := Lib.hid (HB1.out.trans (HK4.out.below (Nat.le_of_lt hCP) (Nat.le_refl _)))
        obtain ⟨vb, hvb⟩ : ∃ vb, Hid (validL ns = vb) := ⟨_, Lib.hid rfl⟩
        have HVL := Lib.hid (rvalid_is ns (fun t ht => by have := (HG.out t ht).1; omega) vb hvb v w4 (HR4.out.slG HG.out) (by omega))
        obtain ⟨av, cv, rfl⟩ := HR4.out.form
        have hsz9 : C ≤ w4.heap.size := Nat.le_trans (Nat.le_of_lt hCP) HK4.out.size
        cases vb with
        | true =>
          go_wp2_with fail
          ((with_reducible refine HVL.out.mono ?_))
          rintro e w9 ⟨rfl, hb9⟩
          have HR9 := Lib.hid ((HR4.out.below hb9).base (B' := C) (by omega))
          have HB10 := Lib.hid (HB9.out.trans (hb9.mono hsz9))
          clear hb9
          go_wp2_with fail
          go_ret
          exact ⟨_, ns, rfl, HR9.out, HG.out, hvb.out, HB10.out⟩
        | false =>
          go_wp2_with fail
          ((with_reducible refine HVL.out.mono ?_))
          rintro e w9 ⟨rfl, hb9⟩
          have HB10 := Lib.hid (HB9.out.trans (hb9.mono hsz9))
          clear hb9
          go_wp2_with fail
          go_ret
          exact ⟨_, [], rfl, NodesI.nil _ _, (by intro t ht; cases ht), (by decide), HB10.out⟩
      | true =>
        have HDD := Lib.hid (HDE.out w4 HC4.out)
        unfold GPost at HDD
        go_wp2_with fail
        ((with_reducible refine HDD.out.mono ?_))
        rintro e w5 ⟨v5, rfl, hv5, hc5, hk5⟩
        have HR5 := Lib.hid (HR4.out.keepC HC4.out hk5)
        have HK5 := Lib.hid (HK4.out.trans hk5)
        have HC5 := Lib.hid hc5
        obtain ⟨l2, j1, j2, j3, _⟩ := hv5
        have HY := Lib.hid j1
        have HG2 := Lib.hid j2
        have hsz : w1.heap.size ≤ w5.heap.size := HK5.out.size
        clear hc5 hk5 j1 j2 HR4 HK4 HC4 HDD
        go_wp2_with (at_builtin; refine wpList_append_nodes rfl _ _ rfl w1.heap.size v ns rfl HR5.out _ v5 l2 rfl HY.out (by omega) hsz ?_; intro v6 w6 ho hg; have HO := Lib.hid ho; have HGR := Lib.hid hg; clear ho hg)
        have HC6 := Lib.hid (HC5.out.grown HGR.out (fun g h => by have := own_row HR5.out h; omega))
        have HK6 := Lib.hid (HK5.out.grown HGR.out (fun g h => own_row HR5.out h))
        have HG6 : Hid (∀ t ∈ ns ++ l2, NdG t) := Lib.hid (fun t ht => by
          rcases List.mem_append.1 ht with h | h
          · exact HG.out t h
          · exact HG2.out t h)
        have hln : (ns ++ l2).length ≤ (5 - (q - 1)) * 54533 := by rw [List.length_append]; omega
        clear HGR HY HR5 HC5 HK5 HG HG2
        go_wp2_with fail
        go_roundw
        case rel => first | exact ⟨ns ++ l2, q - 1, by go_num, by omega, hln, HO, HG6, HC6, HK6⟩ | exact ⟨_, ns ++ l2, q - 1, rfl, by go_num, by omega, hln, HO, HG6, HC6, HK6⟩
        case measure => simp [intOf]; omega
    · have hq1 : ¬ (0 : Int) < (q : Int) := by omega
      have HB9 : Hid (Below C w w3) := Lib.hid (HB1.out.trans (HK.out.below (Nat.le_of_lt hCP) (Nat.le_refl _)))
      obtain ⟨vb, hvb⟩ : ∃ vb, Hid (validL ns = vb) := ⟨_, Lib.hid rfl⟩
      have HVL := Lib.hid (rvalid_is ns (fun t ht => by have := (HG.out t ht).1; omega) vb hvb v w3 (HR.out.slG HG.out) (by omega))
      obtain ⟨av, cv, rfl⟩ := HR.out.form
      have hsz9 : C ≤ w3.heap.size := Nat.le_trans (Nat.le_of_lt hCP) HK.out.size
      cases vb with
      | true =>
        go_wp2_with fail
        ((with_reducible refine HVL.out.mono ?_))
        rintro e w9 ⟨rfl, hb9⟩
        have HR9 := Lib.hid ((HR.out.below hb9).base (B' := C) (by omega))
        have HB10 := Lib.hid (HB9.out.trans (hb9.mono hsz9))
        clear hb9
        go_wp2_with fail
        go_ret
        exact ⟨_, ns, rfl, HR9.out, HG.out, hvb.out, HB10.out⟩
      | false =>
        go_wp2_with fail
        ((with_reducible refine HVL.out.mono ?_))
        rintro e w9 ⟨rfl, hb9⟩
        have HB10 := Lib.hid (HB9.out.trans (hb9.mono hsz9))
        clear hb9
        go_wp2_with fail
        go_ret
        exact ⟨_, [], rfl, NodesI.nil _ _, (by intro t ht; cases ht), (by decide), HB10.out⟩
end Go.Proofs.YtnicnfchkdmieaaGreatDoor
namespace Go.Proofs.YtnicnfchkdmieaaGreatDoor
open Go.RowKit
set_option linter.unusedVariables false
set_option linter.unusedSimpArgs false
attribute [local go_sem] ByteArray.mk_append_mk bs_get bs_cut bs_end

theorem nd_eqIn (a b d a' b' d' : Int) (s s' : List UInt8) (w : World) : (Op.equalIn 10000 42 (.agg #[.int .i64 a, .int .u64 b, .string ⟨s.toArray⟩, .int .i64 d]) (.agg #[.int .i64 a', .int .u64 b', .string ⟨s'.toArray⟩, .int .i64 d'])).run Tryz.prog w = .ok (a == a' && b == b' && s == s' && d == d') w := by
  have hS : Tryz.prog.underlying 42 = some (.struct (Tryz.prog.fieldsOf 42)) := by kernel_rfl
  have hp : Tryz.prog.stoodInHeld 42 = false := by kernel_rfl
  rw [show (10000 : Nat) = 9999 + 1 from rfl, run_equalIn_agg w 9999 42 _ _ hS hp]
  simp only [Program.fieldsOf, Tryz.underlying42]
  have u3 := Tryz.underlying3
  have u5 := Tryz.underlying35
  have u9 := Tryz.underlying9
  go_simp
  by_cases h1 : a = a' <;> by_cases h2 : b = b' <;> by_cases h3 : s = s' <;> by_cases h4 : d = d' <;> simp [h1, h2, h3, h4]
theorem nd_neq (a b d a' b' d' : Int) (s s' : List UInt8) (w : World) : (binOp .neq 42 (.agg #[.int .i64 a, .int .u64 b, .string ⟨s.toArray⟩, .int .i64 d]) (.agg #[.int .i64 a', .int .u64 b', .string ⟨s'.toArray⟩, .int .i64 d'])).run Tryz.prog w = .ok (.bool (!(a == a' && b == b' && s == s' && d == d'))) w := by
  rw [run_neq_struct, nd_eqIn]; rfl
theorem nd_same (a b d : Int) (s : List UInt8) (w : World) : (binOp .neq 42 (.agg #[.int .i64 a, .int .u64 b, .string ⟨s.toArray⟩, .int .i64 d]) (.agg #[.int .i64 a, .int .u64 b, .string ⟨s.toArray⟩, .int .i64 d])).run Tryz.prog w = .ok (.bool false) w := by
  rw [nd_neq]; simp
theorem NSl.cells {w : World} {a : Option Addr} {n c : Nat} {l : List Nd} (h : NSl w (.slice a n c) l) (i : Nat) (hi : i < l.length) : ∃ b off, a = some ⟨b, off, none⟩ ∧ TAt w b (off + i * 4) l[i] := by
  obtain ⟨⟨a', cap', hv, hc⟩, _⟩ := h
  injection hv with e1 _ _
  subst e1
  obtain ⟨b, off, e, hk⟩ := hc (by rintro rfl; simp at hi)
  exact ⟨b, off, e, hk i hi⟩
set_option maxRecDepth 100000 in
set_option maxHeartbeats 4000000 in
theorem equal_nodes (va vb : Value) (l : List Nd) (w : World) (h1 : NSl w va l) (h2 : NSl w vb l) (hl : l.length ≤ 9223372036854770000) :
    Calls Tryz.prog 25 #[va, vb] w fun e w' => e = .returned (.bool true) ∧ ∃ n, w' = w.drewN n := by
  have H1 := h1
  have H2 := h2
  obtain ⟨⟨a1, p1, rfl, hc1⟩, _⟩ := H1
  obtain ⟨⟨a2, p2, rfl, hc2⟩, _⟩ := H2
  have K1 := Lib.hid h1.cells
  have K2 := Lib.hid h2.cells
  clear h1 h2 hc1 hc2
  go_enter Tryz.func25, Tryz.ntmps25
  go_wp2_with fail
  go_loopw [5] (fun i wr => ∃ k : Nat, i = .int .i64 k ∧ k ≤ l.length ∧ ∃ n, wr = w.drewN n) (fun i _ => l.length - (intOf i).toNat)
  case atStart => exact ⟨0, rfl, Nat.zero_le _, 0, rfl⟩
  case round =>
    obtain ⟨k, rfl, hk, n, rfl⟩ := hrel
    by_cases hlt : k < l.length
    · obtain ⟨b1, o1, e1, c0, c1, c2, c3⟩ := K1.out k hlt
      obtain ⟨b2, o2, e2, d0, d1, d2, d3⟩ := K2.out k hlt
      subst e1 e2
      generalize l[k] = t at *
      obtain ⟨tk, tn, ts, tp⟩ := t
      simp only at c0 c1 c2 c3 d0 d1 d2 d3
      have hN := nd_same tk tn tp ts
      go_wp2_with fail
      go_quiet (fail)
      go_wp2_with fail
      go_roundw
      case rel => exact ⟨k + 1, by go_num, by omega, _, rfl⟩
      case measure => simp [intOf]; omega
    · go_wp2_with fail
      go_ret
      exact ⟨rfl, n, rfl⟩
def aw1 : List UInt8 := [78, 97, 109, 101, 32, 40, 95, 65, 68, 82, 44, 32, 49, 54, 41]
def aw2 : List UInt8 := [68, 101, 118, 105, 99, 101, 32, 40, 69, 67, 48, 41, 32, 123]
def awP : List Nd := [⟨13, 0, [], 2⟩, ⟨3, 0, [95, 65, 68, 82], 0⟩, ⟨1, 16, [], 0⟩]
theorem aw1_is : parseL aw1 = (awP, 0, 0) := by decide +kernel
theorem aw2_is : parseL aw2 = ([], 14, 2) := by decide +kernel
theorem awP_is : validL awP = true := by decide +kernel
def rep (x : List UInt8) : Nat → List UInt8
  | 0 => []
  | k + 1 => rep x k ++ x
def preD (d : Bool) : List UInt8 := if d = true then [68, 101, 118, 105, 99, 101, 32, 40, 65, 41, 32, 123] else [83, 99, 111, 112, 101, 32, 40, 94, 65, 41, 32, 123]
def nestT (k : Nat) (d : Bool) : List UInt8 := rep (preD d) k ++ [69, 118, 101, 110, 116, 32, 40, 69, 41] ++ rep [125] k
def nestB (k : Nat) (d : Bool) : Bool := let x := parseL (nestT k d)
  if 32 < 2 * k + 2 then x == ([], 0, 11) else x.2.2 == 0 && validL x.1 && x.1.length == 3 * k + 2
end Go.Proofs.YtnicnfchkdmieaaGreatDoor
namespace Go.Proofs.YtnicnfchkdmieaaGreatDoor
open Go.RowKit
set_option linter.unusedVariables false
set_option linter.unusedSimpArgs false
attribute [local go_sem] ByteArray.mk_append_mk bs_get bs_cut bs_end

theorem parse_is (s : List UInt8) (ns : List Nd) (pos er m : Int) (H : Hid (parseL s = (ns, pos, er))) (w : World) (hm : SynG m w) (hs : s.length ≤ 4611686018427380000) :
    Calls Tryz.prog 24 #[.string ⟨s.toArray⟩] w fun e w' => ∃ v, e = .returned (.tuple #[v, .int .i64 pos, .int .i64 er]) ∧ NodesI w' w.heap.size v ns ∧ Below w.heap.size w w' := by
  have := parse_syn s m w hm hs
  unfold ParsePost at this
  rw [H.out] at this
  exact this
theorem valid_is (m : Int) (p : List Nd) (b : Bool) (H : Hid (validL p = b)) (v : Value) (w : World) (hv : NSl w v p) (hm : SynG m w) (hl : p.length ≤ 9223372036854775000) :
    Calls Tryz.prog 16 #[v] w fun e w' => e = .returned (.bool b) ∧ Below w.heap.size w w' := by
  have := valid_any m p v w hv hm hl
  rw [H.out] at this
  exact this
theorem awP_nds : NdsOk awP := by
  intro t ht
  simp only [awP, List.mem_cons, List.not_mem_nil, or_false] at ht
  rcases ht with rfl | rfl | rfl <;> simp
abbrev awO : Obj := .cells #[.int .i64 13, .int .u64 0, .string ⟨#[]⟩, .int .i64 2, .int .i64 3, .int .u64 0, .string ⟨#[95, 65, 68, 82]⟩, .int .i64 0, .int .i64 1, .int .u64 16, .string ⟨#[]⟩, .int .i64 0] 42
theorem aw_lit (w : World) : NSl (w.alloc awO) (.slice (some ⟨w.heap.size, 0, none⟩) 3 3) awP := by
  rw [show awO = .cells (tcI awP).toArray 42 from rfl]
  refine ⟨⟨_, _, rfl, fun _ => ⟨w.heap.size, 0, rfl, fun i hi => ?_⟩⟩, awP_nds⟩
  obtain ⟨k0, k1, k2, k3⟩ := tcI_at awP i hi
  have h := heap_alloc_new w (.cells (tcI awP).toArray 42)
  rw [Nat.zero_add]
  refine ⟨?_, ?_, ?_, ?_⟩
  · rw [cell_of_row _ _ _ _ _ (0, 0) h]; simpa using k0
  · rw [cell_of_row _ _ _ _ _ (0, 0) h]; simpa using k1
  · rw [cell_of_row _ _ _ _ _ (0, 0) h]; simpa using k2
  · rw [cell_of_row _ _ _ _ _ (0, 0) h]; simpa using k3
set_option maxRecDepth 100000 in
set_option maxHeartbeats 4000000 in
theorem awake_any (m : Int) (w : World) (hm : SynG m w) : Calls Tryz.prog 9 #[] w fun e w' => e = .returned (.bool true) ∧ Below w.heap.size w w' := by
  have HP1 := Lib.hid (parse_is aw1 awP 0 0 m (Lib.hid aw1_is) w hm (by decide))
  have HG := Lib.hid hm
  unfold aw1 at HP1
  clear hm
  go_enter Tryz.func9, Tryz.ntmps9
  go_wp2_with fail
  ((with_reducible refine HP1.out.mono ?_))
  rintro e w1 ⟨v1, rfl, hv1, hb1⟩
  obtain ⟨a1, c1, rfl⟩ := hv1.form
  have HG1 := Lib.hid (HG.out.below hb1 HG.out.low)
  have HN1 := Lib.hid (hv1.sl awP_nds)
  have HB1 := Lib.hid hb1
  have HP2 := Lib.hid (parse_is aw2 [] 14 2 m (Lib.hid aw2_is) w1 HG1.out (by decide))
  unfold aw2 at HP2
  clear hv1 hb1 HP1 HG
  go_wp2_with fail
  ((with_reducible refine HP2.out.mono ?_))
  rintro e w2 ⟨v2, rfl, hv2, hb2⟩
  obtain ⟨a2, c2, rfl⟩ := hv2.form
  have HG2 := Lib.hid (HG1.out.below hb2 HG1.out.low)
  have HN2 := Lib.hid (HN1.out.below hb2)
  have HB2 : Hid (Below w.heap.size w w2) := Lib.hid (bel_then HB1.out (Nat.le_refl _) hb2)
  have HLT := Lib.hid (aw_lit w2)
  have hal : Below w2.heap.size w2 (w2.alloc awO) := (Below.refl _ _).alloc (Nat.le_refl _) _
  have HN3 := Lib.hid (HN2.out.below hal)
  have HG3 := Lib.hid (HG2.out.below hal HG2.out.low)
  have HB3 : Hid (Below w.heap.size w (w2.alloc awO)) := Lib.hid (bel_then HB2.out (Nat.le_refl _) hal)
  have HEQ := Lib.hid (equal_nodes _ _ awP _ HN3.out HLT.out (by decide))
  clear hv2 hb2 HP2 HG1 HN1 HB1 hal
  go_wp2_with fail
  ((with_reducible refine HEQ.out.mono ?_))
  rintro e w4 ⟨rfl, n, rfl⟩
  have hdr : Below (w2.alloc awO).heap.size (w2.alloc awO) ((w2.alloc awO).drewN n) := below_drewN (Below.refl _ _) n
  have HVA := Lib.hid (valid_is m awP true (Lib.hid awP_is) _ _ (HN3.out.below hdr) (HG3.out.below hdr HG3.out.low) (by decide))
  have HB4 : Hid (Below w.heap.size w ((w2.alloc awO).drewN n)) := Lib.hid (below_drewN HB3.out n)
  clear hdr
  go_wp2_with fail
  ((with_reducible refine HVA.out.mono ?_))
  rintro e w5 ⟨rfl, hb5⟩
  have HB5 : Hid (Below w.heap.size w w5) := Lib.hid (bel_then HB4.out (Nat.le_refl _) hb5)
  clear hb5
  go_wp2_with fail
  go_ret
  exact ⟨rfl, HB5.out⟩
end Go.Proofs.YtnicnfchkdmieaaGreatDoor
namespace Go.Proofs.YtnicnfchkdmieaaGreatDoor
open Go.ChangeShapes Go.WideShapes Go.Deep Go.RowKit Go.Joins
set_option linter.unusedVariables false
set_option linter.unusedSimpArgs false

theorem cellsT_int : Tryz.prog.cellsOf 3 = 1 := by kernel_rfl
theorem bytesT_int : Tryz.prog.bytesOf 3 = 8 := by kernel_rfl
theorem add_zero_addr' (b o k : Nat) : (⟨b, o, none⟩ : Addr).add k = ⟨b, o + k, none⟩ := by by_cases h : k = 0 <;> simp [Addr.add, h]
theorem open_intsV {H : Type} {enc : TypeId × Value → H} {W : World} {fuel : Nat} {v : Value} {y : DataW H × List MemPlace} (h : DataW.trod enc Tryz.prog W 0 (fun _ => true) true fuel 27 [v] = some y) (hw : ∀ m ∈ y.1.weights Tryz.prog 27, m ≤ reachBytes) :
    ∃ l, IArg W v l := by
  rcases open_ints Tryz.underlying27 Tryz.underlying3 cellsT_int h with ⟨hcs, hx⟩ | ⟨a, len, cap, zs, hcs, _, hl, hm, hz, hx, hcell, hwz⟩
  · cases hcs
    exact ⟨[], none, 0, rfl, by simp, (fun h => absurd rfl h), by simp⟩
  · cases hcs
    subst hx
    simp only [if_true] at hz
    have h1 : ((lits (H := H) .i64 (zs.take len)).length + (lits (H := H) .i64 (zs.drop len)).length) * Tryz.prog.bytesOf 3 ≤ reachBytes := by
      apply hw
      simp only [DataW.weights, Tryz.underlying27]
      exact List.mem_cons_self ..
    rw [bytesT_int] at h1
    simp only [lits, List.length_map, List.length_take, List.length_drop] at h1
    have hr : reachBytes = 140737488351232 := rfl
    rw [hr] at h1
    have hlen : (zs.take len).length = len := by simp; omega
    refine ⟨zs.take len, some a, cap, by rw [hlen], by rw [hlen]; omega, (fun hn => ?_), fun x hx => bounds_i64 (hwz x (List.mem_of_mem_take hx))⟩
    have hpos : 0 < len := by
      rcases Nat.eq_zero_or_pos len with h0 | h0
      · subst h0; simp at hn
      · exact h0
    obtain ⟨b, o, spot⟩ := a
    have hsp : spot = none := by
      have h1 := hcell 0 (by omega)
      simpa [Addr.add] using World.cell?_spot h1
    subst hsp
    refine ⟨b, o, rfl, fun k hk => ?_⟩
    rw [hlen] at hk
    have h2 := hcell k (by omega)
    rw [add_zero_addr'] at h2
    rw [h2]
    simp [List.getD, List.getElem?_eq_getElem (show k < zs.length by omega)]
set_option maxRecDepth 100000 in
theorem open_intsA {H : Type} {enc : TypeId × Value → H} {W : World} {b0 : Nat} {v : Value} {d : DataW H} {p : List MemPlace} (hv : Value.okWide Tryz.prog W .any b0 27 v) (h : DataW.Trod enc Tryz.prog W 0 (fun _ => true) true 27 v d p) (hw : ∀ m ∈ d.weights Tryz.prog 27, m ≤ reachBytes) :
    ∃ l, IArg W v l := by
  obtain ⟨a0, len, cap, rfl⟩ := okWide_slice Tryz.underlying27 hv
  obtain ⟨fuel, hf⟩ := h
  exact open_intsV (by simpa [Value.cells] using hf) hw
theorem cellsNd : Tryz.prog.cellsOf 42 = 4 := by kernel_rfl
theorem cellsNint : Tryz.prog.cellsOf 3 = 1 := by kernel_rfl
theorem cellsNu64 : Tryz.prog.cellsOf 35 = 1 := by kernel_rfl
theorem cellsNstr : Tryz.prog.cellsOf 9 = 1 := by kernel_rfl
theorem bytesNd : Tryz.prog.bytesOf 42 = 40 := by kernel_rfl
theorem bulk_mem {H : Type} : ∀ (l : List (DataW H)) (d : DataW H), d ∈ l → Rows.uptoBulk d ≤ Rows.uptoBulkAll l
  | [], d, h => by cases h
  | x :: r, d, h => by
    rw [Rows.uptoBulkAll]
    rcases List.mem_cons.1 h with rfl | h
    · omega
    · have := bulk_mem r d h; omega
theorem bulk_len {H : Type} : ∀ (l : List (DataW H)), l.length ≤ Rows.uptoBulkAll l
  | [] => by simp
  | x :: r => by
    have h1 : 1 ≤ Rows.uptoBulk x := by
      cases x with
      | lit l => cases l <;> simp [Rows.uptoBulk]
      | _ => simp [Rows.uptoBulk]
    have := bulk_len r
    rw [Rows.uptoBulkAll, List.length_cons]
    omega
set_option maxRecDepth 100000 in
theorem nd_cells {H : Type} {enc : TypeId × Value → H} {W : World} {n : Nat} {cs : List Value} {x : DataW H × List MemPlace} (h : DataW.trod enc Tryz.prog W 0 (fun _ => true) true n 42 cs = some x) :
    ∃ o : Nd, cs = [.int .i64 o.kind, .int .u64 o.num, .string ⟨o.str.toArray⟩, .int .i64 o.pos] ∧ 0 ≤ o.num ∧ o.str.length ≤ Rows.uptoBulk x.1 ∧ (-9223372036854775808 ≤ o.kind ∧ o.kind ≤ 9223372036854775807) ∧ (-9223372036854775808 ≤ o.pos ∧ o.pos ≤ 9223372036854775807) := by
  obtain ⟨xs, n', _, hx, hlen, hxl, hf⟩ := DataW.trod_struct Tryz.underlying42 h
  rw [cellsNd] at hlen
  match cs, hlen with
  | [c0, c1, c2, c3], _ =>
    have hxl' : xs.length = 4 := hxl
    match xs, hxl' with
    | [y0, y1, y2, y3], _ =>
      have h0 : DataW.trod enc Tryz.prog W 0 (fun _ => true) true n' 3 (List.take (Tryz.prog.cellsOf 3) [c0, c1, c2, c3]) = some y0 := hf 0 _ rfl
      have h1 : DataW.trod enc Tryz.prog W 0 (fun _ => true) true n' 35 (List.take (Tryz.prog.cellsOf 35) [c1, c2, c3]) = some y1 := hf 1 _ rfl
      have h2 : DataW.trod enc Tryz.prog W 0 (fun _ => true) true n' 9 (List.take (Tryz.prog.cellsOf 9) [c2, c3]) = some y2 := hf 2 _ rfl
      have h3 : DataW.trod enc Tryz.prog W 0 (fun _ => true) true n' 3 (List.take (Tryz.prog.cellsOf 3) [c3]) = some y3 := hf 3 _ rfl
      rw [cellsNint] at h0 h3
      rw [cellsNu64] at h1
      rw [cellsNstr] at h2
      obtain ⟨a, e0, _, wa⟩ := DataW.trod_int Tryz.underlying3 h0
      obtain ⟨b, e1, _, wb⟩ := DataW.trod_int Tryz.underlying35 h1
      obtain ⟨s, e2, hy2, _⟩ := DataW.trod_string Tryz.underlying9 h2
      obtain ⟨d, e3, _, wd⟩ := DataW.trod_int Tryz.underlying3 h3
      simp at e0 e1 e2 e3
      refine ⟨⟨a, b, s.data.toList, d⟩, by rw [e0, e1, e2, e3], (bounds_u64 wb).1, ?_, bounds_i64 wa, bounds_i64 wd⟩
      rw [hx]
      simp only [List.map_cons, List.map_nil, Rows.uptoBulk, Rows.uptoBulkAll, hy2]
      omega
set_option maxRecDepth 100000 in
theorem open_nodes {H : Type} {enc : TypeId × Value → H} {W : World} {base : Nat} {v : Value} {d : DataW H} {p : List MemPlace} (hv : Value.okWide Tryz.prog W .any base 33 v) (h : DataW.Trod enc Tryz.prog W 0 (fun _ => true) true 33 v d p) (hw : Rows.uptoBulk d ≤ 1048576) :
    ∃ l : List Nd, NSl W v l ∧ l.length ≤ 1048576 ∧ ∀ t ∈ l, t.str.length ≤ 1048576 := by
  obtain ⟨a0, len, cap, rfl⟩ := okWide_slice Tryz.underlying33 hv
  obtain ⟨fuel, hf⟩ := h
  rcases open_slice Tryz.underlying33 hf with ⟨hcs, _⟩ | ⟨a, len', cap', m, n, D, Pl, hcs, hb, hl, hm, hmm, hx, hi⟩
  · simp [Value.cells] at hcs
    obtain ⟨rfl, rfl, rfl⟩ := hcs
    exact ⟨[], ⟨⟨none, 0, rfl, fun h => absurd rfl h⟩, by simp⟩, by simp, by simp⟩
  · simp [Value.cells] at hcs
    obtain ⟨rfl, rfl, rfl⟩ := hcs
    simp only [if_true] at hmm
    rw [cellsNd] at hi
    injection hx with hx _
    have hall : Rows.uptoBulkAll ((List.range len).map D) ≤ 1048576 := by
      rw [hx, Rows.uptoBulk] at hw; omega
    have hlen1 : len ≤ 1048576 := by
      have := bulk_len ((List.range len).map D)
      rw [List.length_map, List.length_range] at this
      omega
    have key : ∀ i, ∃ o : Nd, i < len → (W.cell? ((a.add (i * 4)).add 0) = some (.int .i64 o.kind) ∧ W.cell? ((a.add (i * 4)).add 1) = some (.int .u64 o.num) ∧ W.cell? ((a.add (i * 4)).add 2) = some (.string ⟨o.str.toArray⟩) ∧ W.cell? ((a.add (i * 4)).add 3) = some (.int .i64 o.pos)) ∧ 0 ≤ o.num ∧ o.str.length ≤ 1048576 := by
      intro i
      by_cases hil : i < len
      · obtain ⟨cs', hc, ht⟩ := hi i (by omega)
        obtain ⟨o, rfl, hn, hwt, _⟩ := nd_cells ht
        obtain ⟨_, _, hat⟩ := World.cells?_some hc
        refine ⟨o, fun _ => ⟨⟨hat 0 (by omega), hat 1 (by omega), hat 2 (by omega), hat 3 (by omega)⟩, hn, ?_⟩⟩
        have := bulk_mem _ (D i) (List.mem_map.2 ⟨i, List.mem_range.2 hil, rfl⟩)
        exact Nat.le_trans hwt (Nat.le_trans this hall)
      · exact ⟨⟨0, 0, [], 0⟩, fun h => absurd h hil⟩
    obtain ⟨f, hfo⟩ : ∃ f : Nat → Nd, ∀ i, i < len → (W.cell? ((a.add (i * 4)).add 0) = some (.int .i64 (f i).kind) ∧ W.cell? ((a.add (i * 4)).add 1) = some (.int .u64 (f i).num) ∧ W.cell? ((a.add (i * 4)).add 2) = some (.string ⟨(f i).str.toArray⟩) ∧ W.cell? ((a.add (i * 4)).add 3) = some (.int .i64 (f i).pos)) ∧ 0 ≤ (f i).num ∧ (f i).str.length ≤ 1048576 := ⟨fun i => (key i).choose, fun i => (key i).choose_spec⟩
    have hlen : ((List.range len).map f).length = len := by simp
    refine ⟨(List.range len).map f, ⟨⟨some a, cap, by rw [hlen], fun hne => ?_⟩, ?_⟩, by rw [hlen]; omega, ?_⟩
    · have hpos : 0 < len := by
        rcases Nat.eq_zero_or_pos len with h0 | h0
        · subst h0; simp at hne
        · exact h0
      obtain ⟨ab, ao, spot⟩ := a
      have hsp : spot = none := by
        have h1 := (hfo 0 hpos).1.1
        simpa [Addr.add] using World.cell?_spot h1
      subst hsp
      refine ⟨ab, ao, rfl, fun i hil => ?_⟩
      rw [hlen] at hil
      obtain ⟨⟨h0, h1, h2, h3⟩, _⟩ := hfo i hil
      have e : ∀ j, (⟨ab, ao, none⟩ : Addr).add j = ⟨ab, ao + j, none⟩ := fun j => by by_cases hj : j = 0 <;> simp [Addr.add, hj]
      have e2 : ∀ j, (⟨ab, ao + i * 4, none⟩ : Addr).add j = ⟨ab, ao + i * 4 + j, none⟩ := fun j => by by_cases hj : j = 0 <;> simp [Addr.add, hj]
      rw [e, e2] at h0 h1 h2 h3
      simp only [List.getElem_map, List.getElem_range]
      exact ⟨h0, h1, h2, h3⟩
    · intro t ht
      obtain ⟨i, hi', rfl⟩ := List.mem_map.1 ht
      exact ⟨by have := (hfo i (List.mem_range.1 hi')).2.2; omega, (hfo i (List.mem_range.1 hi')).2.1⟩
    · intro t ht
      obtain ⟨i, hi', rfl⟩ := List.mem_map.1 ht
      exact (hfo i (List.mem_range.1 hi')).2.2
/-- A node as a value. -/
def ndV (t : Nd) : Value := .agg #[.int .i64 t.kind, .int .u64 t.num, .string ⟨t.str.toArray⟩, .int .i64 t.pos]
set_option maxRecDepth 100000 in
theorem open_node {H : Type} {enc : TypeId × Value → H} {W : World} {b0 : Nat} {v : Value} {d : DataW H} {p : List MemPlace} (hv : Value.okWide Tryz.prog W .any b0 42 v) (h : DataW.Trod enc Tryz.prog W 0 (fun _ => true) true 42 v d p) (hw : Rows.uptoBulk d ≤ 1048576) :
    ∃ t : Nd, v = ndV t ∧ 0 ≤ t.num ∧ t.num ≤ 18446744073709551615 ∧ t.str.length ≤ 1048576 ∧ (-9223372036854775808 ≤ t.kind ∧ t.kind ≤ 9223372036854775807) ∧ (-9223372036854775808 ≤ t.pos ∧ t.pos ≤ 9223372036854775807) := by
  obtain ⟨c0, c1, c2, c3, y0, y1, y2, y3, n, rfl, rfl, rfl, h0, h1, h2, h3⟩ := open_agg4 Tryz.underlying42 (by kernel_rfl) (by kernel_rfl) hv h
  obtain ⟨k, e0, _, wk⟩ := DataW.trod_int Tryz.underlying3 h0
  obtain ⟨m, e1, _, wm⟩ := DataW.trod_int Tryz.underlying35 h1
  obtain ⟨s, e2, x2, _⟩ := DataW.trod_string Tryz.underlying9 h2
  obtain ⟨o, e3, _, wo⟩ := DataW.trod_int Tryz.underlying3 h3
  simp at e0 e1 e2 e3
  subst e0 e1 e2 e3
  obtain ⟨b1, b2⟩ := bounds_u64 wm
  have hl : s.data.toList.length ≤ 1048576 := by
    simp only [List.map_cons, List.map_nil, Rows.uptoBulk, Rows.uptoBulkAll, x2] at hw
    omega
  exact ⟨⟨k, m, s.data.toList, o⟩, rfl, b1, b2, hl, bounds_i64 wk, bounds_i64 wo⟩
end Go.Proofs.YtnicnfchkdmieaaGreatDoor
namespace Go.Proofs.YtnicnfchkdmieaaGreatDoor
open Go.RowKit
set_option linter.unusedVariables false

/-- What is left behind so many subtrees. -/
def endL : Nat → List Nd → Option (List Nd)
  | 0, r => some r
  | _ + 1, [] => none
  | o + 1, n :: r => if 0 ≤ n.pos then endL (o + n.pos.toNat) r else none
theorem endL_zero (r : List Nd) : endL 0 r = some r := by cases r <;> rfl
theorem endL_cons {o : Nat} {n : Nd} {r : List Nd} (h : 0 ≤ n.pos) : endL (o + 1) (n :: r) = endL (o + n.pos.toNat) r := by rw [endL, if_pos h]
theorem kids_len {n : Nd} {ks : List UInt8} (h : kidsK n = some ks) : 0 ≤ n.pos ∧ n.pos.toNat = ks.length := by
  unfold kidsK at h
  split at h
  · split at h
    · injection h with h; subst h; rw [List.length_replicate]; omega
    · cases h
  split at h
  · split at h
    · injection h with h; subst h; rw [List.length_replicate]; omega
    · cases h
  split at h
  · next h3 => injection h with h; subst h; rw [h3.2]; exact ⟨by decide, rfl⟩
  split at h
  · next h2 => injection h with h; subst h; omega
  · cases h
theorem endL_any (p : List Nd) : ∀ (d : Nat) (b : Bool) (k : UInt8) (i j : Nat), vAny p d b k i = some j → ∀ o, endL (o + 1) (p.drop i) = endL o (p.drop j)
  | 0, b, k, i, j, h => by rw [vAny] at h; cases h
  | d + 1, true, k, i, j, h => fun o => by
    rw [vAny] at h
    cases hn : p[i]? with
    | none => rw [hn] at h; cases h
    | some n =>
      rw [hn] at h
      simp only [] at h
      obtain ⟨hi, e⟩ := List.getElem?_eq_some_iff.1 hn
      split at h
      · next hx =>
        rw [List.drop_eq_getElem_cons hi, e, endL_cons hx.2.2.2]
        have key : ∀ (m i j o : Nat), nextN (vAny p d false k) m i = some j → endL (o + m) (p.drop i) = endL o (p.drop j) := by
          intro m
          induction m with
          | zero => intro i j o h; rw [nextN] at h; injection h with h; rw [h]; rfl
          | succ m ih =>
            intro i j o h
            rw [nextN] at h
            cases hv : vAny p d false k i with
            | none => rw [hv] at h; cases h
            | some q =>
              rw [hv] at h
              rw [← Nat.add_assoc, endL_any p d false k i q hv (o + m)]
              exact ih q j o h
        exact key _ _ _ _ h
      · cases h
  | d + 1, false, k, i, j, h => fun o => by
    rw [vAny] at h
    cases hn : p[i]? with
    | none => rw [hn] at h; cases h
    | some n =>
      rw [hn] at h
      simp only [] at h
      obtain ⟨hi, e⟩ := List.getElem?_eq_some_iff.1 hn
      split at h
      · cases hk : kidsK n with
        | none => rw [hk] at h; cases h
        | some ks =>
          rw [hk] at h
          simp only [] at h
          obtain ⟨k1, k2⟩ := kids_len hk
          rw [List.drop_eq_getElem_cons hi, e, endL_cons k1, k2]
          have key : ∀ (ks : List UInt8) (i j o : Nat), nextK (fun k j => vAny p d (blkB k) k j) ks i = some j → endL (o + ks.length) (p.drop i) = endL o (p.drop j) := by
            intro ks
            induction ks with
            | nil => intro i j o h; rw [nextK] at h; injection h with h; rw [h]; rfl
            | cons k ks ih =>
              intro i j o h
              rw [nextK] at h
              cases hv : vAny p d (blkB k) k i with
              | none => rw [hv] at h; cases h
              | some q =>
                rw [hv] at h
                rw [List.length_cons, ← Nat.add_assoc, endL_any p d (blkB k) k i q hv (o + ks.length)]
                exact ih q j o h
          exact key _ _ _ _ h
      · cases h
theorem endL_split : ∀ (r : List Nd) (a b : Nat), endL (a + b) r = (endL a r).bind (endL b)
  | r, 0, b => by rw [Nat.zero_add, endL_zero]; rfl
  | [], a + 1, b => by rw [show a + 1 + b = (a + b) + 1 by omega]; rfl
  | n :: r, a + 1, b => by
    rw [show a + 1 + b = (a + b) + 1 by omega]
    by_cases h : 0 ≤ n.pos
    · rw [endL_cons h, endL_cons h, show a + b + n.pos.toNat = a + n.pos.toNat + b by omega]
      exact endL_split r _ b
    · rw [endL, if_neg h, endL, if_neg h]; rfl
theorem endL_drop : ∀ (r : List Nd) (o : Nat) (r' : List Nd), endL o r = some r' → ∃ k, o ≤ k ∧ k ≤ r.length ∧ r' = r.drop k
  | r, 0, r', h => by rw [endL_zero] at h; injection h with h; exact ⟨0, Nat.le_refl _, Nat.zero_le _, h.symm⟩
  | [], o + 1, r', h => by cases h
  | n :: r, o + 1, r', h => by
    rw [endL] at h
    split at h
    · obtain ⟨k, h1, h2, h3⟩ := endL_drop r _ r' h
      exact ⟨k + 1, by omega, by rw [List.length_cons]; omega, by rw [List.drop_succ_cons]; exact h3⟩
    · cases h
theorem top_end (p : List Nd) : ∀ (f i : Nat), i ≤ p.length → vTop p f i = true → ∃ m, endL m (p.drop i) = some []
  | 0, i, hi, h => by
    rw [vTop, decide_eq_true_eq] at h
    exact ⟨0, by rw [endL_zero, List.drop_eq_nil_iff.2 h]⟩
  | f + 1, i, hi, h => by
    rw [vTop] at h
    split at h
    · next hl => exact ⟨0, by rw [endL_zero, List.drop_eq_nil_iff.2 hl]⟩
    · cases hx : vAny p 32 false 68 i with
      | none => rw [hx] at h; cases h
      | some j =>
        rw [hx] at h
        obtain ⟨m, hm⟩ := top_end p f j (vAny_good p 32 false 68 i j hx).2 h
        exact ⟨m + 1, by rw [endL_any p 32 false 68 i j hx m]; exact hm⟩
theorem all_end (p : List Nd) (hv : validL p = true) : ∀ i, i ≤ p.length → ∃ m, endL m (p.drop i) = some []
  | 0, _ => by
    unfold validL at hv
    rw [Bool.and_eq_true] at hv
    exact top_end p p.length 0 (Nat.zero_le _) hv.2
  | i + 1, hi => by
    obtain ⟨m, hm⟩ := all_end p hv i (by omega)
    rw [List.drop_eq_getElem_cons (by omega)] at hm
    cases m with
    | zero => rw [endL_zero] at hm; injection hm with hm; cases hm
    | succ m =>
      rw [endL] at hm
      split at hm
      · exact ⟨_, hm⟩
      · cases hm
theorem one_end (p : List Nd) (hv : validL p = true) (i : Nat) (hi : i < p.length) : ∃ k, i < k ∧ k ≤ p.length ∧ endL 1 (p.drop i) = some (p.drop k) := by
  obtain ⟨m, hm⟩ := all_end p hv i (by omega)
  cases m with
  | zero => rw [endL_zero, List.drop_eq_getElem_cons hi] at hm; injection hm with hm; cases hm
  | succ m =>
    rw [show m + 1 = 1 + m by omega, endL_split] at hm
    cases h1 : endL 1 (p.drop i) with
    | none => rw [h1] at hm; cases hm
    | some r =>
      obtain ⟨k, k1, k2, rfl⟩ := endL_drop _ _ _ h1
      rw [List.length_drop] at k2
      exact ⟨i + k, by omega, by omega, by rw [List.drop_drop]⟩
/-- The index behind a subtree. -/
def endP (p : List Nd) (i : Nat) : Nat := p.length - ((endL 1 (p.drop i)).getD []).length
theorem endP_is {p : List Nd} {i k : Nat} (hk : k ≤ p.length) (h : endL 1 (p.drop i) = some (p.drop k)) : endP p i = k := by
  unfold endP
  rw [h, Option.getD_some, List.length_drop]
  omega
theorem end_ok {p : List Nd} (hv : validL p = true) {i : Nat} (hi : i < p.length) : i < endP p i ∧ endP p i ≤ p.length ∧ endL 1 (p.drop i) = some (p.drop (endP p i)) := by
  obtain ⟨k, h1, h2, h3⟩ := one_end p hv i hi
  rw [endP_is h2 h3]
  exact ⟨h1, h2, h3⟩
/-- Where a node's children start. -/
def stF (p : List Nd) (i : Nat) : Nat → Nat
  | 0 => i + 1
  | j + 1 => endP p (stF p i j)
theorem st_ok {p : List Nd} (hv : validL p = true) {i : Nat} (hi : i < p.length) : 0 ≤ p[i].pos ∧ ∀ j, j ≤ p[i].pos.toNat → stF p i j ≤ p.length ∧ endL (p[i].pos.toNat - j) (p.drop (stF p i j)) = some (p.drop (endP p i)) ∧ (j < p[i].pos.toNat → stF p i j < p.length) := by
  obtain ⟨h1, h2, h3⟩ := end_ok hv hi
  rw [List.drop_eq_getElem_cons hi, endL] at h3
  split at h3
  · next h0 =>
    rw [Nat.zero_add] at h3
    have hlt : ∀ m x, x ≤ p.length → endL (m + 1) (p.drop x) = some (p.drop (endP p i)) → x < p.length := by
      intro m x hx h
      rcases Nat.lt_or_ge x p.length with h4 | h4
      · exact h4
      · rw [List.drop_eq_nil_iff.2 h4] at h; cases h
    refine ⟨h0, fun j => ?_⟩
    induction j with
    | zero =>
      intro _
      refine ⟨hi, h3, fun hj => ?_⟩
      have h3' := h3
      obtain ⟨m, hm⟩ : ∃ m, p[i].pos.toNat = m + 1 := ⟨p[i].pos.toNat - 1, by omega⟩
      rw [hm] at h3'
      exact hlt m (i + 1) hi h3'
    | succ j ih =>
      intro hj
      obtain ⟨a1, a2, a3⟩ := ih (by omega)
      have a3 := a3 (by omega)
      obtain ⟨b1, b2, b3⟩ := end_ok hv a3
      have h4 : endL (p[i].pos.toNat - (j + 1)) (p.drop (stF p i (j + 1))) = some (p.drop (endP p i)) := by
        rw [show p[i].pos.toNat - j = 1 + (p[i].pos.toNat - (j + 1)) by omega, endL_split, b3] at a2
        exact a2
      refine ⟨b2, h4, fun hj2 => ?_⟩
      obtain ⟨m, hm⟩ : ∃ m, p[i].pos.toNat - (j + 1) = m + 1 := ⟨p[i].pos.toNat - (j + 1) - 1, by omega⟩
      rw [hm] at h4
      exact hlt m _ b2 h4
  · cases h3
theorem st_end {p : List Nd} (hv : validL p = true) {i : Nat} (hi : i < p.length) : stF p i p[i].pos.toNat = endP p i := by
  obtain ⟨_, h⟩ := st_ok hv hi
  obtain ⟨a1, a2, _⟩ := h _ (Nat.le_refl _)
  rw [Nat.sub_self, endL_zero] at a2
  injection a2 with a2
  have := congrArg List.length a2
  rw [List.length_drop, List.length_drop] at this
  have := (end_ok hv hi).2.1
  omega
/-- A node's children. -/
def kidsP (p : List Nd) (i m : Nat) : List Int := (List.range m).map fun j => (stF p i j : Int)
theorem kidsP_succ (p : List Nd) (i m : Nat) : kidsP p i (m + 1) = kidsP p i m ++ [(stF p i m : Int)] := by
  unfold kidsP; rw [List.range_succ, List.map_append]; rfl
theorem kidsP_len (p : List Nd) (i m : Nat) : (kidsP p i m).length = m := by unfold kidsP; simp
theorem kidsP_at (p : List Nd) (i m j : Nat) (h : j < m) : (kidsP p i m)[j]? = some (stF p i j : Int) := by
  unfold kidsP
  rw [List.getElem?_map, List.getElem?_range h]
  rfl
/-- End's and Children's values. -/
def endV (p : List Nd) (i : Int) : Int := if i < 0 ∨ (p.length : Int) ≤ i ∨ validL p = false then 0 else (endP p i.toNat : Nat)
def kidsV (p : List Nd) (i : Int) : List Int := if i < 0 ∨ (p.length : Int) ≤ i ∨ validL p = false then [] else kidsP p i.toNat ((p[i.toNat]?.map fun n => n.pos.toNat).getD 0)
end Go.Proofs.YtnicnfchkdmieaaGreatDoor
namespace Go.Proofs.YtnicnfchkdmieaaGreatDoor
open Go.RowKit
set_option linter.unusedVariables false
set_option linter.unusedSimpArgs false
attribute [local go_sem] ByteArray.mk_append_mk bs_get bs_cut bs_end

theorem NSl.cellsQ {w : World} {a : Option Addr} {n c : Nat} {l : List Nd} (h : NSl w (.slice a n c) l) (i : Nat) (hi : i < l.length) : ∃ b off, a = some ⟨b, off, none⟩ ∧ TAt w b (off + i * 4) l[i] := by
  obtain ⟨⟨a', cap', hv, hc⟩, _⟩ := h
  injection hv with e1 _ _
  subst e1
  obtain ⟨b, off, e, hk⟩ := hc (by rintro rfl; simp at hi)
  exact ⟨b, off, e, hk i hi⟩
theorem infoInt : (Tryz.prog.info? 3).map (fun i => (i.zero, i.size, i.bytes)) = some (some (.int .i64 0), 1, 8) := by kernel_rfl
/-- A row of integers of the call's own. -/
def IntsI (w : World) (B : Nat) (v : Value) (l : List Int) : Prop := w.ownsRow B 3 1 v l.length (l.map fun x => .int .i64 x)
theorem IntsI.nil (w : World) (B : Nat) : IntsI w B (.slice none 0 0) [] := ⟨rfl, .inl ⟨rfl, rfl⟩⟩
theorem IntsI.below {w w' : World} {B : Nat} {v : Value} {l : List Int} (h : IntsI w B v l) (hb : Below w.heap.size w w') : IntsI w' B v l := own_below h hb
theorem IntsI.form {w : World} {B : Nat} {v : Value} {l : List Int} (h : IntsI w B v l) : ∃ a c, v = .slice a l.length c := by
  rcases h.2 with ⟨rfl, h0⟩ | ⟨g, cap, cur, rfl, _⟩
  · exact ⟨none, 0, by rw [h0]⟩
  · exact ⟨_, cap, rfl⟩
theorem IntsI.cells {w : World} {B n c : Nat} {a : Option Addr} {l : List Int} (h : IntsI w B (.slice a n c) l) (i : Nat) (hi : i < l.length) : ∃ b, a = some ⟨b, 0, none⟩ ∧ w.cell? ⟨b, i, none⟩ = some (.int .i64 l[i]) := by
  obtain ⟨a', c', e⟩ := h.form
  injection e with _ e2 _
  subst e2
  have h' := h
  rcases h.2 with ⟨hv, h0⟩ | ⟨g, cap, cur, hv, _⟩
  · injection hv; omega
  · injection hv with e1 _ _
    subst e1
    refine ⟨g, rfl, ?_⟩
    rw [World.ownsRow.cellAt h' i (by omega)]
    simp [hi]
/-- One integer appended. -/
theorem wpList_append_int {w : World} {ops : Array Oper} {rest : List Oper} {o : Oper} {a : Act} {Q : Exit → Act → World → Prop} (hgd : o.guard = none) (s x : Operand)
    (ho : o.op = .call { callee := .builtin .append, args := #[s, x], argTypes := #[27, 27] })
    (B : Nat) (v : Value) (l : List Int) (hs : a.eval s = v) (hown : IntsI w B v l) (g : Nat) (t : Int)
    (hx : a.eval x = .slice (some ⟨g, 0, none⟩) 1 1) (hb : w.heap[g]? = some (.cells #[.int .i64 t] 3 (0, 0))) (hlen : l.length ≤ 1000000) (hB : B ≤ w.heap.size)
    (h : ∀ v' w', IntsI w' B v' (l ++ [t]) → w.grownBy w' v.ownBlock → wpList Tryz.prog ops Q rest (a.put o.dst v') w') : wpList Tryz.prog ops Q (o :: rest) a w := by
  obtain ⟨i0, hi, hz0, hz1, hz2⟩ := info_parts infoInt
  refine wpList_append_own _ hgd s x _ ho B 3 i0 _ 1 8 Tryz.underlying27 hi hz0 hz1 hz2 rfl (by decide) v l.length _ hs hown ⟨g, 0, none⟩ 1 1 [.int .i64 t] hx rfl ?_ ?_ (by unfold maxLen; omega) (by omega) hB ?_
  · intro j z hj
    match j, hj with
    | 0, hj => cases hj; exact cell_of_row w g 0 _ _ (0, 0) hb
  · intro z hz
    simp only [List.mem_cons, List.not_mem_nil, or_false] at hz
    rw [hz]; rfl
  · intro v' w' h1 h2 _
    refine h v' w' ?_ h2
    unfold IntsI
    rw [List.length_append, List.map_append]
    exact h1
theorem equal_ints (va vb : Value) (B C : Nat) (l : List Int) (w : World) (h1 : IntsI w B va l) (h2 : IntsI w C vb l) (hl : l.length ≤ 9223372036854770000) :
    Calls Tryz.prog 20 #[va, vb] w fun e w' => e = .returned (.bool true) ∧ ∃ n, w' = w.drewN n := by
  obtain ⟨a1, p1, rfl⟩ := h1.form
  obtain ⟨a2, p2, rfl⟩ := h2.form
  have K1 := Lib.hid h1.cells
  have K2 := Lib.hid h2.cells
  clear h1 h2
  go_enter Tryz.func20, Tryz.ntmps20
  go_wp2_with fail
  go_loopw [5] (fun i wr => ∃ k : Nat, i = .int .i64 k ∧ k ≤ l.length ∧ ∃ n, wr = w.drewN n) (fun i _ => l.length - (intOf i).toNat)
  case atStart => exact ⟨0, rfl, Nat.zero_le _, 0, rfl⟩
  case round =>
    obtain ⟨k, rfl, hk, n, rfl⟩ := hrel
    by_cases hlt : k < l.length
    · obtain ⟨b1, e1, c0⟩ := K1.out k hlt
      obtain ⟨b2, e2, d0⟩ := K2.out k hlt
      subst e1 e2
      generalize l[k] = t at *
      go_wp2_with fail
      go_quiet (fail)
      go_wp2_with fail
      go_roundw
      case rel => exact ⟨k + 1, by go_num, by omega, _, rfl⟩
      case measure => simp [intOf]; omega
    · go_wp2_with fail
      go_ret
      exact ⟨rfl, n, rfl⟩
set_option maxRecDepth 100000 in
set_option maxHeartbeats 2000000 in
theorem sEndSub (p : List Nd) (v : Value) (i k : Nat) (w : World) (hv : NSl w v p) (hl : p.length ≤ 1000000) (hi : i ≤ p.length) (hk : k ≤ p.length) (h : endL 1 (p.drop i) = some (p.drop k)) :
    Calls Tryz.prog 41 #[v, .int .i64 i] w fun e w' => e = .returned (.int .i64 k) ∧ w = w' := by
  have HV := Lib.hid hv
  have HE := Lib.hid h
  obtain ⟨a, cap, rfl, hc⟩ := hv.1
  obtain ⟨L, hL⟩ : ∃ L, p.length = L := ⟨_, rfl⟩
  have HL := Lib.hid hL
  rw [hL] at hl hi hk HV ⊢
  clear hc hv hL h
  go_enter Tryz.func41, Tryz.ntmps41
  go_wp2_with fail
  go_loopw [5, 1] (fun o x wr => ∃ (m q : Nat), o = .int .i64 m ∧ x = .int .i64 q ∧ q ≤ L ∧ Hid (endL m (p.drop q) = some (p.drop k)) ∧ w = wr) (fun _ x _ => L - (intOf x).toNat)
  case atStart => exact ⟨1, i, rfl, rfl, hi, HE, rfl⟩
  case round =>
    clear HE
    obtain ⟨m, q, rfl, rfl, hq, HE, rfl⟩ := hrel
    cases m with
    | zero =>
      have hqk : q = k := by
        have := HE.out
        rw [endL_zero] at this
        injection this with this
        have := congrArg List.length this
        rw [List.length_drop, List.length_drop, HL.out] at this
        omega
      subst hqk
      go_wp2_with fail
      go_ret
      exact ⟨rfl, rfl⟩
    | succ m =>
      have hbd := endL_drop _ _ _ HE.out
      obtain ⟨kk, b1, b2, _⟩ := hbd
      rw [List.length_drop, HL.out] at b2
      have hqL : q < p.length := by rw [HL.out]; omega
      have HE2 := HE.out
      rw [List.drop_eq_getElem_cons hqL, endL] at HE2
      split at HE2
      · next h0 =>
        obtain ⟨u, hu⟩ := Int.eq_ofNat_of_zero_le h0
        rw [hu] at HE2
        have HE3 : Hid (endL (m + u) (p.drop (q + 1)) = some (p.drop k)) := Lib.hid HE2
        obtain ⟨kk2, d1, d2, _⟩ := endL_drop _ _ _ HE3.out
        rw [List.length_drop, HL.out] at d2
        obtain ⟨b, off, rfl, c0, c1, c2, c3⟩ := HV.out.cellsQ q hqL
        rw [hu] at c3
        have hqL' : (q : Int) < (L : Int) := by omega
        clear c0 c1 c2 hu HE2 h0 HE
        go_wp2_with fail
        go_roundw
        case rel => first | exact ⟨m + u, q + 1, by go_num, by go_num, by omega, HE3, by trivial⟩ | exact ⟨m + u, q + 1, by go_num; omega, by go_num, by omega, HE3, by trivial⟩
        case measure => simp [intOf]; omega
      · cases HE2
set_option maxRecDepth 100000 in
set_option maxHeartbeats 2000000 in
theorem rEndSub (p : List Nd) (v : Value) (i k : Nat) (w : World) (hv : NSl w v p) (hl : p.length ≤ 1000000) (hi : i ≤ p.length) (hk : k ≤ p.length) (h : endL 1 (p.drop i) = some (p.drop k)) :
    Calls Tryz.prog 42 #[v, .int .i64 i] w fun e w' => e = .returned (.int .i64 k) ∧ w = w' := by
  have HV := Lib.hid hv
  have HE := Lib.hid h
  obtain ⟨a, cap, rfl, hc⟩ := hv.1
  obtain ⟨L, hL⟩ : ∃ L, p.length = L := ⟨_, rfl⟩
  have HL := Lib.hid hL
  rw [hL] at hl hi hk HV ⊢
  clear hc hv hL h
  go_enter Tryz.func42, Tryz.ntmps42
  go_wp2_with fail
  go_loopw [5, 1] (fun o x wr => ∃ (m q : Nat), o = .int .i64 m ∧ x = .int .i64 q ∧ q ≤ L ∧ Hid (endL m (p.drop q) = some (p.drop k)) ∧ w = wr) (fun _ x _ => L - (intOf x).toNat)
  case atStart => exact ⟨1, i, rfl, rfl, hi, HE, rfl⟩
  case round =>
    clear HE
    obtain ⟨m, q, rfl, rfl, hq, HE, rfl⟩ := hrel
    cases m with
    | zero =>
      have hqk : q = k := by
        have := HE.out
        rw [endL_zero] at this
        injection this with this
        have := congrArg List.length this
        rw [List.length_drop, List.length_drop, HL.out] at this
        omega
      subst hqk
      go_wp2_with fail
      go_ret
      exact ⟨rfl, rfl⟩
    | succ m =>
      have hbd := endL_drop _ _ _ HE.out
      obtain ⟨kk, b1, b2, _⟩ := hbd
      rw [List.length_drop, HL.out] at b2
      have hqL : q < p.length := by rw [HL.out]; omega
      have HE2 := HE.out
      rw [List.drop_eq_getElem_cons hqL, endL] at HE2
      split at HE2
      · next h0 =>
        obtain ⟨u, hu⟩ := Int.eq_ofNat_of_zero_le h0
        rw [hu] at HE2
        have HE3 : Hid (endL (m + u) (p.drop (q + 1)) = some (p.drop k)) := Lib.hid HE2
        obtain ⟨kk2, d1, d2, _⟩ := endL_drop _ _ _ HE3.out
        rw [List.length_drop, HL.out] at d2
        obtain ⟨b, off, rfl, c0, c1, c2, c3⟩ := HV.out.cellsQ q hqL
        rw [hu] at c3
        have hqL' : (q : Int) < (L : Int) := by omega
        clear c0 c1 c2 hu HE2 h0 HE
        go_wp2_with fail
        go_roundw
        case rel => first | exact ⟨m + u, q + 1, by go_num, by go_num, by omega, HE3, by trivial⟩ | exact ⟨m + u, q + 1, by go_num; omega, by go_num, by omega, HE3, by trivial⟩
        case measure => simp [intOf]; omega
      · cases HE2
set_option maxRecDepth 100000 in
set_option maxHeartbeats 2000000 in
theorem sEnd_any (p : List Nd) (v : Value) (z : Int) (w : World) (m : Int) (hm : SynG m w) (hv : NSl w v p) (hl : p.length ≤ 9223372036854775000) :
    Calls Tryz.prog 18 #[v, .int .i64 z] w fun e w' => e = .returned (.int .i64 (endV p z)) ∧ Below w.heap.size w w' := by
  have HV := Lib.hid hv
  have HG := Lib.hid hm
  obtain ⟨a, cap, rfl, hc⟩ := hv.1
  obtain ⟨vb, hvb⟩ : ∃ b, Hid (validL p = b) := ⟨_, Lib.hid rfl⟩
  have HVA := Lib.hid (valid_any m p _ w HV.out HG.out (by omega))
  rw [hvb.out] at HVA
  obtain ⟨X, hX⟩ : ∃ X, Hid (endV p z = X) := ⟨_, Lib.hid rfl⟩
  rw [hX.out]
  clear hc hv hm
  by_cases h0 : z < 0
  · obtain rfl : X = 0 := by rw [← hX.out]; unfold endV; rw [if_pos (.inl h0)]
    go_enter Tryz.func18, Tryz.ntmps18
    go_wp2_with fail
    go_ret
    exact ⟨rfl, Below.refl _ _⟩
  obtain ⟨i, rfl⟩ := Int.eq_ofNat_of_zero_le (show 0 ≤ z by omega)
  by_cases h1 : (p.length : Int) ≤ (i : Int)
  · obtain rfl : X = 0 := by rw [← hX.out]; unfold endV; rw [if_pos (.inr (.inl h1))]
    have h1' : (i : Int) ≥ (p.length : Int) := h1
    go_enter Tryz.func18, Tryz.ntmps18
    go_wp2_with fail
    go_ret
    exact ⟨rfl, Below.refl _ _⟩
  have hip : i < p.length := by omega
  have h1' : ¬ (i : Int) ≥ (p.length : Int) := by omega
  cases vb with
  | false =>
    obtain rfl : X = 0 := by rw [← hX.out]; unfold endV; rw [if_pos (.inr (.inr hvb.out))]
    go_enter Tryz.func18, Tryz.ntmps18
    go_wp2_with fail
    ((with_reducible refine HVA.out.mono ?_))
    rintro e w1 ⟨rfl, hb1⟩
    have HB1 := Lib.hid hb1
    clear hb1
    go_wp2_with fail
    go_ret
    exact ⟨rfl, HB1.out⟩
  | true =>
    obtain rfl : X = (endP p i : Nat) := by rw [← hX.out]; unfold endV; rw [if_neg (by rintro (h | h | h); exact h0 h; exact h1 h; rw [hvb.out] at h; cases h)]; rfl
    have hpl : p.length ≤ 1000000 := by
      have h := hvb.out
      unfold validL at h
      simp only [Bool.and_eq_true, decide_eq_true_eq] at h
      omega
    go_enter Tryz.func18, Tryz.ntmps18
    obtain ⟨e1, e2, e3⟩ := end_ok hvb.out hip
    go_wp2_with fail
    ((with_reducible refine HVA.out.mono ?_))
    rintro e w1 ⟨rfl, hb1⟩
    have HB1 := Lib.hid hb1
    have HSU := Lib.hid (sEndSub p (.slice a p.length cap) i (endP p i) w1 (HV.out.below hb1) (by omega) (by omega) e2 e3)
    clear hb1 e1 e2 e3
    go_wp2_with fail
    ((with_reducible refine HSU.out.mono ?_))
    rintro e w2 ⟨rfl, rfl⟩
    go_wp2_with fail
    go_ret
    exact ⟨rfl, HB1.out⟩
set_option maxRecDepth 100000 in
set_option maxHeartbeats 2000000 in
theorem rEnd_any (p : List Nd) (v : Value) (z : Int) (w : World) (hs : ∀ t ∈ p, t.str.length ≤ 1048576) (hv : NSl w v p) (hl : p.length ≤ 9223372036854775000) :
    Calls Tryz.prog 19 #[v, .int .i64 z] w fun e w' => e = .returned (.int .i64 (endV p z)) ∧ Below w.heap.size w w' := by
  have HV := Lib.hid hv
  have HS := Lib.hid hs
  obtain ⟨a, cap, rfl, hc⟩ := hv.1
  obtain ⟨vb, hvb⟩ : ∃ b, Hid (validL p = b) := ⟨_, Lib.hid rfl⟩
  have HVA := Lib.hid (rvalid_any p HS.out _ w HV.out (by omega))
  rw [hvb.out] at HVA
  obtain ⟨X, hX⟩ : ∃ X, Hid (endV p z = X) := ⟨_, Lib.hid rfl⟩
  rw [hX.out]
  clear hc hv hs
  by_cases h0 : z < 0
  · obtain rfl : X = 0 := by rw [← hX.out]; unfold endV; rw [if_pos (.inl h0)]
    go_enter Tryz.func19, Tryz.ntmps19
    go_wp2_with fail
    ((with_reducible refine HVA.out.mono ?_))
    rintro e w1 ⟨rfl, hb1⟩
    have HB1 := Lib.hid hb1
    clear hb1
    cases vb
    all_goals
      go_wp2_with fail
      go_ret
      exact ⟨rfl, HB1.out⟩
  obtain ⟨i, rfl⟩ := Int.eq_ofNat_of_zero_le (show 0 ≤ z by omega)
  by_cases h1 : (p.length : Int) ≤ (i : Int)
  · obtain rfl : X = 0 := by rw [← hX.out]; unfold endV; rw [if_pos (.inr (.inl h1))]
    have h1' : (i : Int) ≥ (p.length : Int) := h1
    go_enter Tryz.func19, Tryz.ntmps19
    go_wp2_with fail
    ((with_reducible refine HVA.out.mono ?_))
    rintro e w1 ⟨rfl, hb1⟩
    have HB1 := Lib.hid hb1
    clear hb1
    cases vb
    all_goals
      go_wp2_with fail
      go_ret
      exact ⟨rfl, HB1.out⟩
  have hip : i < p.length := by omega
  have h1' : ¬ (i : Int) ≥ (p.length : Int) := by omega
  cases vb with
  | false =>
    obtain rfl : X = 0 := by rw [← hX.out]; unfold endV; rw [if_pos (.inr (.inr hvb.out))]
    go_enter Tryz.func19, Tryz.ntmps19
    go_wp2_with fail
    ((with_reducible refine HVA.out.mono ?_))
    rintro e w1 ⟨rfl, hb1⟩
    have HB1 := Lib.hid hb1
    clear hb1
    go_wp2_with fail
    go_ret
    exact ⟨rfl, HB1.out⟩
  | true =>
    obtain rfl : X = (endP p i : Nat) := by rw [← hX.out]; unfold endV; rw [if_neg (by rintro (h | h | h); exact h0 h; exact h1 h; rw [hvb.out] at h; cases h)]; rfl
    have hpl : p.length ≤ 1000000 := by
      have h := hvb.out
      unfold validL at h
      simp only [Bool.and_eq_true, decide_eq_true_eq] at h
      omega
    go_enter Tryz.func19, Tryz.ntmps19
    obtain ⟨e1, e2, e3⟩ := end_ok hvb.out hip
    go_wp2_with fail
    ((with_reducible refine HVA.out.mono ?_))
    rintro e w1 ⟨rfl, hb1⟩
    have HB1 := Lib.hid hb1
    have HSU := Lib.hid (rEndSub p (.slice a p.length cap) i (endP p i) w1 (HV.out.below hb1) (by omega) (by omega) e2 e3)
    clear hb1 e1 e2 e3
    go_wp2_with fail
    ((with_reducible refine HSU.out.mono ?_))
    rintro e w2 ⟨rfl, rfl⟩
    go_wp2_with fail
    go_ret
    exact ⟨rfl, HB1.out⟩
set_option maxRecDepth 100000 in
set_option maxHeartbeats 4000000 in
theorem rKids_any (p : List Nd) (v : Value) (i M : Nat) (w : World) (hv : NSl w v p) (hp : validL p = true) (hip : i < p.length) (hM : p[i].pos.toNat = M) :
    Calls Tryz.prog 43 #[v, .int .i64 i] w fun e w' => ∃ u, e = .returned u ∧ IntsI w' w.heap.size u (kidsP p i M) ∧ Below w.heap.size w w' := by
  have HV0 := Lib.hid hv
  obtain ⟨a, cap, rfl, hc⟩ := hv.1
  have hvb : Hid (validL p = true) := Lib.hid hp
  have HST : Hid (∀ j, j ≤ M → stF p i j ≤ p.length ∧ endL (M - j) (p.drop (stF p i j)) = some (p.drop (endP p i)) ∧ (j < M → stF p i j < p.length)) := Lib.hid (by rw [← hM]; exact (st_ok hp hip).2)
  have hmm : Hid (p[i].pos = (M : Int)) := Lib.hid (by have := (st_ok hp hip).1; omega)
  have hpl : p.length ≤ 1000000 := by
    have h := hp
    unfold validL at h
    simp only [Bool.and_eq_true, decide_eq_true_eq] at h
    omega
  have HMB : Hid (M ≤ 1000000) := Lib.hid (by
    have h := (HST.out 0 (Nat.zero_le _)).2.1
    obtain ⟨kk, b1, b2, _⟩ := endL_drop _ _ _ h
    rw [List.length_drop] at b2
    omega)
  obtain ⟨L, hL⟩ : ∃ L, p.length = L := ⟨_, rfl⟩
  have HL := Lib.hid hL
  have hil : i < L := by omega
  rw [hL] at hpl HV0 ⊢
  have HV1 := HV0
  have HB1 := Lib.hid (Below.refl w.heap.size w)
  clear hc hv hp hL hM
  go_enter Tryz.func43, Tryz.ntmps43
  go_wp2_with fail
  go_loopw [5, 6, 7] (fun x nx ix wr => ∃ (u : Value) (j : Nat), u = x ∧ nx = .int .i64 (stF p i j) ∧ ix = .int .i64 j ∧ j ≤ M ∧ Hid (IntsI wr w.heap.size u (kidsP p i j)) ∧ Hid (NSl wr (.slice a L cap) p) ∧ Hid (Below w.heap.size w wr)) (fun _ _ ix _ => M - (intOf ix).toNat)
  case atStart => exact ⟨_, 0, rfl, by show _ = Value.int .i64 ((i + 1 : Nat) : Int); go_num, rfl, by omega, Lib.hid (IntsI.nil _ _), HV1, HB1⟩
  case round =>
    clear HB1 HV1
    obtain ⟨u, j, rfl, rfl, rfl, hj, HI, HVR, HB⟩ := hrel
    obtain ⟨w3, rfl⟩ : ∃ y : World, y = wr := ⟨_, rfl⟩
    have hsz : w.heap.size ≤ w3.heap.size := HB.out.size
    have c3 := (HVR.out.cellsQ i (by rw [HL.out]; exact hil))
    obtain ⟨b, off, hae, _, _, _, c3⟩ := c3
    subst hae
    rw [hmm.out] at c3
    have hiL : (i : Int) < (L : Int) := by omega
    by_cases hlt : j < M
    · have hlt' : (j : Int) < (M : Int) := by omega
      obtain ⟨s1, s2, s3⟩ := HST.out j (by omega)
      have s3 := s3 hlt
      obtain ⟨e1, e2, e3⟩ := end_ok hvb.out s3
      obtain ⟨S, hS⟩ : ∃ S, stF p i j = S := ⟨_, rfl⟩
      have HSS : Hid (stF p i (j + 1) = endP p S) := Lib.hid (by rw [← hS] <;> rfl)
      have HKS := Lib.hid (kidsP_succ p i j)
      have hkl := kidsP_len p i j
      have hM5 : M ≤ 1000000 := HMB.out
      rw [hS] at s3 e1 e2 e3 s1 HKS
      (try simp only [hS])
      clear hS s2
      have hal : Below w3.heap.size w3 (w3.alloc (.cells #[.int .i64 (S : Int)] 3)) := (Below.refl _ _).alloc (Nat.le_refl _) _
      have HI2 := Lib.hid (HI.out.below hal)
      have HV2 := Lib.hid (HVR.out.below hal)
      have HB2 : Hid (Below w.heap.size w (w3.alloc (.cells #[.int .i64 (S : Int)] 3))) := Lib.hid (bel_then HB.out (Nat.le_refl _) hal)
      have HNN : Hid ((w3.alloc (.cells #[.int .i64 (S : Int)] 3)).heap[w3.heap.size]? = some (.cells #[.int .i64 (S : Int)] 3 (0, 0))) := Lib.hid (heap_alloc_new _ _)
      have hszA : w.heap.size ≤ (w3.alloc (.cells #[.int .i64 (S : Int)] 3)).heap.size := HB2.out.size
      obtain ⟨KL, hKL⟩ : ∃ KL, kidsP p i j = KL := ⟨_, rfl⟩
      rw [hKL] at HI2 HKS hkl
      clear hal HI HVR HB hKL
      go_wp2_with (at_builtin; refine wpList_append_int rfl _ _ rfl w.heap.size u KL rfl HI2.out w3.heap.size S rfl HNN.out (by omega) hszA ?_; intro u4 w4 ho hg; have HO := Lib.hid ho; have HG := Lib.hid hg; clear ho hg)
      have hsz4 : (w3.alloc (.cells #[.int .i64 (S : Int)] 3)).heap.size ≤ w4.heap.size := HG.out.size
      have HB4 : Hid (Below w.heap.size w w4) := Lib.hid (HB2.out.grown HG.out hszA (fun k hk => own_row HI2.out hk))
      have HV4 : Hid (NSl w4 (.slice (some ⟨b, off, none⟩) L cap) p) := Lib.hid (HV0.out.below HB4.out)
      have HSU := Lib.hid (rEndSub p (.slice (some ⟨b, off, none⟩) L cap) S (endP p S) w4 HV4.out (by rw [HL.out]; omega) (by omega) e2 e3)
      clear HG HB2 HNN HI2 HV2 e1 e2 e3 s1
      go_wp2_with fail
      ((with_reducible refine HSU.out.mono ?_))
      rintro e w5 ⟨rfl, rfl⟩
      have HO5 : Hid (IntsI w4 w.heap.size u4 (kidsP p i (j + 1))) := Lib.hid (by rw [HKS.out]; exact HO.out)
      go_wp2_with fail
      go_roundw
      case rel => first | exact ⟨u4, j + 1, rfl, by rw [HSS.out], by go_num, by omega, HO5, HV4, HB4⟩ | exact ⟨j + 1, by rw [HSS.out], by go_num, by omega, HO5, HV4, HB4⟩ | exact ⟨j + 1, by rw [HSS.out], by go_num, hlt, HO5, HV4, HB4⟩
      case measure => simp [intOf]; omega
    · have hlt' : ¬ (j : Int) < (M : Int) := by omega
      have hjM : j = M := by omega
      subst hjM
      obtain ⟨ua, uc, rfl⟩ := HI.out.form
      go_wp2_with fail
      go_ret
      exact ⟨_, rfl, HI.out, HB.out⟩
set_option maxRecDepth 100000 in
set_option maxHeartbeats 4000000 in
theorem sKids_any (p : List Nd) (v : Value) (z : Int) (w : World) (m : Int) (hm : SynG m w) (hv : NSl w v p) (hl : p.length ≤ 9223372036854775000) :
    Calls Tryz.prog 21 #[v, .int .i64 z] w fun e w' => ∃ u, e = .returned u ∧ IntsI w' w.heap.size u (kidsV p z) ∧ Below w.heap.size w w' := by
  have HV := Lib.hid hv
  have HG := Lib.hid hm
  obtain ⟨a, cap, rfl, hc⟩ := hv.1
  obtain ⟨vb, hvb⟩ : ∃ b, Hid (validL p = b) := ⟨_, Lib.hid rfl⟩
  have HVA := Lib.hid (valid_any m p _ w HV.out HG.out (by omega))
  rw [hvb.out] at HVA
  obtain ⟨X, hX⟩ : ∃ X, Hid (kidsV p z = X) := ⟨_, Lib.hid rfl⟩
  rw [hX.out]
  clear hc hv hm
  by_cases h0 : z < 0
  · obtain rfl : X = [] := by rw [← hX.out]; unfold kidsV; rw [if_pos (.inl h0)]
    go_enter Tryz.func21, Tryz.ntmps21
    go_wp2_with fail
    go_ret
    exact ⟨_, rfl, IntsI.nil _ _, Below.refl _ _⟩
  obtain ⟨i, rfl⟩ := Int.eq_ofNat_of_zero_le (show 0 ≤ z by omega)
  by_cases h1 : (p.length : Int) ≤ (i : Int)
  · obtain rfl : X = [] := by rw [← hX.out]; unfold kidsV; rw [if_pos (.inr (.inl h1))]
    have h1' : (i : Int) ≥ (p.length : Int) := h1
    go_enter Tryz.func21, Tryz.ntmps21
    go_wp2_with fail
    go_ret
    exact ⟨_, rfl, IntsI.nil _ _, Below.refl _ _⟩
  have hip : i < p.length := by omega
  have h1' : ¬ (i : Int) ≥ (p.length : Int) := by omega
  cases vb with
  | false =>
    obtain rfl : X = [] := by rw [← hX.out]; unfold kidsV; rw [if_pos (.inr (.inr hvb.out))]
    go_enter Tryz.func21, Tryz.ntmps21
    go_wp2_with fail
    ((with_reducible refine HVA.out.mono ?_))
    rintro e w1 ⟨rfl, hb1⟩
    have HB1 := Lib.hid hb1
    clear hb1
    go_wp2_with fail
    go_ret
    exact ⟨_, rfl, IntsI.nil _ _, HB1.out⟩
  | true =>
    obtain ⟨M, hM⟩ : ∃ M, p[i].pos.toNat = M := ⟨_, rfl⟩
    obtain rfl : X = kidsP p i M := by rw [← hX.out]; unfold kidsV; rw [if_neg (by rintro (h | h | h); exact h0 h; exact h1 h; rw [hvb.out] at h; cases h), Int.toNat_natCast, List.getElem?_eq_getElem hip, ← hM]; rfl
    have hpl : p.length ≤ 1000000 := by
      have h := hvb.out
      unfold validL at h
      simp only [Bool.and_eq_true, decide_eq_true_eq] at h
      omega
    clear hX h1
    go_enter Tryz.func21, Tryz.ntmps21
    have HST : Hid (∀ j, j ≤ M → stF p i j ≤ p.length ∧ endL (M - j) (p.drop (stF p i j)) = some (p.drop (endP p i)) ∧ (j < M → stF p i j < p.length)) := Lib.hid (by rw [← hM]; exact (st_ok hvb.out hip).2)
    have hmm : Hid (p[i].pos = (M : Int)) := Lib.hid (by have := (st_ok hvb.out hip).1; omega)
    have HMB : Hid (M ≤ 1000000) := Lib.hid (by
      have h := (HST.out 0 (Nat.zero_le _)).2.1
      obtain ⟨kk, b1, b2, _⟩ := endL_drop _ _ _ h
      rw [List.length_drop] at b2
      omega)
    have HV0 := HV
    obtain ⟨b, off, hae, _, _, _, c3⟩ := HV.out.cellsQ i hip
    subst hae
    rw [hmm.out] at c3
    obtain ⟨L, hL⟩ : ∃ L, p.length = L := ⟨_, rfl⟩
    have HL := Lib.hid hL
    rw [hL] at hpl HV0 HV HVA h1' hip ⊢
    have hiL : (i : Int) < (L : Int) := by omega
    clear hM hL
    go_wp2_with fail
    ((with_reducible refine HVA.out.mono ?_))
    rintro e w1 ⟨rfl, hb1⟩
    have HB1 := Lib.hid hb1
    have HV1 := Lib.hid (HV.out.below hb1)
    have d3 : w1.cell? ⟨b, off + i * 4 + 3, none⟩ = some (.int .i64 M) := (hb1.cell (p := ⟨b, off + i * 4 + 3, none⟩) (World.block_lt_of_cell? w _ c3)).trans c3
    clear hb1 c3 HVA HV
    go_wp2_with fail
    go_loopw [5, 6, 27] (fun x nx ix wr => ∃ (u : Value) (j : Nat), u = x ∧ nx = .int .i64 (stF p i j) ∧ ix = .int .i64 j ∧ j ≤ M ∧ Hid (IntsI wr w.heap.size u (kidsP p i j)) ∧ Hid (NSl wr (.slice (some ⟨b, off, none⟩) L cap) p) ∧ Hid (Below w.heap.size w wr)) (fun _ _ ix _ => M - (intOf ix).toNat)
    case atStart => exact ⟨_, 0, rfl, by show _ = Value.int .i64 ((i + 1 : Nat) : Int); go_num, rfl, by omega, Lib.hid (IntsI.nil _ _), HV1, HB1⟩
    case round =>
      clear HB1 HV1
      obtain ⟨u, j, rfl, rfl, rfl, hj, HI, HVR, HB⟩ := hrel
      obtain ⟨w3, rfl⟩ : ∃ y : World, y = wr := ⟨_, rfl⟩
      have hsz : w.heap.size ≤ w3.heap.size := HB.out.size
      by_cases hlt : j < M
      · have hlt' : (j : Int) < (M : Int) := by omega
        obtain ⟨s1, s2, s3⟩ := HST.out j (by omega)
        have s3 := s3 hlt
        obtain ⟨e1, e2, e3⟩ := end_ok hvb.out s3
        obtain ⟨S, hS⟩ : ∃ S, stF p i j = S := ⟨_, rfl⟩
        have HSS : Hid (stF p i (j + 1) = endP p S) := Lib.hid (by rw [← hS] <;> rfl)
        have HKS := Lib.hid (kidsP_succ p i j)
        have hkl := kidsP_len p i j
        have hM5 : M ≤ 1000000 := HMB.out
        rw [hS] at s3 e1 e2 e3 s1 HKS
        (try simp only [hS])
        clear hS s2
        have hal : Below w3.heap.size w3 (w3.alloc (.cells #[.int .i64 (S : Int)] 3)) := (Below.refl _ _).alloc (Nat.le_refl _) _
        have HI2 := Lib.hid (HI.out.below hal)
        have HV2 := Lib.hid (HVR.out.below hal)
        have HB2 : Hid (Below w.heap.size w (w3.alloc (.cells #[.int .i64 (S : Int)] 3))) := Lib.hid (bel_then HB.out (Nat.le_refl _) hal)
        have HNN : Hid ((w3.alloc (.cells #[.int .i64 (S : Int)] 3)).heap[w3.heap.size]? = some (.cells #[.int .i64 (S : Int)] 3 (0, 0))) := Lib.hid (heap_alloc_new _ _)
        have hszA : w.heap.size ≤ (w3.alloc (.cells #[.int .i64 (S : Int)] 3)).heap.size := HB2.out.size
        obtain ⟨KL, hKL⟩ : ∃ KL, kidsP p i j = KL := ⟨_, rfl⟩
        rw [hKL] at HI2 HKS hkl
        clear hal HI HVR HB hKL
        go_wp2_with (at_builtin; refine wpList_append_int rfl _ _ rfl w.heap.size u KL rfl HI2.out w3.heap.size S rfl HNN.out (by omega) hszA ?_; intro u4 w4 ho hg; have HO := Lib.hid ho; have HG := Lib.hid hg; clear ho hg)
        have hsz4 : (w3.alloc (.cells #[.int .i64 (S : Int)] 3)).heap.size ≤ w4.heap.size := HG.out.size
        have HB4 : Hid (Below w.heap.size w w4) := Lib.hid (HB2.out.grown HG.out hszA (fun k hk => own_row HI2.out hk))
        have HV4 : Hid (NSl w4 (.slice (some ⟨b, off, none⟩) L cap) p) := Lib.hid (HV0.out.below HB4.out)
        have HSU := Lib.hid (sEndSub p (.slice (some ⟨b, off, none⟩) L cap) S (endP p S) w4 HV4.out (by rw [HL.out]; omega) (by omega) e2 e3)
        clear HG HB2 HNN HI2 HV2 e1 e2 e3 s1
        go_wp2_with fail
        ((with_reducible refine HSU.out.mono ?_))
        rintro e w5 ⟨rfl, rfl⟩
        have HO5 : Hid (IntsI w4 w.heap.size u4 (kidsP p i (j + 1))) := Lib.hid (by rw [HKS.out]; exact HO.out)
        go_wp2_with fail
        go_roundw
        case rel => first | exact ⟨u4, j + 1, rfl, by rw [HSS.out], by go_num, by omega, HO5, HV4, HB4⟩ | exact ⟨j + 1, by rw [HSS.out], by go_num, by omega, HO5, HV4, HB4⟩ | exact ⟨j + 1, by rw [HSS.out], by go_num, hlt, HO5, HV4, HB4⟩
        case measure => simp [intOf]; omega
      · have hlt' : ¬ (j : Int) < (M : Int) := by omega
        have hjM : j = M := by omega
        subst hjM
        obtain ⟨ua, uc, rfl⟩ := HI.out.form
        go_wp2_with fail
        go_ret
        exact ⟨_, rfl, HI.out, HB.out⟩
set_option maxRecDepth 100000 in
set_option maxHeartbeats 4000000 in
theorem rChildren_any (p : List Nd) (v : Value) (z : Int) (w : World) (hs : ∀ t ∈ p, t.str.length ≤ 1048576) (hv : NSl w v p) (hl : p.length ≤ 9223372036854775000) :
    Calls Tryz.prog 22 #[v, .int .i64 z] w fun e w' => ∃ u, e = .returned u ∧ IntsI w' w.heap.size u (kidsV p z) ∧ Below w.heap.size w w' := by
  have HV := Lib.hid hv
  have HS := Lib.hid hs
  obtain ⟨a, cap, rfl, hc⟩ := hv.1
  obtain ⟨vb, hvb⟩ : ∃ b, Hid (validL p = b) := ⟨_, Lib.hid rfl⟩
  have HVA := Lib.hid (rvalid_any p HS.out _ w HV.out (by omega))
  rw [hvb.out] at HVA
  obtain ⟨X, hX⟩ : ∃ X, Hid (kidsV p z = X) := ⟨_, Lib.hid rfl⟩
  rw [hX.out]
  clear hc hv hs
  by_cases h0 : z < 0
  · obtain rfl : X = [] := by rw [← hX.out]; unfold kidsV; rw [if_pos (.inl h0)]
    go_enter Tryz.func22, Tryz.ntmps22
    go_wp2_with fail
    ((with_reducible refine HVA.out.mono ?_))
    rintro e w1 ⟨rfl, hb1⟩
    have HB1 := Lib.hid hb1
    clear hb1
    cases vb
    all_goals
      go_wp2_with fail
      go_ret
      exact ⟨_, rfl, IntsI.nil _ _, HB1.out⟩
  obtain ⟨i, rfl⟩ := Int.eq_ofNat_of_zero_le (show 0 ≤ z by omega)
  by_cases h1 : (p.length : Int) ≤ (i : Int)
  · obtain rfl : X = [] := by rw [← hX.out]; unfold kidsV; rw [if_pos (.inr (.inl h1))]
    have h1' : (i : Int) ≥ (p.length : Int) := h1
    go_enter Tryz.func22, Tryz.ntmps22
    go_wp2_with fail
    ((with_reducible refine HVA.out.mono ?_))
    rintro e w1 ⟨rfl, hb1⟩
    have HB1 := Lib.hid hb1
    clear hb1
    cases vb
    all_goals
      go_wp2_with fail
      go_ret
      exact ⟨_, rfl, IntsI.nil _ _, HB1.out⟩
  have hip : i < p.length := by omega
  have h1' : ¬ (i : Int) ≥ (p.length : Int) := by omega
  cases vb with
  | false =>
    obtain rfl : X = [] := by rw [← hX.out]; unfold kidsV; rw [if_pos (.inr (.inr hvb.out))]
    go_enter Tryz.func22, Tryz.ntmps22
    go_wp2_with fail
    ((with_reducible refine HVA.out.mono ?_))
    rintro e w1 ⟨rfl, hb1⟩
    have HB1 := Lib.hid hb1
    clear hb1
    go_wp2_with fail
    go_ret
    exact ⟨_, rfl, IntsI.nil _ _, HB1.out⟩
  | true =>
    obtain ⟨M, hM⟩ : ∃ M, p[i].pos.toNat = M := ⟨_, rfl⟩
    obtain rfl : X = kidsP p i M := by rw [← hX.out]; unfold kidsV; rw [if_neg (by rintro (h | h | h); exact h0 h; exact h1 h; rw [hvb.out] at h; cases h), Int.toNat_natCast, List.getElem?_eq_getElem hip, ← hM]; rfl
    have hpl : p.length ≤ 1000000 := by
      have h := hvb.out
      unfold validL at h
      simp only [Bool.and_eq_true, decide_eq_true_eq] at h
      omega
    clear hX h1
    go_enter Tryz.func22, Tryz.ntmps22
    go_wp2_with fail
    ((with_reducible refine HVA.out.mono ?_))
    rintro e w1 ⟨rfl, hb1⟩
    have HB1 := Lib.hid hb1
    have hsz1 : w.heap.size ≤ w1.heap.size := hb1.size
    have HKI := Lib.hid (rKids_any p _ i M w1 (HV.out.below hb1) hvb.out hip hM)
    clear hb1
    go_wp2_with fail
    ((with_reducible refine HKI.out.mono ?_))
    rintro e w2 ⟨u, rfl, hi2, hb2⟩
    obtain ⟨ua, uc, rfl⟩ := hi2.form
    have HI2 := Lib.hid (own_base hi2 hsz1)
    have HB2 : Hid (Below w.heap.size w w2) := Lib.hid (bel_then HB1.out (Nat.le_refl _) hb2)
    clear hi2 hb2
    go_wp2_with fail
    go_ret
    exact ⟨_, rfl, HI2.out, HB2.out⟩
end Go.Proofs.YtnicnfchkdmieaaGreatDoor
namespace Go.Proofs.YtnicnfchkdmieaaGreatDoor
open Go.RowKit
set_option linter.unusedVariables false
set_option linter.unusedSimpArgs false
attribute [local go_sem] ByteArray.mk_append_mk bs_get bs_cut bs_end

theorem endV_in {p : List Nd} (hv : validL p = true) {i : Nat} (hi : i < p.length) : endV p (i : Int) = (endP p i : Nat) := by
  unfold endV
  rw [if_neg (by rintro (h | h | h); omega; omega; rw [hv] at h; cases h)]
  rfl
theorem kidsV_in {p : List Nd} (hv : validL p = true) {i : Nat} (hi : i < p.length) : kidsV p (i : Int) = kidsP p i p[i].pos.toNat := by
  unfold kidsV
  rw [if_neg (by rintro (h | h | h); omega; omega; rw [hv] at h; cases h), Int.toNat_natCast, List.getElem?_eq_getElem hi]
  rfl
set_option maxRecDepth 100000 in
set_option maxHeartbeats 16000000 in
theorem law_subtrees (l : List Int) (v0 : Value) (p : List Nd) (v1 : Value) (z : Int) (m : Int) (W : World) (hl : IArg W v0 l) (hp : NSl W v1 p) (hpl : p.length ≤ 1048576) (hps : ∀ t ∈ p, t.str.length ≤ 1048576) (hz : -9223372036854775808 ≤ z ∧ z ≤ 9223372036854775807) (hm : SynG m W) :
    Calls Tryz.prog 6 #[v0, v1, .int .i64 z] W fun e w' => e = .returned (.bool true) ∧ Below W.heap.size W w' := by
  have HP0 := Lib.hid hp
  have HM0 := Lib.hid hm
  have HPS := Lib.hid hps
  have HPR := Lib.hid (program_any v0 l W hl)
  unfold ProgPost at HPR
  obtain ⟨pa, pc, rfl, _⟩ := hp.1
  obtain ⟨ia, ic, rfl, _⟩ := hl
  obtain ⟨A, hA⟩ : ∃ A, W.heap.size = A := ⟨_, rfl⟩
  have HAE := Lib.hid hA
  have hAw : A ≤ W.heap.size := Nat.le_of_eq hA.symm
  obtain ⟨L, hL⟩ : ∃ L, p.length = L := ⟨_, rfl⟩
  have HL := Lib.hid hL
  rw [hL] at HP0 hpl ⊢
  rw [hA] at HPR ⊢
  clear hL hp hm hps hA
  go_enter Tryz.func6, Tryz.ntmps6
  go_wp2_with fail
  ((with_reducible refine HPR.out.mono ?_))
  rintro e w1 ⟨v, ns, rfl, hn, hg, hv, hb⟩
  have HQ1 := Lib.hid (hn.slG hg)
  obtain ⟨qa, qc, rfl⟩ := hn.form
  have HVL := Lib.hid hv
  have hlen : ns.length ≤ 2048 := by
    unfold validL at hv
    simp only [Bool.and_eq_true, decide_eq_true_eq] at hv
    exact hv.1
  have HB1 := Lib.hid hb
  have HG1 := Lib.hid (HM0.out.below hb (by rw [← HAE.out]; exact HM0.out.low))
  have HP1 : Hid (NSl w1 (.slice pa L pc) p) := Lib.hid (HP0.out.below (by rw [HAE.out]; exact hb))
  have HAW := Lib.hid (awake_any m w1 HG1.out)
  obtain ⟨N, hN⟩ : ∃ N, ns.length = N := ⟨_, rfl⟩
  have HN := Lib.hid hN
  rw [hN] at hlen HQ1 ⊢
  clear hn hg hv hb hN HPR HM0 HP0
  go_wp2_with fail
  ((with_reducible refine HAW.out.mono ?_))
  rintro e w2 ⟨rfl, hb2⟩
  have HG2 := Lib.hid (HG1.out.below hb2 HG1.out.low)
  have HP2 := Lib.hid (HP1.out.below hb2)
  have HQ2 := Lib.hid (HQ1.out.below hb2)
  have HB2 : Hid (Below A W w2) := Lib.hid (bel_then HB1.out hAw hb2)
  have HE1 := Lib.hid (sEnd_any p _ z w2 m HG2.out HP2.out (by rw [HL.out]; omega))
  obtain ⟨ev, hev⟩ : ∃ ev, endV p z = ev := ⟨_, rfl⟩
  rw [hev] at HE1
  clear hb2 HG1 HP1 HQ1 HB1 HAW
  go_wp2_with fail
  ((with_reducible refine HE1.out.mono ?_))
  rintro e w3 ⟨rfl, hb3⟩
  have HG3 := Lib.hid (HG2.out.below hb3 HG2.out.low)
  have HP3 := Lib.hid (HP2.out.below hb3)
  have HQ3 := Lib.hid (HQ2.out.below hb3)
  have HB3 : Hid (Below A W w3) := Lib.hid (bel_then HB2.out hAw hb3)
  have HE2 := Lib.hid (rEnd_any p _ z w3 HPS.out HP3.out (by rw [HL.out]; omega))
  rw [hev] at HE2
  clear hb3 HG2 HP2 HQ2 HB2 HE1 hev
  go_wp2_with fail
  ((with_reducible refine HE2.out.mono ?_))
  rintro e w4 ⟨rfl, hb4⟩
  have HG4 := Lib.hid (HG3.out.below hb4 HG3.out.low)
  have HP4 := Lib.hid (HP3.out.below hb4)
  have HQ4 := Lib.hid (HQ3.out.below hb4)
  have HB4 : Hid (Below A W w4) := Lib.hid (bel_then HB3.out hAw hb4)
  have HK1 := Lib.hid (sKids_any p _ z w4 m HG4.out HP4.out (by rw [HL.out]; omega))
  obtain ⟨KV, hKV⟩ : ∃ KV, kidsV p z = KV := ⟨_, rfl⟩
  have hKVl : KV.length ≤ 9223372036854770000 := by
    rw [← hKV]
    unfold kidsV
    split
    · simp
    · next hno =>
      have hv : validL p = true := by
        cases h : validL p with
        | true => rfl
        | false => exact absurd (.inr (.inr h)) hno
      obtain ⟨i, rfl⟩ := Int.eq_ofNat_of_zero_le (show 0 ≤ z by omega)
      have hi : i < p.length := by omega
      rw [kidsP_len, Int.toNat_natCast, List.getElem?_eq_getElem hi]
      obtain ⟨_, h⟩ := st_ok hv hi
      obtain ⟨_, h1, _⟩ := h 0 (Nat.zero_le _)
      obtain ⟨kk, b1, b2, _⟩ := endL_drop _ _ _ h1
      rw [List.length_drop] at b2
      simp only [Option.map_some, Option.getD_some]
      have := HL.out
      omega
  rw [hKV] at HK1
  have HKVL := Lib.hid hKVl
  clear hb4 HG3 HP3 HQ3 HB3 HE2 hKVl
  go_wp2_with fail
  ((with_reducible refine HK1.out.mono ?_))
  rintro e w5 ⟨u5, rfl, hi5, hb5⟩
  have HI5 := Lib.hid hi5
  have HG5 := Lib.hid (HG4.out.below hb5 HG4.out.low)
  have HP5 := Lib.hid (HP4.out.below hb5)
  have HQ5 := Lib.hid (HQ4.out.below hb5)
  have HB5 : Hid (Below A W w5) := Lib.hid (bel_then HB4.out hAw hb5)
  have HK2 := Lib.hid (rChildren_any p _ z w5 HPS.out HP5.out (by rw [HL.out]; omega))
  rw [hKV] at HK2
  clear hb5 hi5 HG4 HP4 HQ4 HB4 HK1 hKV
  go_wp2_with fail
  ((with_reducible refine HK2.out.mono ?_))
  rintro e w6 ⟨u6, rfl, hi6, hb6⟩
  have HG6 := Lib.hid (HG5.out.below hb6 HG5.out.low)
  have HQ6 := Lib.hid (HQ5.out.below hb6)
  have HB6 : Hid (Below A W w6) := Lib.hid (bel_then HB5.out hAw hb6)
  have HEQ := Lib.hid (equal_ints u5 u6 _ _ KV w6 (HI5.out.below hb6) hi6 HKVL.out)
  clear hb6 hi6 HG5 HP5 HQ5 HB5 HK2 HI5
  go_wp2_with fail
  ((with_reducible refine HEQ.out.mono ?_))
  rintro e w7 ⟨rfl, dn, rfl⟩
  have hb7 : Below w6.heap.size w6 (w6.drewN dn) := below_drewN (Below.refl _ _) _
  have HG7 := Lib.hid (HG6.out.below hb7 HG6.out.low)
  have HQ7 := Lib.hid (HQ6.out.below hb7)
  have HB7 : Hid (Below A W (w6.drewN dn)) := Lib.hid (bel_then HB6.out hAw hb7)
  clear hb7 HG6 HQ6 HB6 HEQ
  generalize w6.drewN dn = w7 at *
  have HE3 := Lib.hid (sEnd_any ns _ (N : Int) w7 m HG7.out HQ7.out (by rw [HN.out]; omega))
  rw [show endV ns (N : Int) = 0 by unfold endV; rw [if_pos (.inr (.inl (by rw [HN.out]; omega)))]] at HE3
  go_wp2_with fail
  ((with_reducible refine HE3.out.mono ?_))
  rintro e w8 ⟨rfl, hb8⟩
  have HG8 := Lib.hid (HG7.out.below hb8 HG7.out.low)
  have HQ8 := Lib.hid (HQ7.out.below hb8)
  have HB8 : Hid (Below A W w8) := Lib.hid (bel_then HB7.out hAw hb8)
  have HE4 := Lib.hid (sEnd_any ns _ (-1) w8 m HG8.out HQ8.out (by rw [HN.out]; omega))
  rw [show endV ns (-1) = 0 by unfold endV; rw [if_pos (.inl (by omega))]] at HE4
  clear hb8 HG7 HQ7 HB7 HE3
  go_wp2_with fail
  ((with_reducible refine HE4.out.mono ?_))
  rintro e w9 ⟨rfl, hb9⟩
  have HG9 := Lib.hid (HG8.out.below hb9 HG8.out.low)
  have HQ9 := Lib.hid (HQ8.out.below hb9)
  have HB9 : Hid (Below A W w9) := Lib.hid (bel_then HB8.out hAw hb9)
  clear hb9 HG8 HQ8 HB8 HE4
  go_wp2_with fail
  go_loopw [8] (fun i wr => ∃ k : Nat, i = .int .i64 k ∧ k ≤ N ∧ Hid (SynG m wr) ∧ Hid (NSl wr (.slice qa N qc) ns) ∧ Hid (Below A W wr)) (fun i _ => N - (intOf i).toNat)
  case atStart => exact ⟨0, rfl, by omega, HG9, HQ9, HB9⟩
  case round =>
    clear HG9 HQ9 HB9
    obtain ⟨k, rfl, hk, HG, HQ, HB⟩ := hrel
    obtain ⟨w3, rfl⟩ : ∃ y : World, y = wr := ⟨_, rfl⟩
    by_cases hlt : k < N
    · have hlt' : (k : Int) < (N : Int) := by omega
      by_cases h60 : (k : Int) < 60
      · have hkp : k < ns.length := by rw [HN.out]; exact hlt
        obtain ⟨M, hM⟩ : ∃ M, ns[k].pos.toNat = M := ⟨_, rfl⟩
        have HST : Hid (∀ j, j ≤ M → stF ns k j ≤ ns.length ∧ endL (M - j) (ns.drop (stF ns k j)) = some (ns.drop (endP ns k)) ∧ (j < M → stF ns k j < ns.length)) := Lib.hid (by rw [← hM]; exact (st_ok HVL.out hkp).2)
        have hmm : Hid (ns[k].pos = (M : Int)) := Lib.hid (by have := (st_ok HVL.out hkp).1; omega)
        have HSE : Hid (stF ns k M = endP ns k) := Lib.hid (by rw [← hM]; exact st_end HVL.out hkp)
        have HKV : Hid (kidsV ns (k : Int) = kidsP ns k M) := Lib.hid (by rw [kidsV_in HVL.out hkp, hM])
        have HMB : Hid (M ≤ 1000000) := Lib.hid (by
          have h := (HST.out 0 (Nat.zero_le _)).2.1
          obtain ⟨kk, b1, b2, _⟩ := endL_drop _ _ _ h
          rw [List.length_drop] at b2
          have := HN.out
          omega)
        have hMb : M ≤ 1000000 := HMB.out
        have HKD := Lib.hid (sKids_any ns _ (k : Int) w3 m HG.out HQ.out (by rw [HN.out]; omega))
        rw [HKV.out] at HKD
        clear hM
        go_wp2_with fail
        ((with_reducible refine HKD.out.mono ?_))
        rintro e w4 ⟨u, rfl, hi4, hb4⟩
        obtain ⟨ua, uc, rfl⟩ := hi4.form
        have HI4 : Hid (∃ B, IntsI w4 B (.slice ua (kidsP ns k M).length uc) (kidsP ns k M)) := Lib.hid ⟨_, hi4⟩
        have HG4 := Lib.hid (HG.out.below hb4 HG.out.low)
        have HQ4 := Lib.hid (HQ.out.below hb4)
        have HB4 : Hid (Below A W w4) := Lib.hid (bel_then HB.out hAw hb4)
        rw [kidsP_len] at HI4 ⊢
        clear hb4 hi4 HG HQ HB HKD
        go_wp2_with fail
        go_loopw [10, 11] (fun nx ix wr => ∃ j : Nat, nx = .int .i64 (stF ns k j) ∧ ix = .int .i64 j ∧ j ≤ M ∧ Hid (SynG m wr) ∧ Hid (NSl wr (.slice qa N qc) ns) ∧ Hid (Below A W wr) ∧ Hid (∃ B, IntsI wr B (.slice ua M uc) (kidsP ns k M))) (fun _ ix _ => M - (intOf ix).toNat)
        case atStart => exact ⟨0, by show _ = Value.int .i64 ((k + 1 : Nat) : Int); go_num, rfl, by omega, HG4, HQ4, HB4, HI4⟩
        case round =>
          clear HG4 HQ4 HB4 HI4
          obtain ⟨j, rfl, rfl, hj, HG, HQ, HB, HI⟩ := hrel
          obtain ⟨w5, rfl⟩ : ∃ y : World, y = wr := ⟨_, rfl⟩
          by_cases hjM : j < M
          · have hjM' : (j : Int) < (M : Int) := by omega
            obtain ⟨s1, s2, s3⟩ := HST.out j (by omega)
            have s3 := s3 hjM
            have HSS : Hid (stF ns k (j + 1) = endP ns (stF ns k j)) := Lib.hid rfl
            have HEV := Lib.hid (endV_in HVL.out s3)
            obtain ⟨BB, hII⟩ := HI.out
            obtain ⟨b, hua, hc⟩ := hII.cells j (by rw [kidsP_len]; exact hjM)
            have hcv : (kidsP ns k M)[j]'(by rw [kidsP_len]; exact hjM) = (stF ns k j : Int) := by
              have := kidsP_at ns k M j hjM
              rw [List.getElem?_eq_getElem (by rw [kidsP_len]; exact hjM)] at this
              injection this
            rw [hcv] at hc
            obtain ⟨S, hS⟩ : ∃ S, stF ns k j = S := ⟨_, rfl⟩
            rw [hS] at s3 hc HSS HEV
            (try simp only [hS])
            subst hua
            have hSb : S ≤ 100000 := by have := HN.out; omega
            have HE5 := Lib.hid (sEnd_any ns _ (S : Int) w5 m HG.out HQ.out (by rw [HN.out]; omega))
            rw [HEV.out] at HE5
            clear s1 s2 hcv hII hS
            go_wp2_with fail
            ((with_reducible refine HE5.out.mono ?_))
            rintro e w6 ⟨rfl, hb6⟩
            have HG6 := Lib.hid (HG.out.below hb6 HG.out.low)
            have HQ6 := Lib.hid (HQ.out.below hb6)
            have HB6 : Hid (Below A W w6) := Lib.hid (bel_then HB.out hAw hb6)
            have HI6 : Hid (∃ B, IntsI w6 B (.slice (some ⟨b, 0, none⟩) M uc) (kidsP ns k M)) := Lib.hid (by obtain ⟨B, h⟩ := HI.out; exact ⟨B, h.below hb6⟩)
            clear hb6 HG HQ HB HI HE5 hc
            go_wp2_with fail
            go_roundw
            case rel => exact ⟨j + 1, by rw [HSS.out], by go_num, by omega, HG6, HQ6, HB6, HI6⟩
            case measure => simp [intOf]; omega
          · have hjM' : ¬ (j : Int) < (M : Int) := by omega
            have hjM2 : j = M := by omega
            subst hjM2
            have HE5 := Lib.hid (sEnd_any ns _ (k : Int) w5 m HG.out HQ.out (by rw [HN.out]; omega))
            rw [endV_in HVL.out hkp] at HE5
            rw [HSE.out]
            obtain ⟨EE, hEE⟩ : ∃ EE, endP ns k = EE := ⟨_, rfl⟩
            rw [hEE] at HE5
            (try simp only [hEE])
            clear hEE
            go_wp2_with fail
            ((with_reducible refine HE5.out.mono ?_))
            rintro e w6 ⟨rfl, hb6⟩
            have HG6 := Lib.hid (HG.out.below hb6 HG.out.low)
            have HQ6 := Lib.hid (HQ.out.below hb6)
            have HB6 : Hid (Below A W w6) := Lib.hid (bel_then HB.out hAw hb6)
            obtain ⟨b, off, rfl, _, _, _, c3⟩ := HQ6.out.cellsQ k hkp
            rw [hmm.out] at c3
            clear hb6 HG HQ HB HI HE5
            go_wp2_with fail
            go_roundw
            case rel => exact ⟨k + 1, by go_num, by omega, HG6, HQ6, HB6⟩
            case measure => simp [intOf]; omega
      · go_wp2_with fail
        go_ret
        exact ⟨rfl, HB.out⟩
    · have hlt' : ¬ (k : Int) < (N : Int) := by omega
      go_wp2_with fail
      go_ret
      exact ⟨rfl, HB.out⟩
end Go.Proofs.YtnicnfchkdmieaaGreatDoor
namespace Go.Proofs.YtnicnfchkdmieaaGreatDoor
open Go.RowKit
set_option linter.unusedVariables false
set_option linter.unusedSimpArgs false
set_option maxRecDepth 100000

def formData {H : Type} (T : List (List UInt8 × List UInt8)) : DataW H := .agg (T.map fun x => .agg [.lit (.string x.1), .lit (.string x.2)])
theorem cells_of_forms {H : Type} {enc : TypeId × Value → H} {P : Program} {w : World} {base : Nat} {sp : Nat → Bool} {held : Bool} {fuel : Nat} {t e tS n : Nat} {fs : Array Field} {f0 f1 : Field} {cs : List Value} {T : List (List UInt8 × List UInt8)} {p : List MemPlace}
    (ht : P.underlying t = some (.array n e)) (he : P.underlying e = some (.struct fs)) (hce : P.cellsOf e = 2) (hS : P.underlying tS = some .string) (hcS : P.cellsOf tS = 1)
    (h0 : fs[0]? = some f0) (h1 : fs[1]? = some f1) (o0 : f0.offset = 0) (o1 : f1.offset = 1) (t0 : f0.type = tS) (t1 : f1.type = tS)
    (h : DataW.trod enc P w base sp held fuel t cs = some (formData T, p)) (i : Nat) (hi : i < T.length) :
    cs[2 * i]? = some (.string ⟨T[i].1.toArray⟩) ∧ cs[2 * i + 1]? = some (.string ⟨T[i].2.toArray⟩) := by
  cases fuel with
  | zero => simp [DataW.trod] at h
  | succ fuel =>
    simp only [DataW.trod, ht, hce] at h
    split at h
    · obtain ⟨xs, hm, hx⟩ := Option.map_eq_some_iff.1 h
      have hxs : xs.map (·.1) = T.map fun x => (DataW.agg [.lit (.string x.1), .lit (.string x.2)] : DataW H) := by
        have := congrArg Prod.fst hx
        simpa [formData] using this
      have hxl : xs.length = n := by simpa using Lib.mapM_length hm
      have hTl : T.length = xs.length := by
        have h9 : (xs.map (·.1)).length = (T.map fun x => (DataW.agg [.lit (.string x.1), .lit (.string x.2)] : DataW H)).length := by rw [hxs]
        rw [List.length_map, List.length_map] at h9
        exact h9.symm
      have hin : i < n := by omega
      obtain ⟨b, hb, hf⟩ := Lib.mapM_at hm i i (List.getElem?_range hin)
      have hb1 : b.1 = .agg [.lit (.string T[i].1), .lit (.string T[i].2)] := by
        have h2 : (xs.map (·.1))[i]? = some b.1 := by simp [hb]
        rw [hxs] at h2
        simp [List.getElem?_map, hi] at h2
        exact h2.symm
      obtain ⟨ys, m, -, e1, e2, e3, e4⟩ := DataW.trod_struct he hf
      rw [e1] at hb1
      simp only [DataW.agg.injEq] at hb1
      have y0 := e4 0 f0 h0
      have y1 := e4 1 f1 h1
      rw [o0, t0, hcS] at y0
      rw [o1, t1, hcS] at y1
      have g0 : (ys.map (·.1))[0]? = some (DataW.lit (.string T[i].1) : DataW H) := by rw [hb1]; rfl
      have g1 : (ys.map (·.1))[1]? = some (DataW.lit (.string T[i].2) : DataW H) := by rw [hb1]; rfl
      rw [List.getElem?_map, Option.map_eq_some_iff] at g0 g1
      obtain ⟨z0, q0, r0⟩ := g0
      obtain ⟨z1, q1, r1⟩ := g1
      rw [q0] at y0
      rw [q1] at y1
      obtain ⟨s0, c0, d0, -⟩ := DataW.trod_string hS y0
      obtain ⟨s1, c1, d1, -⟩ := DataW.trod_string hS y1
      rw [d0] at r0
      rw [d1] at r1
      simp only [DataW.lit.injEq, Lit.string.injEq] at r0 r1
      have k0 := congrArg (·[0]?) c0
      have k1 := congrArg (·[0]?) c1
      simp [List.getElem?_take, List.getElem?_drop] at k0 k1
      rw [Nat.mul_comm 2 i]
      refine ⟨?_, ?_⟩
      · rw [k0, ← r0]
      · rw [k1, ← r1]
    · cases h
theorem forms_of_head {P : Program} {W : World} {name : String} {T : List (List UInt8 × List UInt8)} {rest : List (String × DataW Unit)} {g t e tS n : Nat} {fs : Array Field} {f0 f1 : Field}
    (hg : P.globalNamed name = some g) (hty : (P.globals[g]?).map (·.type) = some t) (ht : P.underlying t = some (.array n e)) (he : P.underlying e = some (.struct fs)) (hce : P.cellsOf e = 2) (hS : P.underlying tS = some .string) (hcS : P.cellsOf tS = 1)
    (h0 : fs[0]? = some f0) (h1 : fs[1]? = some f1) (o0 : f0.offset = 0) (o1 : f1.offset = 1) (t0 : f0.type = tS) (t1 : f1.type = tS)
    (h : laidMet P ((name, formData T) :: rest) W) (i : Nat) (hi : i < T.length) :
    W.cell? ⟨g, 2 * i, none⟩ = some (.string ⟨T[i].1.toArray⟩) ∧ W.cell? ⟨g, 2 * i + 1, none⟩ = some (.string ⟨T[i].2.toArray⟩) := by
  obtain ⟨ps, ⟨g', t', cs, fuel, p, q, hg', ht', hvar, hd, _, _⟩, _⟩ := h
  obtain rfl := Option.some.inj (hg.symm.trans hg')
  obtain rfl := Option.some.inj (hty.symm.trans ht')
  obtain ⟨a, b⟩ := cells_of_forms ht he hce hS hcS h0 h1 o0 o1 t0 t1 hd i hi
  exact ⟨by rw [World.var?_cell hg hvar]; simpa using a, by rw [World.var?_cell hg hvar]; simpa using b⟩
theorem laid_expr {W : World} (h : laidMetH Tryz.prog Rows.syntaxSubtreesUptoRow.laid W) (i : Nat) (hi : i < exprT.length) :
    W.cell? ⟨2, 2 * i, none⟩ = some (.string ⟨exprT[i].1.toArray⟩) ∧ W.cell? ⟨2, 2 * i + 1, none⟩ = some (.string ⟨exprT[i].2.toArray⟩) := by
  have h1 := h.filter fun x => x.1 == "platformfw/syntax.expressionForms"
  rw [show (Rows.syntaxSubtreesUptoRow.laid.filter fun x => x.1 == "platformfw/syntax.expressionForms") = [("platformfw/syntax.expressionForms", formData exprT)] by kernel_rfl] at h1
  exact forms_of_head (rest := []) (name := "platformfw/syntax.expressionForms") (t := 152) (e := 119) (tS := 9) (by kernel_rfl) (by kernel_rfl) Tryz.underlying152 Tryz.underlying119 (by kernel_rfl) Tryz.underlying9 (by kernel_rfl) rfl rfl rfl rfl rfl rfl h1 i hi
theorem laid_stmt {W : World} (h : laidMetH Tryz.prog Rows.syntaxSubtreesUptoRow.laid W) (i : Nat) (hi : i < stmtT.length) :
    W.cell? ⟨1, 2 * i, none⟩ = some (.string ⟨stmtT[i].1.toArray⟩) ∧ W.cell? ⟨1, 2 * i + 1, none⟩ = some (.string ⟨stmtT[i].2.toArray⟩) := by
  have h1 := h.filter fun x => x.1 == "platformfw/syntax.statementForms"
  rw [show (Rows.syntaxSubtreesUptoRow.laid.filter fun x => x.1 == "platformfw/syntax.statementForms") = [("platformfw/syntax.statementForms", formData stmtT)] by kernel_rfl] at h1
  exact forms_of_head (rest := []) (name := "platformfw/syntax.statementForms") (t := 151) (e := 119) (tS := 9) (by kernel_rfl) (by kernel_rfl) Tryz.underlying151 Tryz.underlying119 (by kernel_rfl) Tryz.underlying9 (by kernel_rfl) rfl rfl rfl rfl rfl rfl h1 i hi
theorem laid_decl {W : World} (h : laidMetH Tryz.prog Rows.syntaxSubtreesUptoRow.laid W) (i : Nat) (hi : i < declT.length) :
    W.cell? ⟨0, 2 * i, none⟩ = some (.string ⟨declT[i].1.toArray⟩) ∧ W.cell? ⟨0, 2 * i + 1, none⟩ = some (.string ⟨declT[i].2.toArray⟩) := by
  have h1 := h.filter fun x => x.1 == "platformfw/syntax.declarationForms"
  rw [show (Rows.syntaxSubtreesUptoRow.laid.filter fun x => x.1 == "platformfw/syntax.declarationForms") = [("platformfw/syntax.declarationForms", formData declT)] by kernel_rfl] at h1
  exact forms_of_head (rest := []) (name := "platformfw/syntax.declarationForms") (t := 150) (e := 119) (tS := 9) (by kernel_rfl) (by kernel_rfl) Tryz.underlying150 Tryz.underlying119 (by kernel_rfl) Tryz.underlying9 (by kernel_rfl) rfl rfl rfl rfl rfl rfl h1 i hi
theorem laid_syn {W : World} {m : Int} (h : laidMetH Tryz.prog Rows.syntaxSubtreesUptoRow.laid W) (hm : W.cell? ⟨3, 0, none⟩ = some (.int .i64 m)) : SynG m W :=
  ⟨hm, laid_expr h, laid_stmt h, laid_decl h⟩
/-- The library's own variable holds some integer. -/
theorem max_cell {W : World} (h : W.ShapedOpen Tryz.prog) : ∃ m, W.cell? ⟨3, 0, none⟩ = some (.int .i64 m) :=
  Go.Proofs.cell_of_shapedOpen_int (zero := #[.int .i64 0]) (t := 3) h (of_decide_eq_true (by kernel_rfl)) (by kernel_rfl) rfl (by kernel_rfl) (by kernel_rfl) Tryz.underlying3
end Go.Proofs.YtnicnfchkdmieaaGreatDoor
namespace Go.Proofs.YtnicnfchkdmieaaGreatDoor
open Go.ChangeShapes Go.WideShapes Go.RowKit Go.Joins

theorem cellsT5 : Tryz.prog.cellsOf 5 = 1 := by kernel_rfl
theorem bytesT5 : Tryz.prog.bytesOf 5 = 1 := by kernel_rfl
theorem add_zero_addr (b o k : Nat) : (⟨b, o, none⟩ : Addr).add k = ⟨b, o + k, none⟩ := by by_cases h : k = 0 <;> simp [Addr.add, h]
theorem open_bytesV {H : Type} {enc : TypeId × Value → H} {W : World} {fuel : Nat} {v : Value} {y : DataW H × List MemPlace} (h : DataW.trod enc Tryz.prog W 0 (fun _ => true) true fuel 22 [v] = some y) (hw : ∀ m ∈ y.1.weights Tryz.prog 22, m ≤ reachBytes) :
    ∃ l, BArg W v l := by
  rcases open_ints Tryz.underlying22 Tryz.underlying5 cellsT5 h with ⟨hcs, hx⟩ | ⟨a, len, cap, zs, hcs, _, hl, hm, hz, hx, hcell, hwz⟩
  · cases hcs
    exact ⟨[], none, 0, rfl, by simp, fun h => absurd rfl h⟩
  · cases hcs
    subst hx
    simp only [if_true] at hz
    have h1 : ((lits (H := H) .u8 (zs.take len)).length + (lits (H := H) .u8 (zs.drop len)).length) * Tryz.prog.bytesOf 5 ≤ reachBytes := by
      apply hw
      simp only [DataW.weights, Tryz.underlying22]
      exact List.mem_cons_self ..
    rw [bytesT5] at h1
    simp only [lits, List.length_map, List.length_take, List.length_drop] at h1
    have hr : reachBytes = 140737488351232 := rfl
    rw [hr] at h1
    have hlen : ((zs.take len).map (fun z => UInt8.ofNat z.toNat)).length = len := by simp; omega
    refine ⟨(zs.take len).map (fun z => UInt8.ofNat z.toNat), some a, cap, by rw [hlen], by rw [hlen]; omega, fun hn => ?_⟩
    have hpos : 0 < len := by
      rcases Nat.eq_zero_or_pos len with h0 | h0
      · subst h0; simp at hn
      · exact h0
    obtain ⟨b, o, spot⟩ := a
    have hsp : spot = none := by
      have h1 := hcell 0 (by omega)
      simpa [Addr.add] using World.cell?_spot h1
    subst hsp
    refine ⟨b, o, rfl, fun k hk => ?_⟩
    rw [hlen] at hk
    have h2 := hcell k (by omega)
    rw [add_zero_addr] at h2
    rw [h2]
    have hb := bounds_u8 (hwz zs[k] (List.getElem_mem _))
    simp [List.getD, List.getElem?_eq_getElem (show k < zs.length by omega)]
    omega
set_option maxRecDepth 100000 in
theorem open_bytesA {H : Type} {enc : TypeId × Value → H} {W : World} {b0 : Nat} {v : Value} {d : DataW H} {p : List MemPlace} (hv : Value.okWide Tryz.prog W .any b0 22 v) (h : DataW.Trod enc Tryz.prog W 0 (fun _ => true) true 22 v d p) (hw : ∀ m ∈ d.weights Tryz.prog 22, m ≤ reachBytes) :
    ∃ l, BArg W v l := by
  obtain ⟨a0, len, cap, rfl⟩ := okWide_slice Tryz.underlying22 hv
  obtain ⟨fuel, hf⟩ := h
  exact open_bytesV (by simpa [Value.cells] using hf) hw
theorem sized_each {H : Type} {P : Program} {ts : List TypeId} {ds : List (DataW H)} (h : (DataW.weightsEach P ts ds).all (· ≤ reachBytes) = true) {j : Nat} {t : TypeId} {d : DataW H} (ht : ts[j]? = some t) (hd : ds[j]? = some d) : ∀ m ∈ d.weights P t, m ≤ reachBytes := by
  intro m hm
  have := List.all_eq_true.1 h m (DataW.weights_mem_each ht hd m hm)
  simpa using this
end Go.Proofs.YtnicnfchkdmieaaGreatDoor
