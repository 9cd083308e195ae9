/- The generator: Program: the walk. Equal of nodes, awake; nested blocks: plain laws and walks. awake; SyntaxDepthLimit: the walks. Arguments opened: a slice of integers, a slice of nodes, a node. SyntaxValidates: the walk. The package's tables and the library's own variable, from the row. Arguments opened: a slice of bytes. -/
import Derived.Test.YtnicnfchkdmieaaGreatDoorKe
import Derived.Test.YtnicnfchkdmieaaGreatDoorKh
import Derived.Test.YtnicnfchkdmieaaGreatDoorKa
import Derived.Test.YtnicnfchkdmieaaGreatDoorKb
import Derived.Test.YtnicnfchkdmieaaGreatDoorCards
import Derived.Test.YtnicnfchkdmieaaGreatDoorChecked
import Derived.ProofKit
import Derived.OpenShut
import Derived.SizedLaws
import Derived.SliceStrings
import Derived.Lib.SmallJoins
import Derived.ChangeSlices
import Derived.Shelf.Vars
import Derived.Deep.Slices
import Derived.ChangeSame
import Derived.Test.YtnicnfchkdmieaaGreatDoorRows
import Derived.LaidSub
import Derived.Lib.LaidTab
import Derived.Test.YtnicnfchkdmieaaGreatDoorByt
namespace Go.Proofs.YtnicnfchkdmieaaGreatDoor
open Go.RowKit
set_option linter.unusedVariables false
set_option linter.unusedSimpArgs false
attribute [local go_sem] ByteArray.mk_append_mk bs_get bs_cut bs_end

/-- What Program leaves: a valid program of the call's own. -/
def ProgPost (w : World) (e : Ending) (w' : World) : Prop := ∃ v ns, e = .returned v ∧ NodesI w' w.heap.size v ns ∧ (∀ t ∈ ns, NdG t) ∧ validL ns = true ∧ Below w.heap.size w w'
theorem NodesI.keepC {w w' : World} {B C : Nat} {v : Value} {ns : List Nd} (h : NodesI w B v ns) (hC : CSt w C) (hk : Keep C w w') : NodesI w' B v ns := by
  obtain ⟨a, cap, i, l, hc, _⟩ := hC
  exact own_grown h hk (fun g hg e => own_ch h hc (by rw [hg, e]))
theorem NodesI.slG {w : World} {B : Nat} {v : Value} {l : List Nd} (h : NodesI w B v l) (hs : ∀ t ∈ l, NdG t) : NSl w v l := h.sl (fun t ht => ⟨by have := (hs t ht).1; omega, (hs t ht).2⟩)
set_option maxRecDepth 100000 in
set_option maxHeartbeats 8000000 in
theorem program_any (v0 : Value) (l : List Int) (w : World) (h : IArg w v0 l) :
    Calls Tryz.prog 13 #[v0] w (ProgPost w) := by
  have HNW := Lib.hid (new_any v0 l w h)
  obtain ⟨a0, cap0, rfl, _⟩ := h
  obtain ⟨C, hCe⟩ : ∃ C, w.heap.size = C := ⟨_, rfl⟩
  unfold ProgPost
  rw [hCe] at HNW
  rw [hCe]
  clear hCe
  go_enter Tryz.func13, Tryz.ntmps13
  go_wp2_with fail
  ((with_reducible refine HNW.out.mono ?_))
  rintro e w1 ⟨rfl, hc1, hb1⟩
  have HC1 := Lib.hid hc1
  have HB1 := Lib.hid hb1
  have HN := Lib.hid (next_any C 5 w1 hc1 (by omega) (by omega))
  have hCP : C < w1.heap.size := hc1.lt
  clear hc1 hb1 HNW
  go_wp2_with fail
  ((with_reducible refine HN.out.mono ?_))
  rintro e w2 ⟨k2, rfl, hk2, hc2, hkk2⟩
  have HK2 := Lib.hid hkk2
  have HC2 := Lib.hid hc2
  have hk2' : (k2 : Int) < 5 := hk2
  clear hc2 hkk2 HN
  have HDE := Lib.hid (decl_2 C)
  unfold DeclOk at HDE
  go_wp2_with fail
  go_loopw [4, 5] (fun x i wr => ∃ (v : Value) (ns : List Nd) (q : Nat), v = x ∧ i = .int .i64 q ∧ q ≤ 5 ∧ ns.length ≤ (5 - q) * 54533 ∧ Hid (NodesI wr w1.heap.size v ns) ∧ Hid (∀ t ∈ ns, NdG t) ∧ Hid (CSt wr C) ∧ Hid (Keep C w1 wr)) (fun _ i _ => (intOf i).toNat)
  case atStart => exact ⟨_, [], k2 + 1, rfl, by go_num, by omega, by simp, Lib.hid (NodesI.nil _ _), Lib.hid (by intro t ht; cases ht), HC2, HK2⟩
  case round =>
    clear HC2 HK2 HC1
    obtain ⟨v, ns, q, rfl, rfl, hq, hnl, HR, HG, HC, HK⟩ := hrel
    obtain ⟨w3, rfl⟩ : ∃ y : World, y = wr := ⟨_, rfl⟩
    by_cases hq0 : 0 < q
    · have hq1 : (0 : Int) < (q : Int) := by omega
      have HLF := Lib.hid (left_any C w3 HC.out)
      go_wp2_with fail
      ((with_reducible refine HLF.out.mono ?_))
      rintro e w4 ⟨lb, rfl, hc4, hkk4⟩
      have HR4 := Lib.hid (HR.out.keepC HC.out hkk4)
      have HK4 := Lib.hid (HK.out.trans hkk4)
      have HC4 := Lib.hid hc4
      clear hc4 hkk4 HR HK HC HLF
      cases lb with
      | false =>
        have HB9 : Hid (Below C w w4) := Lib.hid (HB1.out.trans (HK4.out.below (Nat.le_of_lt hCP) (Nat.le_refl _)))
        obtain ⟨vb, hvb⟩ : ∃ vb, Hid (validL ns = vb) := ⟨_, Lib.hid rfl⟩
        have HVL := Lib.hid (rvalid_is ns (fun t ht => by have := (HG.out t ht).1; omega) vb hvb v w4 (HR4.out.slG HG.out) (by omega))
        obtain ⟨av, cv, rfl⟩ := HR4.out.form
        have hsz9 : C ≤ w4.heap.size := Nat.le_trans (Nat.le_of_lt hCP) HK4.out.size
        cases vb with
        | true =>
          go_wp2_with fail
          ((with_reducible refine HVL.out.mono ?_))
          rintro e w9 ⟨rfl, hb9⟩
          have HR9 := Lib.hid ((HR4.out.below hb9).base (B' := C) (by omega))
          have HB10 := Lib.hid (HB9.out.trans (hb9.mono hsz9))
          clear hb9
          go_wp2_with fail
          go_ret
          exact ⟨_, ns, rfl, HR9.out, HG.out, hvb.out, HB10.out⟩
        | false =>
          go_wp2_with fail
          ((with_reducible refine HVL.out.mono ?_))
          rintro e w9 ⟨rfl, hb9⟩
          have HB10 := Lib.hid (HB9.out.trans (hb9.mono hsz9))
          clear hb9
          go_wp2_with fail
          go_ret
          exact ⟨_, [], rfl, NodesI.nil _ _, (by intro t ht; cases ht), (by decide), HB10.out⟩
      | true =>
        have HDD := Lib.hid (HDE.out w4 HC4.out)
        unfold GPost at HDD
        go_wp2_with fail
        ((with_reducible refine HDD.out.mono ?_))
        rintro e w5 ⟨v5, rfl, hv5, hc5, hk5⟩
        have HR5 := Lib.hid (HR4.out.keepC HC4.out hk5)
        have HK5 := Lib.hid (HK4.out.trans hk5)
        have HC5 := Lib.hid hc5
        obtain ⟨l2, j1, j2, j3, _⟩ := hv5
        have HY := Lib.hid j1
        have HG2 := Lib.hid j2
        have hsz : w1.heap.size ≤ w5.heap.size := HK5.out.size
        clear hc5 hk5 j1 j2 HR4 HK4 HC4 HDD
        go_wp2_with (at_builtin; refine wpList_append_nodes rfl _ _ rfl w1.heap.size v ns rfl HR5.out _ v5 l2 rfl HY.out (by omega) hsz ?_; intro v6 w6 ho hg; have HO := Lib.hid ho; have HGR := Lib.hid hg; clear ho hg)
        have HC6 := Lib.hid (HC5.out.grown HGR.out (fun g h => by have := own_row HR5.out h; omega))
        have HK6 := Lib.hid (HK5.out.grown HGR.out (fun g h => own_row HR5.out h))
        have HG6 : Hid (∀ t ∈ ns ++ l2, NdG t) := Lib.hid (fun t ht => by
          rcases List.mem_append.1 ht with h | h
          · exact HG.out t h
          · exact HG2.out t h)
        have hln : (ns ++ l2).length ≤ (5 - (q - 1)) * 54533 := by rw [List.length_append]; omega
        clear HGR HY HR5 HC5 HK5 HG HG2
        go_wp2_with fail
        go_roundw
        case rel => first | exact ⟨ns ++ l2, q - 1, by go_num, by omega, hln, HO, HG6, HC6, HK6⟩ | exact ⟨_, ns ++ l2, q - 1, rfl, by go_num, by omega, hln, HO, HG6, HC6, HK6⟩
        case measure => simp [intOf]; omega
    · have hq1 : ¬ (0 : Int) < (q : Int) := by omega
      have HB9 : Hid (Below C w w3) := Lib.hid (HB1.out.trans (HK.out.below (Nat.le_of_lt hCP) (Nat.le_refl _)))
      obtain ⟨vb, hvb⟩ : ∃ vb, Hid (validL ns = vb) := ⟨_, Lib.hid rfl⟩
      have HVL := Lib.hid (rvalid_is ns (fun t ht => by have := (HG.out t ht).1; omega) vb hvb v w3 (HR.out.slG HG.out) (by omega))
      obtain ⟨av, cv, rfl⟩ := HR.out.form
      have hsz9 : C ≤ w3.heap.size := Nat.le_trans (Nat.le_of_lt hCP) HK.out.size
      cases vb with
      | true =>
        go_wp2_with fail
        ((with_reducible refine HVL.out.mono ?_))
        rintro e w9 ⟨rfl, hb9⟩
        have HR9 := Lib.hid ((HR.out.below hb9).base (B' := C) (by omega))
        have HB10 := Lib.hid (HB9.out.trans (hb9.mono hsz9))
        clear hb9
        go_wp2_with fail
        go_ret
        exact ⟨_, ns, rfl, HR9.out, HG.out, hvb.out, HB10.out⟩
      | false =>
        go_wp2_with fail
        ((with_reducible refine HVL.out.mono ?_))
        rintro e w9 ⟨rfl, hb9⟩
        have HB10 := Lib.hid (HB9.out.trans (hb9.mono hsz9))
        clear hb9
        go_wp2_with fail
        go_ret
        exact ⟨_, [], rfl, NodesI.nil _ _, (by intro t ht; cases ht), (by decide), HB10.out⟩
end Go.Proofs.YtnicnfchkdmieaaGreatDoor
namespace Go.Proofs.YtnicnfchkdmieaaGreatDoor
open Go.RowKit
set_option linter.unusedVariables false
set_option linter.unusedSimpArgs false
attribute [local go_sem] ByteArray.mk_append_mk bs_get bs_cut bs_end

theorem nd_eqIn (a b d a' b' d' : Int) (s s' : List UInt8) (w : World) : (Op.equalIn 10000 42 (.agg #[.int .i64 a, .int .u64 b, .string ⟨s.toArray⟩, .int .i64 d]) (.agg #[.int .i64 a', .int .u64 b', .string ⟨s'.toArray⟩, .int .i64 d'])).run Tryz.prog w = .ok (a == a' && b == b' && s == s' && d == d') w := by
  have hS : Tryz.prog.underlying 42 = some (.struct (Tryz.prog.fieldsOf 42)) := by kernel_rfl
  have hp : Tryz.prog.stoodInHeld 42 = false := by kernel_rfl
  rw [show (10000 : Nat) = 9999 + 1 from rfl, run_equalIn_agg w 9999 42 _ _ hS hp]
  simp only [Program.fieldsOf, Tryz.underlying42]
  have u3 := Tryz.underlying3
  have u5 := Tryz.underlying35
  have u9 := Tryz.underlying9
  go_simp
  by_cases h1 : a = a' <;> by_cases h2 : b = b' <;> by_cases h3 : s = s' <;> by_cases h4 : d = d' <;> simp [h1, h2, h3, h4]
theorem nd_neq (a b d a' b' d' : Int) (s s' : List UInt8) (w : World) : (binOp .neq 42 (.agg #[.int .i64 a, .int .u64 b, .string ⟨s.toArray⟩, .int .i64 d]) (.agg #[.int .i64 a', .int .u64 b', .string ⟨s'.toArray⟩, .int .i64 d'])).run Tryz.prog w = .ok (.bool (!(a == a' && b == b' && s == s' && d == d'))) w := by
  rw [run_neq_struct, nd_eqIn]; rfl
theorem nd_same (a b d : Int) (s : List UInt8) (w : World) : (binOp .neq 42 (.agg #[.int .i64 a, .int .u64 b, .string ⟨s.toArray⟩, .int .i64 d]) (.agg #[.int .i64 a, .int .u64 b, .string ⟨s.toArray⟩, .int .i64 d])).run Tryz.prog w = .ok (.bool false) w := by
  rw [nd_neq]; simp
theorem NSl.cells {w : World} {a : Option Addr} {n c : Nat} {l : List Nd} (h : NSl w (.slice a n c) l) (i : Nat) (hi : i < l.length) : ∃ b off, a = some ⟨b, off, none⟩ ∧ TAt w b (off + i * 4) l[i] := by
  obtain ⟨⟨a', cap', hv, hc⟩, _⟩ := h
  injection hv with e1 _ _
  subst e1
  obtain ⟨b, off, e, hk⟩ := hc (by rintro rfl; simp at hi)
  exact ⟨b, off, e, hk i hi⟩
set_option maxRecDepth 100000 in
set_option maxHeartbeats 4000000 in
theorem equal_nodes (va vb : Value) (l : List Nd) (w : World) (h1 : NSl w va l) (h2 : NSl w vb l) (hl : l.length ≤ 9223372036854770000) :
    Calls Tryz.prog 25 #[va, vb] w fun e w' => e = .returned (.bool true) ∧ ∃ n, w' = w.drewN n := by
  have H1 := h1
  have H2 := h2
  obtain ⟨⟨a1, p1, rfl, hc1⟩, _⟩ := H1
  obtain ⟨⟨a2, p2, rfl, hc2⟩, _⟩ := H2
  have K1 := Lib.hid h1.cells
  have K2 := Lib.hid h2.cells
  clear h1 h2 hc1 hc2
  go_enter Tryz.func25, Tryz.ntmps25
  go_wp2_with fail
  go_loopw [5] (fun i wr => ∃ k : Nat, i = .int .i64 k ∧ k ≤ l.length ∧ ∃ n, wr = w.drewN n) (fun i _ => l.length - (intOf i).toNat)
  case atStart => exact ⟨0, rfl, Nat.zero_le _, 0, rfl⟩
  case round =>
    obtain ⟨k, rfl, hk, n, rfl⟩ := hrel
    by_cases hlt : k < l.length
    · obtain ⟨b1, o1, e1, c0, c1, c2, c3⟩ := K1.out k hlt
      obtain ⟨b2, o2, e2, d0, d1, d2, d3⟩ := K2.out k hlt
      subst e1 e2
      generalize l[k] = t at *
      obtain ⟨tk, tn, ts, tp⟩ := t
      simp only at c0 c1 c2 c3 d0 d1 d2 d3
      have hN := nd_same tk tn tp ts
      go_wp2_with fail
      go_quiet (fail)
      go_wp2_with fail
      go_roundw
      case rel => exact ⟨k + 1, by go_num, by omega, _, rfl⟩
      case measure => simp [intOf]; omega
    · go_wp2_with fail
      go_ret
      exact ⟨rfl, n, rfl⟩
def aw1 : List UInt8 := [78, 97, 109, 101, 32, 40, 95, 65, 68, 82, 44, 32, 49, 54, 41]
def aw2 : List UInt8 := [68, 101, 118, 105, 99, 101, 32, 40, 69, 67, 48, 41, 32, 123]
def awP : List Nd := [⟨13, 0, [], 2⟩, ⟨3, 0, [95, 65, 68, 82], 0⟩, ⟨1, 16, [], 0⟩]
theorem aw1_is : parseL aw1 = (awP, 0, 0) := by decide +kernel
theorem aw2_is : parseL aw2 = ([], 14, 2) := by decide +kernel
theorem awP_is : validL awP = true := by decide +kernel
def rep (x : List UInt8) : Nat → List UInt8
  | 0 => []
  | k + 1 => rep x k ++ x
def preD (d : Bool) : List UInt8 := if d = true then [68, 101, 118, 105, 99, 101, 32, 40, 65, 41, 32, 123] else [83, 99, 111, 112, 101, 32, 40, 94, 65, 41, 32, 123]
def nestT (k : Nat) (d : Bool) : List UInt8 := rep (preD d) k ++ [69, 118, 101, 110, 116, 32, 40, 69, 41] ++ rep [125] k
def nestB (k : Nat) (d : Bool) : Bool := let x := parseL (nestT k d)
  if 32 < 2 * k + 2 then x == ([], 0, 11) else x.2.2 == 0 && validL x.1 && x.1.length == 3 * k + 2
end Go.Proofs.YtnicnfchkdmieaaGreatDoor
namespace Go.Proofs.YtnicnfchkdmieaaGreatDoor
open Go.RowKit
set_option linter.unusedVariables false
set_option linter.unusedSimpArgs false
attribute [local go_sem] ByteArray.mk_append_mk bs_get bs_cut bs_end

theorem parse_is (s : List UInt8) (ns : List Nd) (pos er m : Int) (H : Hid (parseL s = (ns, pos, er))) (w : World) (hm : SynG m w) (hs : s.length ≤ 4611686018427380000) :
    Calls Tryz.prog 24 #[.string ⟨s.toArray⟩] w fun e w' => ∃ v, e = .returned (.tuple #[v, .int .i64 pos, .int .i64 er]) ∧ NodesI w' w.heap.size v ns ∧ Below w.heap.size w w' := by
  have := parse_syn s m w hm hs
  unfold ParsePost at this
  rw [H.out] at this
  exact this
theorem valid_is (m : Int) (p : List Nd) (b : Bool) (H : Hid (validL p = b)) (v : Value) (w : World) (hv : NSl w v p) (hm : SynG m w) (hl : p.length ≤ 9223372036854775000) :
    Calls Tryz.prog 16 #[v] w fun e w' => e = .returned (.bool b) ∧ Below w.heap.size w w' := by
  have := valid_any m p v w hv hm hl
  rw [H.out] at this
  exact this
theorem awP_nds : NdsOk awP := by
  intro t ht
  simp only [awP, List.mem_cons, List.not_mem_nil, or_false] at ht
  rcases ht with rfl | rfl | rfl <;> simp
abbrev awO : Obj := .cells #[.int .i64 13, .int .u64 0, .string ⟨#[]⟩, .int .i64 2, .int .i64 3, .int .u64 0, .string ⟨#[95, 65, 68, 82]⟩, .int .i64 0, .int .i64 1, .int .u64 16, .string ⟨#[]⟩, .int .i64 0] 42
theorem aw_lit (w : World) : NSl (w.alloc awO) (.slice (some ⟨w.heap.size, 0, none⟩) 3 3) awP := by
  rw [show awO = .cells (tcI awP).toArray 42 from rfl]
  refine ⟨⟨_, _, rfl, fun _ => ⟨w.heap.size, 0, rfl, fun i hi => ?_⟩⟩, awP_nds⟩
  obtain ⟨k0, k1, k2, k3⟩ := tcI_at awP i hi
  have h := heap_alloc_new w (.cells (tcI awP).toArray 42)
  rw [Nat.zero_add]
  refine ⟨?_, ?_, ?_, ?_⟩
  · rw [cell_of_row _ _ _ _ _ (0, 0) h]; simpa using k0
  · rw [cell_of_row _ _ _ _ _ (0, 0) h]; simpa using k1
  · rw [cell_of_row _ _ _ _ _ (0, 0) h]; simpa using k2
  · rw [cell_of_row _ _ _ _ _ (0, 0) h]; simpa using k3
set_option maxRecDepth 100000 in
set_option maxHeartbeats 4000000 in
theorem awake_any (m : Int) (w : World) (hm : SynG m w) : Calls Tryz.prog 9 #[] w fun e w' => e = .returned (.bool true) ∧ Below w.heap.size w w' := by
  have HP1 := Lib.hid (parse_is aw1 awP 0 0 m (Lib.hid aw1_is) w hm (by decide))
  have HG := Lib.hid hm
  unfold aw1 at HP1
  clear hm
  go_enter Tryz.func9, Tryz.ntmps9
  go_wp2_with fail
  ((with_reducible refine HP1.out.mono ?_))
  rintro e w1 ⟨v1, rfl, hv1, hb1⟩
  obtain ⟨a1, c1, rfl⟩ := hv1.form
  have HG1 := Lib.hid (HG.out.below hb1 HG.out.low)
  have HN1 := Lib.hid (hv1.sl awP_nds)
  have HB1 := Lib.hid hb1
  have HP2 := Lib.hid (parse_is aw2 [] 14 2 m (Lib.hid aw2_is) w1 HG1.out (by decide))
  unfold aw2 at HP2
  clear hv1 hb1 HP1 HG
  go_wp2_with fail
  ((with_reducible refine HP2.out.mono ?_))
  rintro e w2 ⟨v2, rfl, hv2, hb2⟩
  obtain ⟨a2, c2, rfl⟩ := hv2.form
  have HG2 := Lib.hid (HG1.out.below hb2 HG1.out.low)
  have HN2 := Lib.hid (HN1.out.below hb2)
  have HB2 : Hid (Below w.heap.size w w2) := Lib.hid (bel_then HB1.out (Nat.le_refl _) hb2)
  have HLT := Lib.hid (aw_lit w2)
  have hal : Below w2.heap.size w2 (w2.alloc awO) := (Below.refl _ _).alloc (Nat.le_refl _) _
  have HN3 := Lib.hid (HN2.out.below hal)
  have HG3 := Lib.hid (HG2.out.below hal HG2.out.low)
  have HB3 : Hid (Below w.heap.size w (w2.alloc awO)) := Lib.hid (bel_then HB2.out (Nat.le_refl _) hal)
  have HEQ := Lib.hid (equal_nodes _ _ awP _ HN3.out HLT.out (by decide))
  clear hv2 hb2 HP2 HG1 HN1 HB1 hal
  go_wp2_with fail
  ((with_reducible refine HEQ.out.mono ?_))
  rintro e w4 ⟨rfl, n, rfl⟩
  have hdr : Below (w2.alloc awO).heap.size (w2.alloc awO) ((w2.alloc awO).drewN n) := below_drewN (Below.refl _ _) n
  have HVA := Lib.hid (valid_is m awP true (Lib.hid awP_is) _ _ (HN3.out.below hdr) (HG3.out.below hdr HG3.out.low) (by decide))
  have HB4 : Hid (Below w.heap.size w ((w2.alloc awO).drewN n)) := Lib.hid (below_drewN HB3.out n)
  clear hdr
  go_wp2_with fail
  ((with_reducible refine HVA.out.mono ?_))
  rintro e w5 ⟨rfl, hb5⟩
  have HB5 : Hid (Below w.heap.size w w5) := Lib.hid (bel_then HB4.out (Nat.le_refl _) hb5)
  clear hb5
  go_wp2_with fail
  go_ret
  exact ⟨rfl, HB5.out⟩
end Go.Proofs.YtnicnfchkdmieaaGreatDoor
namespace Go.Proofs.YtnicnfchkdmieaaGreatDoor
open Go.ChangeShapes Go.WideShapes Go.Deep Go.RowKit Go.Joins
set_option linter.unusedVariables false
set_option linter.unusedSimpArgs false

theorem cellsT_int : Tryz.prog.cellsOf 3 = 1 := by kernel_rfl
theorem bytesT_int : Tryz.prog.bytesOf 3 = 8 := by kernel_rfl
theorem add_zero_addr' (b o k : Nat) : (⟨b, o, none⟩ : Addr).add k = ⟨b, o + k, none⟩ := by by_cases h : k = 0 <;> simp [Addr.add, h]
theorem open_intsV {H : Type} {enc : TypeId × Value → H} {W : World} {fuel : Nat} {v : Value} {y : DataW H × List MemPlace} (h : DataW.trod enc Tryz.prog W 0 (fun _ => true) true fuel 27 [v] = some y) (hw : ∀ m ∈ y.1.weights Tryz.prog 27, m ≤ reachBytes) :
    ∃ l, IArg W v l := by
  rcases open_ints Tryz.underlying27 Tryz.underlying3 cellsT_int h with ⟨hcs, hx⟩ | ⟨a, len, cap, zs, hcs, _, hl, hm, hz, hx, hcell, hwz⟩
  · cases hcs
    exact ⟨[], none, 0, rfl, by simp, (fun h => absurd rfl h), by simp⟩
  · cases hcs
    subst hx
    simp only [if_true] at hz
    have h1 : ((lits (H := H) .i64 (zs.take len)).length + (lits (H := H) .i64 (zs.drop len)).length) * Tryz.prog.bytesOf 3 ≤ reachBytes := by
      apply hw
      simp only [DataW.weights, Tryz.underlying27]
      exact List.mem_cons_self ..
    rw [bytesT_int] at h1
    simp only [lits, List.length_map, List.length_take, List.length_drop] at h1
    have hr : reachBytes = 140737488351232 := rfl
    rw [hr] at h1
    have hlen : (zs.take len).length = len := by simp; omega
    refine ⟨zs.take len, some a, cap, by rw [hlen], by rw [hlen]; omega, (fun hn => ?_), fun x hx => bounds_i64 (hwz x (List.mem_of_mem_take hx))⟩
    have hpos : 0 < len := by
      rcases Nat.eq_zero_or_pos len with h0 | h0
      · subst h0; simp at hn
      · exact h0
    obtain ⟨b, o, spot⟩ := a
    have hsp : spot = none := by
      have h1 := hcell 0 (by omega)
      simpa [Addr.add] using World.cell?_spot h1
    subst hsp
    refine ⟨b, o, rfl, fun k hk => ?_⟩
    rw [hlen] at hk
    have h2 := hcell k (by omega)
    rw [add_zero_addr'] at h2
    rw [h2]
    simp [List.getD, List.getElem?_eq_getElem (show k < zs.length by omega)]
set_option maxRecDepth 100000 in
theorem open_intsA {H : Type} {enc : TypeId × Value → H} {W : World} {b0 : Nat} {v : Value} {d : DataW H} {p : List MemPlace} (hv : Value.okWide Tryz.prog W .any b0 27 v) (h : DataW.Trod enc Tryz.prog W 0 (fun _ => true) true 27 v d p) (hw : ∀ m ∈ d.weights Tryz.prog 27, m ≤ reachBytes) :
    ∃ l, IArg W v l := by
  obtain ⟨a0, len, cap, rfl⟩ := okWide_slice Tryz.underlying27 hv
  obtain ⟨fuel, hf⟩ := h
  exact open_intsV (by simpa [Value.cells] using hf) hw
theorem cellsNd : Tryz.prog.cellsOf 42 = 4 := by kernel_rfl
theorem cellsNint : Tryz.prog.cellsOf 3 = 1 := by kernel_rfl
theorem cellsNu64 : Tryz.prog.cellsOf 35 = 1 := by kernel_rfl
theorem cellsNstr : Tryz.prog.cellsOf 9 = 1 := by kernel_rfl
theorem bytesNd : Tryz.prog.bytesOf 42 = 40 := by kernel_rfl
theorem bulk_mem {H : Type} : ∀ (l : List (DataW H)) (d : DataW H), d ∈ l → Rows.uptoBulk d ≤ Rows.uptoBulkAll l
  | [], d, h => by cases h
  | x :: r, d, h => by
    rw [Rows.uptoBulkAll]
    rcases List.mem_cons.1 h with rfl | h
    · omega
    · have := bulk_mem r d h; omega
theorem bulk_len {H : Type} : ∀ (l : List (DataW H)), l.length ≤ Rows.uptoBulkAll l
  | [] => by simp
  | x :: r => by
    have h1 : 1 ≤ Rows.uptoBulk x := by
      cases x with
      | lit l => cases l <;> simp [Rows.uptoBulk]
      | _ => simp [Rows.uptoBulk]
    have := bulk_len r
    rw [Rows.uptoBulkAll, List.length_cons]
    omega
set_option maxRecDepth 100000 in
theorem nd_cells {H : Type} {enc : TypeId × Value → H} {W : World} {n : Nat} {cs : List Value} {x : DataW H × List MemPlace} (h : DataW.trod enc Tryz.prog W 0 (fun _ => true) true n 42 cs = some x) :
    ∃ o : Nd, cs = [.int .i64 o.kind, .int .u64 o.num, .string ⟨o.str.toArray⟩, .int .i64 o.pos] ∧ 0 ≤ o.num ∧ o.str.length ≤ Rows.uptoBulk x.1 ∧ (-9223372036854775808 ≤ o.kind ∧ o.kind ≤ 9223372036854775807) ∧ (-9223372036854775808 ≤ o.pos ∧ o.pos ≤ 9223372036854775807) := by
  obtain ⟨xs, n', _, hx, hlen, hxl, hf⟩ := DataW.trod_struct Tryz.underlying42 h
  rw [cellsNd] at hlen
  match cs, hlen with
  | [c0, c1, c2, c3], _ =>
    have hxl' : xs.length = 4 := hxl
    match xs, hxl' with
    | [y0, y1, y2, y3], _ =>
      have h0 : DataW.trod enc Tryz.prog W 0 (fun _ => true) true n' 3 (List.take (Tryz.prog.cellsOf 3) [c0, c1, c2, c3]) = some y0 := hf 0 _ rfl
      have h1 : DataW.trod enc Tryz.prog W 0 (fun _ => true) true n' 35 (List.take (Tryz.prog.cellsOf 35) [c1, c2, c3]) = some y1 := hf 1 _ rfl
      have h2 : DataW.trod enc Tryz.prog W 0 (fun _ => true) true n' 9 (List.take (Tryz.prog.cellsOf 9) [c2, c3]) = some y2 := hf 2 _ rfl
      have h3 : DataW.trod enc Tryz.prog W 0 (fun _ => true) true n' 3 (List.take (Tryz.prog.cellsOf 3) [c3]) = some y3 := hf 3 _ rfl
      rw [cellsNint] at h0 h3
      rw [cellsNu64] at h1
      rw [cellsNstr] at h2
      obtain ⟨a, e0, _, wa⟩ := DataW.trod_int Tryz.underlying3 h0
      obtain ⟨b, e1, _, wb⟩ := DataW.trod_int Tryz.underlying35 h1
      obtain ⟨s, e2, hy2, _⟩ := DataW.trod_string Tryz.underlying9 h2
      obtain ⟨d, e3, _, wd⟩ := DataW.trod_int Tryz.underlying3 h3
      simp at e0 e1 e2 e3
      refine ⟨⟨a, b, s.data.toList, d⟩, by rw [e0, e1, e2, e3], (bounds_u64 wb).1, ?_, bounds_i64 wa, bounds_i64 wd⟩
      rw [hx]
      simp only [List.map_cons, List.map_nil, Rows.uptoBulk, Rows.uptoBulkAll, hy2]
      omega
set_option maxRecDepth 100000 in
theorem open_nodes {H : Type} {enc : TypeId × Value → H} {W : World} {base : Nat} {v : Value} {d : DataW H} {p : List MemPlace} (hv : Value.okWide Tryz.prog W .any base 33 v) (h : DataW.Trod enc Tryz.prog W 0 (fun _ => true) true 33 v d p) (hw : Rows.uptoBulk d ≤ 1048576) :
    ∃ l : List Nd, NSl W v l ∧ l.length ≤ 1048576 ∧ ∀ t ∈ l, t.str.length ≤ 1048576 := by
  obtain ⟨a0, len, cap, rfl⟩ := okWide_slice Tryz.underlying33 hv
  obtain ⟨fuel, hf⟩ := h
  rcases open_slice Tryz.underlying33 hf with ⟨hcs, _⟩ | ⟨a, len', cap', m, n, D, Pl, hcs, hb, hl, hm, hmm, hx, hi⟩
  · simp [Value.cells] at hcs
    obtain ⟨rfl, rfl, rfl⟩ := hcs
    exact ⟨[], ⟨⟨none, 0, rfl, fun h => absurd rfl h⟩, by simp⟩, by simp, by simp⟩
  · simp [Value.cells] at hcs
    obtain ⟨rfl, rfl, rfl⟩ := hcs
    simp only [if_true] at hmm
    rw [cellsNd] at hi
    injection hx with hx _
    have hall : Rows.uptoBulkAll ((List.range len).map D) ≤ 1048576 := by
      rw [hx, Rows.uptoBulk] at hw; omega
    have hlen1 : len ≤ 1048576 := by
      have := bulk_len ((List.range len).map D)
      rw [List.length_map, List.length_range] at this
      omega
    have key : ∀ i, ∃ o : Nd, i < len → (W.cell? ((a.add (i * 4)).add 0) = some (.int .i64 o.kind) ∧ W.cell? ((a.add (i * 4)).add 1) = some (.int .u64 o.num) ∧ W.cell? ((a.add (i * 4)).add 2) = some (.string ⟨o.str.toArray⟩) ∧ W.cell? ((a.add (i * 4)).add 3) = some (.int .i64 o.pos)) ∧ 0 ≤ o.num ∧ o.str.length ≤ 1048576 := by
      intro i
      by_cases hil : i < len
      · obtain ⟨cs', hc, ht⟩ := hi i (by omega)
        obtain ⟨o, rfl, hn, hwt, _⟩ := nd_cells ht
        obtain ⟨_, _, hat⟩ := World.cells?_some hc
        refine ⟨o, fun _ => ⟨⟨hat 0 (by omega), hat 1 (by omega), hat 2 (by omega), hat 3 (by omega)⟩, hn, ?_⟩⟩
        have := bulk_mem _ (D i) (List.mem_map.2 ⟨i, List.mem_range.2 hil, rfl⟩)
        exact Nat.le_trans hwt (Nat.le_trans this hall)
      · exact ⟨⟨0, 0, [], 0⟩, fun h => absurd h hil⟩
    obtain ⟨f, hfo⟩ : ∃ f : Nat → Nd, ∀ i, i < len → (W.cell? ((a.add (i * 4)).add 0) = some (.int .i64 (f i).kind) ∧ W.cell? ((a.add (i * 4)).add 1) = some (.int .u64 (f i).num) ∧ W.cell? ((a.add (i * 4)).add 2) = some (.string ⟨(f i).str.toArray⟩) ∧ W.cell? ((a.add (i * 4)).add 3) = some (.int .i64 (f i).pos)) ∧ 0 ≤ (f i).num ∧ (f i).str.length ≤ 1048576 := ⟨fun i => (key i).choose, fun i => (key i).choose_spec⟩
    have hlen : ((List.range len).map f).length = len := by simp
    refine ⟨(List.range len).map f, ⟨⟨some a, cap, by rw [hlen], fun hne => ?_⟩, ?_⟩, by rw [hlen]; omega, ?_⟩
    · have hpos : 0 < len := by
        rcases Nat.eq_zero_or_pos len with h0 | h0
        · subst h0; simp at hne
        · exact h0
      obtain ⟨ab, ao, spot⟩ := a
      have hsp : spot = none := by
        have h1 := (hfo 0 hpos).1.1
        simpa [Addr.add] using World.cell?_spot h1
      subst hsp
      refine ⟨ab, ao, rfl, fun i hil => ?_⟩
      rw [hlen] at hil
      obtain ⟨⟨h0, h1, h2, h3⟩, _⟩ := hfo i hil
      have e : ∀ j, (⟨ab, ao, none⟩ : Addr).add j = ⟨ab, ao + j, none⟩ := fun j => by by_cases hj : j = 0 <;> simp [Addr.add, hj]
      have e2 : ∀ j, (⟨ab, ao + i * 4, none⟩ : Addr).add j = ⟨ab, ao + i * 4 + j, none⟩ := fun j => by by_cases hj : j = 0 <;> simp [Addr.add, hj]
      rw [e, e2] at h0 h1 h2 h3
      simp only [List.getElem_map, List.getElem_range]
      exact ⟨h0, h1, h2, h3⟩
    · intro t ht
      obtain ⟨i, hi', rfl⟩ := List.mem_map.1 ht
      exact ⟨by have := (hfo i (List.mem_range.1 hi')).2.2; omega, (hfo i (List.mem_range.1 hi')).2.1⟩
    · intro t ht
      obtain ⟨i, hi', rfl⟩ := List.mem_map.1 ht
      exact (hfo i (List.mem_range.1 hi')).2.2
/-- A node as a value. -/
def ndV (t : Nd) : Value := .agg #[.int .i64 t.kind, .int .u64 t.num, .string ⟨t.str.toArray⟩, .int .i64 t.pos]
set_option maxRecDepth 100000 in
theorem open_node {H : Type} {enc : TypeId × Value → H} {W : World} {b0 : Nat} {v : Value} {d : DataW H} {p : List MemPlace} (hv : Value.okWide Tryz.prog W .any b0 42 v) (h : DataW.Trod enc Tryz.prog W 0 (fun _ => true) true 42 v d p) (hw : Rows.uptoBulk d ≤ 1048576) :
    ∃ t : Nd, v = ndV t ∧ 0 ≤ t.num ∧ t.num ≤ 18446744073709551615 ∧ t.str.length ≤ 1048576 ∧ (-9223372036854775808 ≤ t.kind ∧ t.kind ≤ 9223372036854775807) ∧ (-9223372036854775808 ≤ t.pos ∧ t.pos ≤ 9223372036854775807) := by
  obtain ⟨c0, c1, c2, c3, y0, y1, y2, y3, n, rfl, rfl, rfl, h0, h1, h2, h3⟩ := open_agg4 Tryz.underlying42 (by kernel_rfl) (by kernel_rfl) hv h
  obtain ⟨k, e0, _, wk⟩ := DataW.trod_int Tryz.underlying3 h0
  obtain ⟨m, e1, _, wm⟩ := DataW.trod_int Tryz.underlying35 h1
  obtain ⟨s, e2, x2, _⟩ := DataW.trod_string Tryz.underlying9 h2
  obtain ⟨o, e3, _, wo⟩ := DataW.trod_int Tryz.underlying3 h3
  simp at e0 e1 e2 e3
  subst e0 e1 e2 e3
  obtain ⟨b1, b2⟩ := bounds_u64 wm
  have hl : s.data.toList.length ≤ 1048576 := by
    simp only [List.map_cons, List.map_nil, Rows.uptoBulk, Rows.uptoBulkAll, x2] at hw
    omega
  exact ⟨⟨k, m, s.data.toList, o⟩, rfl, b1, b2, hl, bounds_i64 wk, bounds_i64 wo⟩
end Go.Proofs.YtnicnfchkdmieaaGreatDoor
namespace Go.Proofs.YtnicnfchkdmieaaGreatDoor
open Go.RowKit
set_option linter.unusedVariables false
set_option linter.unusedSimpArgs false
attribute [local go_sem] ByteArray.mk_append_mk bs_get bs_cut bs_end

theorem IArg.below {w w' : World} {v : Value} {l : List Int} (h : IArg w v l) (hb : Below w.heap.size w w') : IArg w' v l := by
  obtain ⟨a, cap, hv, hl, hc, hx⟩ := h
  refine ⟨a, cap, hv, hl, fun hn => ?_, hx⟩
  obtain ⟨b, off, ha, hk⟩ := hc hn
  exact ⟨b, off, ha, fun k hkl => (hb.cell (p := ⟨b, off + k, none⟩) (World.block_lt_of_cell? w _ (hk k hkl))).trans (hk k hkl)⟩
theorem tcI_setj (A C : List Nd) (t t' : Nd) (j : Nat) (u : Value) (hj : j < 4) (h : (tcI [t]).set j u = tcI [t']) : (tcI (A ++ t :: C)).set (A.length * 4 + j) u = tcI (A ++ t' :: C) := by
  have e1 : ∀ x : Nd, tcI (A ++ x :: C) = tcI A ++ (tcI [x] ++ tcI C) := fun x => by rw [tcI_app, show x :: C = [x] ++ C from rfl, tcI_app]
  rw [e1, e1, List.set_append_right _ _ (by rw [tcI_len]; omega), tcI_len, show A.length * 4 + j - A.length * 4 = j by omega, List.set_append_left _ _ (by rw [tcI_len]; simpa using hj), h]
theorem nds_split {ms : List Nd} {k : Nat} (h : k < ms.length) : ∃ A t C, ms = A ++ t :: C ∧ A.length = k ∧ ms[k] = t :=
  ⟨ms.take k, ms[k], ms.drop (k + 1), by rw [← List.drop_eq_getElem_cons h, List.take_append_drop], by rw [List.length_take]; omega, rfl⟩
/-- A node of the call's own nodes: its cells, and a store. -/
theorem NodesI.node {w : World} {B g n c k : Nat} {A C : List Nd} {t : Nd} (h : NodesI w B (.slice (some ⟨g, 0, none⟩) n c) (A ++ t :: C)) (hk : A.length = k) :
    (w.cell? ⟨g, k * 4, none⟩ = some (.int .i64 t.kind) ∧ w.cell? ⟨g, k * 4 + 1, none⟩ = some (.int .u64 t.num) ∧ w.cell? ⟨g, k * 4 + 2, none⟩ = some (.string ⟨t.str.toArray⟩) ∧ w.cell? ⟨g, k * 4 + 3, none⟩ = some (.int .i64 t.pos)) ∧
    (∀ j, w.frozen? ⟨g, j, none⟩ = false) ∧ B ≤ g ∧
    ∀ (j : Nat) (u : Value) (t' : Nd), j < 4 → (tcI [t]).set j u = tcI [t'] → NodesI (w.setCell ⟨g, k * 4 + j, none⟩ u) B (.slice (some ⟨g, 0, none⟩) n c) (A ++ t' :: C) ∧ Below B w (w.setCell ⟨g, k * 4 + j, none⟩ u) := by
  subst hk
  obtain rfl : n = (A ++ t :: C).length := by
    obtain ⟨a, c', e⟩ := h.form
    injection e
  have hB : B ≤ g := own_row h rfl
  have hc : ∀ j, j < 4 → w.cell? ⟨g, A.length * 4 + j, none⟩ = (tcI [t])[j]? := fun j hj => by
    rw [World.ownsRow.cellAt h _ (by rw [List.length_append, List.length_cons]; omega), show A ++ t :: C = A ++ ([t] ++ C) from rfl, tcI_app, tcI_app, List.getElem?_append_right (by rw [tcI_len]; omega), tcI_len, show A.length * 4 + j - A.length * 4 = j by omega, List.getElem?_append_left (by rw [tcI_len]; simpa using hj)]
  refine ⟨⟨hc 0 (by omega), hc 1 (by omega), hc 2 (by omega), hc 3 (by omega)⟩, fun j => World.ownsRow.frozenAt h j, hB, fun j u t' hj ht => ?_⟩
  obtain ⟨k1, k2⟩ := World.ownsRow.stored h (A.length * 4 + j) u
  rw [tcI_setj A C t t' j u hj ht] at k1
  have hL : (A ++ t :: C).length = (A ++ t' :: C).length := by simp
  refine ⟨?_, (Below.refl _ _).setCell hB _⟩
  unfold NodesI
  rw [← hL]
  exact k1
theorem NodesI.cap {w : World} {B n c : Nat} {a : Option Addr} {l : List Nd} (h : NodesI w B (.slice a n c) l) : n ≤ c := by
  rcases h.2 with ⟨hv, h0⟩ | ⟨g, cap, cur, hv, hb, hg, hn, _⟩
  · injection hv with _ e2 e3; omega
  · injection hv with _ e2 e3; omega
theorem NodesI.front {w : World} {B g n c k : Nat} {A C : List Nd} (h : NodesI w B (.slice (some ⟨g, 0, none⟩) n c) (A ++ C)) (hk : A.length = k) : NodesI w B (.slice (some ⟨g, 0, none⟩) k c) A := by
  subst hk
  rcases h.2 with ⟨hv, h0⟩ | ⟨g', cap, cur, hv, hb, hg, hn, hm, hs, ht⟩
  · cases hv
  · injection hv with e1 e2 e3
    injection e1 with e1
    injection e1 with e1
    subst e1 e3
    have hle : A.length ≤ (A ++ C).length := by rw [List.length_append]; omega
    refine ⟨by rw [tcI_len], .inr ⟨g, c, cur, rfl, hb, hg, Nat.le_trans hle hn, hm, hs, ?_⟩⟩
    have h2 := congrArg (List.take (A.length * 4)) ht
    rw [List.take_take, tcI_app, List.take_left' (by rw [tcI_len]), Nat.min_eq_left (by omega)] at h2
    exact h2
/-- One node is cut out of the call's own nodes, in place. -/
theorem wpList_append_cut {w : World} {ops : Array Oper} {rest : List Oper} {o : Oper} {a : Act} {Q : Exit → Act → World → Prop} (hgd : o.guard = none) (s x : Operand)
    (ho : o.op = .call { callee := .builtin .append, args := #[s, x], argTypes := #[33, 33] })
    (B g n c k : Nat) (A C : List Nd) (t : Nd) (hs : a.eval s = .slice (some ⟨g, 0, none⟩) k c) (hown : NodesI w B (.slice (some ⟨g, 0, none⟩) n c) (A ++ t :: C)) (hk : A.length = k)
    (ad : Addr) (m cap : Nat) (hx : a.eval x = .slice (some ad) m cap) (had : C ≠ [] → ad = ⟨g, (k + 1) * 4, none⟩) (hm : m = C.length) (hlen : (A ++ t :: C).length ≤ 1000000) (hB : B ≤ w.heap.size)
    (h : ∀ v' w', NodesI w' B v' (A ++ C) → w.grownBy w' (some g) → wpList Tryz.prog ops Q rest (a.put o.dst v') w') : wpList Tryz.prog ops Q (o :: rest) a w := by
  obtain ⟨i0, hi, hz0, hz1, hz2⟩ := info_parts infoNode
  have hfr := hown.front hk
  subst hk hm
  obtain rfl : n = (A ++ t :: C).length := by
    obtain ⟨a, c', e⟩ := hown.form
    injection e
  rw [List.length_append, List.length_cons] at hlen
  refine wpList_append_own _ hgd s x _ ho B 42 i0 _ 4 40 Tryz.underlying33 hi hz0 hz1 hz2 rfl (by decide) _ A.length _ hs hfr ad C.length cap (tcI C) hx (by rw [tcI_len]) ?_ ?_ (by unfold maxLen; omega) (by omega) hB ?_
  · intro j z hj
    have hjl : j < C.length * 4 := by
      rcases Nat.lt_or_ge j (C.length * 4) with h | h
      · exact h
      · rw [List.getElem?_eq_none (by rw [tcI_len]; omega)] at hj; cases hj
    have hne : C ≠ [] := by rintro rfl; simp at hjl
    rw [had hne, add_zero_addr', World.ownsRow.cellAt hown _ (by rw [List.length_append, List.length_cons]; omega), tcI_app, List.getElem?_append_right (by rw [tcI_len]; omega), tcI_len,
      show t :: C = [t] ++ C from rfl, tcI_app, List.getElem?_append_right (by rw [tcI_len]; simp; omega), tcI_len]
    rw [show (A.length + 1) * 4 + j - A.length * 4 - [t].length * 4 = j by simp; omega]
    exact hj
  · intro z hz
    exact tcI_one C z hz
  · intro v' w' h1 h2 _
    refine h v' w' ?_ h2
    unfold NodesI
    rw [List.length_append, tcI_app]
    exact h1
/-- Nodes whose texts and numbers fit. -/
def NdF (l : List Nd) : Prop := ∀ t ∈ l, t.str.length ≤ 1048576 ∧ 0 ≤ t.num
theorem NdF.nsl {w : World} {B : Nat} {v : Value} {l : List Nd} (h : NdF l) (hn : NodesI w B v l) : NSl w v l := hn.sl (fun t ht => ⟨by have := (h t ht).1; omega, (h t ht).2⟩)
theorem NdF.put {A C : List Nd} {t t' : Nd} (h : NdF (A ++ t :: C)) (h' : t'.str.length ≤ 1048576 ∧ 0 ≤ t'.num) : NdF (A ++ t' :: C) := fun x hx => by
  rcases List.mem_append.1 hx with hx | hx
  · exact h x (List.mem_append.2 (.inl hx))
  · rcases List.mem_cons.1 hx with rfl | hx
    · exact h'
    · exact h x (List.mem_append.2 (.inr (List.mem_cons_of_mem _ hx)))
theorem validL_len {l : List Nd} (h : validL l = true) : l.length ≤ 2048 := by
  unfold validL at h
  simp only [Bool.and_eq_true, decide_eq_true_eq] at h
  exact h.1
set_option maxRecDepth 100000 in
set_option maxHeartbeats 16000000 in
theorem law_validates (p : List Nd) (v0 : Value) (l : List Int) (v1 : Value) (at_ : Int) (x : Nd) (kd : Nat) (m : Int) (W : World) (hp : NSl W v0 p) (hpl : p.length ≤ 1048576) (hps : ∀ t ∈ p, t.str.length ≤ 1048576) (hl : IArg W v1 l) (hx0 : 0 ≤ x.num) (hxs : x.str.length ≤ 1048576) (hkd : kd ≤ 255) (hm : SynG m W) :
    Calls Tryz.prog 5 #[v0, v1, .int .i64 at_, .agg #[.int .i64 x.kind, .int .u64 x.num, .string ⟨x.str.toArray⟩, .int .i64 x.pos], .int .u8 kd] W fun e w' => e = .returned (.bool true) ∧ Below W.heap.size W w' := by
  obtain ⟨xk, xn, xs, xp⟩ := x
  simp only at hx0 hxs ⊢
  have HP0 := Lib.hid hp
  have HM0 := Lib.hid hm
  have HPS := Lib.hid hps
  obtain ⟨pa, pc, rfl, _⟩ := hp.1
  have HB0 : Hid (Below W.heap.size W (W.alloc (nObj xk xn xs xp))) := Lib.hid ((Below.refl _ _).alloc (Nat.le_refl _) _)
  have HA0 : Hid ((W.alloc (nObj xk xn xs xp)).heap[W.heap.size]? = some (nObj xk xn xs xp)) := Lib.hid (heap_alloc_new _ _)
  have HI0 : Hid (IArg (W.alloc (nObj xk xn xs xp)) v1 l) := Lib.hid (IArg.below hl HB0.out)
  obtain ⟨ia, ic, rfl, _⟩ := hl
  obtain ⟨L, hL⟩ : ∃ L, p.length = L := ⟨_, rfl⟩
  have HL := Lib.hid hL
  rw [hL] at HP0 hpl ⊢
  obtain ⟨IL, hIL⟩ : ∃ L, l.length = L := ⟨_, rfl⟩
  rw [hIL] at HI0 ⊢
  clear hL hp hm hps hIL
  go_enter Tryz.func5, Tryz.ntmps5
  go_upto_region 1 with fail
  obtain ⟨A, hA⟩ : ∃ A, W.heap.size = A := ⟨_, rfl⟩
  have HAE := Lib.hid hA
  rw [hA] at HA0 HB0
  (try simp only [hA])
  clear hA
  generalize W.alloc (nObj xk xn xs xp) = W0 at HB0 HA0 HI0 ⊢
  have hAl : A < W0.heap.size := lt_of_block HA0.out
  have HPR := Lib.hid (program_any _ l W0 HI0.out)
  unfold ProgPost at HPR
  go_wp2_with fail
  ((with_reducible refine HPR.out.mono ?_))
  rintro e w1 ⟨v, ns, rfl, hn, hg, hv, hb⟩
  have HN := Lib.hid hn
  have HGD : Hid (NdF ns) := Lib.hid (fun t ht => ⟨by have := (hg t ht).1; omega, (hg t ht).2⟩)
  have HLN := Lib.hid (validL_len hv)
  have HB1 := Lib.hid hb
  have hlen1 : ns.length ≤ 2048 := validL_len hv
  have hsz1 : W0.heap.size ≤ w1.heap.size := hb.size
  clear hn hg hv hb HPR HI0
  go_upto_region 2 with (at_builtin; refine wpList_append_nodes rfl _ _ rfl W0.heap.size (.slice none 0 0) [] rfl (NodesI.nil _ _) W0.heap.size v ns rfl HN.out (by simp; omega) hsz1 ?_; intro v2 w2 ho hg; have HO := Lib.hid ho; have HGR := Lib.hid hg; clear ho hg)
  rw [List.nil_append] at HO
  have HB2 : Hid (Below W0.heap.size W0 w2) := Lib.hid (HB1.out.grown HGR.out hsz1 (fun k hk => by cases hk))
  clear HGR HN HB1
  obtain ⟨a2, c2, rfl⟩ := HO.out.form
  obtain ⟨n, hn⟩ : ∃ n, ns.length = n := ⟨_, rfl⟩
  have HNL := Lib.hid hn
  rw [hn] at HO hlen1 ⊢
  (try simp only [hn])
  clear hn HLN
  go_upto_if 18 with fail
  go_cut [11] (fun z wx => ∃ (a : Option Addr) (c : Nat) (ms : List Nd), z = .slice a ms.length c ∧ ms.length ≤ 2048 ∧ Hid (NodesI wx W0.heap.size (.slice a ms.length c) ms) ∧ Hid (NdF ms) ∧ Hid (Below W0.heap.size W0 wx))
  case first =>
    by_cases h0 : 0 < n
    · have h0' : (0 : Int) < (n : Int) := by omega
      have HMD := Lib.hid (fun w => mod_any at_ n w h0' (by omega))
      have hnn := modV_nonneg at_ n h0'
      have hln := modV_lt at_ n h0'
      obtain ⟨k, hk⟩ : ∃ k : Nat, modV at_ n = k := ⟨(modV at_ n).toNat, by omega⟩
      rw [hk] at HMD hln
      clear hk hnn
      have hkn : k < n := by omega
      have hm1 : ((kd : Int).tmod 6) = ((kd % 6 : Nat) : Int) := (Int.ofNat_tmod kd 6).symm
      have hm2 : kd % 6 < 6 := Nat.mod_lt _ (by decide)
      obtain ⟨q, hq⟩ : ∃ q, kd % 6 = q := ⟨_, rfl⟩
      rw [hq] at hm1 hm2
      clear hq
      obtain ⟨LA, t, LC, hms, hla, _⟩ := nds_split (ms := ns) (k := k) (by rw [HNL.out]; exact hkn)
      subst hms
      have hON := HO.out
      have ha2 : ∃ g, a2 = some ⟨g, 0, none⟩ := by
        rcases HO.out.2 with ⟨hv, h1⟩ | ⟨g, cap, cur, hv, _⟩
        · have := HNL.out; simp at h1
        · injection hv with e1 _ _; exact ⟨g, e1⟩
      obtain ⟨g, rfl⟩ := ha2
      obtain ⟨⟨c0, c1, c3, c4⟩, hfr, hgB, hput⟩ := HO.out.node hla
      have HPUT := Lib.hid hput
      obtain ⟨tk, tn, ts, tp⟩ := t
      simp only at c0 c1 c3 c4
      have d0 := hfr (k * 4)
      have d1 := hfr (k * 4 + 1)
      have d2 := hfr (k * 4 + 2)
      have d3 := hfr (k * 4 + 3)
      have HTG := Lib.hid (HGD.out ⟨tk, tn, ts, tp⟩ (by simp))
      obtain ⟨b0, b1, b2, b3⟩ := cells4 (blk_below HA0.out HB2.out)
      have hk1 : (k : Int) < (n : Int) := hln
      have hAg : A ≠ g := by omega
      have HLL : Hid (∀ t' : Nd, (LA ++ t' :: LC).length = n) := Lib.hid (fun t' => by have := HNL.out; simp only [List.length_append, List.length_cons] at this ⊢; exact this)
      have hq6 : q = 0 ∨ q = 1 ∨ q = 2 ∨ q = 3 ∨ q = 4 ∨ q = 5 := by omega
      have HLA := Lib.hid hla
      have HLC : Hid (LC.length + k + 1 = n) := Lib.hid (by have := HNL.out; simp only [List.length_append, List.length_cons] at this; omega)
      clear hON hput hfr hla
      rcases hq6 with rfl | rfl | rfl | rfl | rfl | rfl
      · have HM9 := Lib.hid (fun w => mod_any xp 3 w (by omega) (by omega))
        obtain ⟨y, hy⟩ : ∃ y, modV xp 3 = y := ⟨_, rfl⟩
        rw [hy] at HM9
        clear hy
        go_wp2_with fail
        ((with_reducible refine (HMD.out _).mono ?_))
        rintro e w3 ⟨rfl, rfl⟩
        go_upto_region 6 with fail
        have k0 : ∀ x, Grows w2 x → x.cell? ⟨g, k * 4 + 3, none⟩ = some (.int .i64 tp) := fun x hx => (hx.cell (p := ⟨g, k * 4 + 3, none⟩) (World.block_lt_of_cell? w2 _ c4)).trans c4
        have k1 : ∀ x, Grows w2 x → x.cell? ⟨A, 3, none⟩ = some (.int .i64 xp) := fun x hx => (hx.cell (p := ⟨A, 3, none⟩) (World.block_lt_of_cell? w2 _ b3)).trans b3
        refine wp_region_plan (Grows w2) 12 [.reads [0, 1, 2, 3, 4, 5, 6], .act 7, .reads [8, 9, 10, 11], .act 12] (by kernel_rfl) (by kernel_rfl) (by kernel_rfl) (by kernel_rfl) (by kernel_rfl) (fun _ _ d _ _ h => by cases d <;> exact h) (Grows.self _) ?_
        refine wpPlan_reads ?_
        simp only [pickOps, List.drop_succ_cons, List.drop_zero, List.take_succ_cons, List.take_zero, List.cons_append, List.nil_append]
        repeat (go_big_quiet_step (first | (intro hb; rw [k0 _ hb]; exact ⟨rfl, rfl⟩) | (intro hb; rw [k1 _ hb]; exact ⟨rfl, rfl⟩)))
        refine wpQuiet_nil ?_
        refine wpPlan_act rfl ?_
        simp only [pickOps, List.drop_succ_cons, List.drop_zero, List.take_succ_cons, List.take_zero, List.cons_append, List.nil_append]
        go_wp2_with fail
        ((with_reducible refine (HM9.out _).mono ?_))
        rintro e w3 ⟨rfl, rfl⟩
        go_wp2_with fail
        refine ⟨fun h => (Grows.self _), ?_⟩
        refine wpPlan_reads ?_
        simp only [pickOps, List.drop_succ_cons, List.drop_zero, List.take_succ_cons, List.take_zero, List.cons_append, List.nil_append]
        repeat (go_big_quiet_step (fail))
        refine wpQuiet_nil ?_
        refine wpPlan_act rfl ?_
        simp only [pickOps, List.drop_succ_cons, List.drop_zero, List.take_succ_cons, List.take_zero, List.cons_append, List.nil_append]
        go_wp2_with fail
        refine ⟨fun h => absurd h (by decide), wpPlan_nil ?_⟩
        go_wp2_with fail
        have HS := Lib.hid (HPUT.out 3 (.int .i64 (wrap64 (tp + wrap64 (y - 1)))) ⟨tk, tn, ts, wrap64 (tp + wrap64 (y - 1))⟩ (by omega) rfl)
        go_meet
        refine ⟨_, _, LA ++ (⟨tk, tn, ts, wrap64 (tp + wrap64 (y - 1))⟩ : Nd) :: LC, by rw [HLL.out], ?_⟩
        rw [HLL.out]
        exact ⟨hlen1, Lib.hid (HS.out.1.below (Grows.self _)), Lib.hid (HGD.out.put HTG.out), Lib.hid (Below.drew (HB2.out.trans HS.out.2))⟩
      · have HM9 := Lib.hid (fun w => mod_any xk 90 w (by omega) (by omega))
        obtain ⟨y, hy⟩ : ∃ y, modV xk 90 = y := ⟨_, rfl⟩
        rw [hy] at HM9
        clear hy
        have HS := Lib.hid (HPUT.out 0 (.int .i64 y) ⟨y, tn, ts, tp⟩ (by omega) rfl)
        rw [Nat.add_zero] at HS
        go_wp2_with fail
        ((with_reducible refine (HMD.out _).mono ?_))
        rintro e w3 ⟨rfl, rfl⟩
        go_wp2_with fail
        ((with_reducible refine (HM9.out _).mono ?_))
        rintro e w3 ⟨rfl, rfl⟩
        go_wp2_with fail
        go_meet
        refine ⟨_, _, LA ++ (⟨y, tn, ts, tp⟩ : Nd) :: LC, by rw [HLL.out], ?_⟩
        rw [HLL.out]
        exact ⟨hlen1, Lib.hid HS.out.1, Lib.hid (HGD.out.put HTG.out), Lib.hid (HB2.out.trans HS.out.2)⟩
      · have HS := Lib.hid (HPUT.out 1 (.int .u64 xn) ⟨tk, xn, ts, tp⟩ (by omega) rfl)
        (try rw [Nat.add_zero] at HS)
        go_wp2_with fail
        ((with_reducible refine (HMD.out _).mono ?_))
        rintro e w3 ⟨rfl, rfl⟩
        go_wp2_with fail
        go_meet
        refine ⟨_, _, LA ++ (⟨tk, xn, ts, tp⟩ : Nd) :: LC, by rw [HLL.out], ?_⟩
        rw [HLL.out]
        exact ⟨hlen1, Lib.hid HS.out.1, Lib.hid (HGD.out.put ⟨HTG.out.1, hx0⟩), Lib.hid (HB2.out.trans HS.out.2)⟩
      · have HS := Lib.hid (HPUT.out 2 (.string ⟨xs.toArray⟩) ⟨tk, tn, xs, tp⟩ (by omega) rfl)
        (try rw [Nat.add_zero] at HS)
        go_wp2_with fail
        ((with_reducible refine (HMD.out _).mono ?_))
        rintro e w3 ⟨rfl, rfl⟩
        go_wp2_with fail
        go_meet
        refine ⟨_, _, LA ++ (⟨tk, tn, xs, tp⟩ : Nd) :: LC, by rw [HLL.out], ?_⟩
        rw [HLL.out]
        exact ⟨hlen1, Lib.hid HS.out.1, Lib.hid (HGD.out.put ⟨hxs, HTG.out.2⟩), Lib.hid (HB2.out.trans HS.out.2)⟩
      · have hnc : n ≤ c2 := HO.out.cap
        have hkc : (k : Int) ≤ (c2 : Int) := by omega
        have hkc1 : (k : Int) + 1 ≤ (n : Int) := by omega
        have hkc2 : (k : Int) + 1 ≤ (c2 : Int) := by omega
        by_cases hc : c2 = k + 1
        · subst hc
          go_wp2_with fail
          ((with_reducible refine (HMD.out _).mono ?_))
          rintro e w3 ⟨rfl, rfl⟩
          go_upto_region 14 with fail
          refine wp_region_plan (Grows w2) 7 [.reads [0, 1, 2, 3, 4, 5, 6], .act 7, .act 8] (by kernel_rfl) (by kernel_rfl) (by kernel_rfl) (by kernel_rfl) (by kernel_rfl) (fun _ _ d _ _ h => by cases d <;> exact h) (Grows.self _) ?_
          refine wpPlan_reads ?_
          simp only [pickOps, List.drop_succ_cons, List.drop_zero, List.take_succ_cons, List.take_zero, List.cons_append, List.nil_append]
          repeat (go_big_quiet_step (fail))
          refine wpQuiet_nil ?_
          refine wpPlan_act rfl ?_
          simp only [pickOps, List.drop_succ_cons, List.drop_zero, List.take_succ_cons, List.take_zero, List.cons_append, List.nil_append]
          have HOD : Hid (NodesI w2.drew W0.heap.size (.slice (some ⟨g, 0, none⟩) n (k + 1)) (LA ++ (⟨tk, tn, ts, tp⟩ : Nd) :: LC)) := Lib.hid (HO.out.below (Grows.self _))
          have hszd : W0.heap.size ≤ w2.drew.heap.size := HB2.out.size
          go_wp2_with (at_builtin; refine wpList_append_cut rfl _ _ rfl W0.heap.size g n ((k + 1)) k LA LC ⟨tk, tn, ts, tp⟩ rfl HOD.out HLA.out _ _ _ rfl (fun hne => absurd (List.eq_nil_of_length_eq_zero (by have h5 := HLC.out; omega)) hne) (by have h5 := HLC.out; omega) (by have h5 := HLL.out ⟨tk, tn, ts, tp⟩; omega) hszd ?_; intro v4 w4 ho hg; have HO4 := Lib.hid ho; have HG4 := Lib.hid hg; clear ho hg)
          refine ⟨fun h => absurd h (by decide), ?_⟩
          refine wpPlan_act rfl ?_
          simp only [pickOps, List.drop_succ_cons, List.drop_zero, List.take_succ_cons, List.take_zero, List.cons_append, List.nil_append]
          go_wp2_with fail
          refine ⟨fun h => absurd h (by decide), wpPlan_nil ?_⟩
          go_wp2_with fail
          go_meet
          obtain ⟨a4, c4, rfl⟩ := HO4.out.form
          refine ⟨_, _, LA ++ LC, rfl, ?_⟩
          exact ⟨by have h5 := HLC.out; have h6 := HLA.out; rw [List.length_append]; omega, HO4, Lib.hid (fun y hy => HGD.out y (by rcases List.mem_append.1 hy with hy | hy <;> simp [hy])), Lib.hid ((Below.drew HB2.out).grown HG4.out hszd (fun k hk => by injection hk with hk; omega))⟩
        · go_wp2_with fail
          ((with_reducible refine (HMD.out _).mono ?_))
          rintro e w3 ⟨rfl, rfl⟩
          go_upto_region 14 with fail
          refine wp_region_plan (Grows w2) 7 [.reads [0, 1, 2, 3, 4, 5, 6], .act 7, .act 8] (by kernel_rfl) (by kernel_rfl) (by kernel_rfl) (by kernel_rfl) (by kernel_rfl) (fun _ _ d _ _ h => by cases d <;> exact h) (Grows.self _) ?_
          refine wpPlan_reads ?_
          simp only [pickOps, List.drop_succ_cons, List.drop_zero, List.take_succ_cons, List.take_zero, List.cons_append, List.nil_append]
          repeat (go_big_quiet_step (fail))
          refine wpQuiet_nil ?_
          refine wpPlan_act rfl ?_
          simp only [pickOps, List.drop_succ_cons, List.drop_zero, List.take_succ_cons, List.take_zero, List.cons_append, List.nil_append]
          have HOD : Hid (NodesI w2.drew W0.heap.size (.slice (some ⟨g, 0, none⟩) n c2) (LA ++ (⟨tk, tn, ts, tp⟩ : Nd) :: LC)) := Lib.hid (HO.out.below (Grows.self _))
          have hszd : W0.heap.size ≤ w2.drew.heap.size := HB2.out.size
          go_wp2_with (at_builtin; refine wpList_append_cut rfl _ _ rfl W0.heap.size g n (c2) k LA LC ⟨tk, tn, ts, tp⟩ rfl HOD.out HLA.out _ _ _ rfl (fun _ => rfl) (by have h5 := HLC.out; omega) (by have h5 := HLL.out ⟨tk, tn, ts, tp⟩; omega) hszd ?_; intro v4 w4 ho hg; have HO4 := Lib.hid ho; have HG4 := Lib.hid hg; clear ho hg)
          refine ⟨fun h => absurd h (by decide), ?_⟩
          refine wpPlan_act rfl ?_
          simp only [pickOps, List.drop_succ_cons, List.drop_zero, List.take_succ_cons, List.take_zero, List.cons_append, List.nil_append]
          go_wp2_with fail
          refine ⟨fun h => absurd h (by decide), wpPlan_nil ?_⟩
          go_wp2_with fail
          go_meet
          obtain ⟨a4, c4, rfl⟩ := HO4.out.form
          refine ⟨_, _, LA ++ LC, rfl, ?_⟩
          exact ⟨by have h5 := HLC.out; have h6 := HLA.out; rw [List.length_append]; omega, HO4, Lib.hid (fun y hy => HGD.out y (by rcases List.mem_append.1 hy with hy | hy <;> simp [hy])), Lib.hid ((Below.drew HB2.out).grown HG4.out hszd (fun k hk => by injection hk with hk; omega))⟩
      · go_wp2_with fail
        ((with_reducible refine (HMD.out _).mono ?_))
        rintro e w3 ⟨rfl, rfl⟩
        go_wp2_with fail
        go_meet
        refine ⟨_, _, LA ++ (⟨tk, tn, ts, tp⟩ : Nd) :: LC, by rw [HNL.out], ?_⟩
        rw [HNL.out]
        exact ⟨hlen1, HO, HGD, HB2⟩
    · have h0' : ¬ (0 : Int) < (n : Int) := by omega
      go_wp2_with fail
      go_meet
      refine ⟨_, _, ns, by rw [HNL.out], ?_⟩
      rw [HNL.out]
      exact ⟨hlen1, HO, HGD, HB2⟩
  case rest =>
  clear HO HB2 HGD HNL
  obtain ⟨a3, c3, ms, rfl, hml, HO, HGD, HB2⟩ := hcut
  obtain ⟨w3, rfl⟩ : ∃ y : World, y = wc := ⟨_, rfl⟩
  have HBW : Hid (Below A W w3) := Lib.hid (HB0.out.trans (HB2.out.mono (Nat.le_of_lt hAl)))
  have hAw : A ≤ W.heap.size := Nat.le_of_eq HAE.out.symm
  obtain ⟨vp, hvp⟩ : ∃ b, Hid (validL p = b) := ⟨_, Lib.hid rfl⟩
  obtain ⟨vq, hvq⟩ : ∃ b, Hid (validL ms = b) := ⟨_, Lib.hid rfl⟩
  have HG3 := Lib.hid (HM0.out.below HBW.out (by rw [← HAE.out]; exact HM0.out.low))
  have HP3 : Hid (NSl w3 (.slice pa L pc) p) := Lib.hid (HP0.out.below (by rw [HAE.out]; exact HBW.out))
  have HQ3 := Lib.hid (HGD.out.nsl HO.out)
  have HMS := Lib.hid (fun t ht => (HGD.out t ht).1)
  have HAW := Lib.hid (awake_any m w3 HG3.out)
  obtain ⟨ML, hML⟩ : ∃ L, ms.length = L := ⟨_, rfl⟩
  have HML := Lib.hid hML
  rw [hML] at hml HQ3 ⊢
  clear hML HO HGD HB2 HB0 HA0 HP0 HM0
  go_wp2_with fail
  ((with_reducible refine HAW.out.mono ?_))
  rintro e w4 ⟨rfl, hb4⟩
  have HG4 := Lib.hid (HG3.out.below hb4 HG3.out.low)
  have HP4 := Lib.hid (HP3.out.below hb4)
  have HQ4 := Lib.hid (HQ3.out.below hb4)
  have HB4 : Hid (Below A W w4) := Lib.hid (bel_then HBW.out hAw hb4)
  have HV1 := Lib.hid (valid_any m p _ w4 HP4.out HG4.out (by rw [HL.out]; omega))
  rw [hvp.out] at HV1
  clear hb4 HG3 HP3 HQ3 HBW HAW
  go_wp2_with fail
  ((with_reducible refine HV1.out.mono ?_))
  rintro e w5 ⟨rfl, hb5⟩
  have HG5 := Lib.hid (HG4.out.below hb5 HG4.out.low)
  have HP5 := Lib.hid (HP4.out.below hb5)
  have HQ5 := Lib.hid (HQ4.out.below hb5)
  have HB5 : Hid (Below A W w5) := Lib.hid (bel_then HB4.out hAw hb5)
  have HV2 := Lib.hid (rvalid_is p HPS.out vp hvp _ w5 HP5.out (by rw [HL.out]; omega))
  clear hb5 HG4 HP4 HQ4 HB4 HV1
  go_wp2_with fail
  ((with_reducible refine HV2.out.mono ?_))
  rintro e w6 ⟨rfl, hb6⟩
  have HG6 := Lib.hid (HG5.out.below hb6 HG5.out.low)
  have HQ6 := Lib.hid (HQ5.out.below hb6)
  have HB6 : Hid (Below A W w6) := Lib.hid (bel_then HB5.out hAw hb6)
  have HV3 := Lib.hid (valid_any m ms _ w6 HQ6.out HG6.out (by rw [HML.out]; omega))
  rw [hvq.out] at HV3
  clear hb6 HG5 HP5 HQ5 HB5 HV2
  go_wp2_with fail
  ((with_reducible refine HV3.out.mono ?_))
  rintro e w7 ⟨rfl, hb7⟩
  have HQ7 := Lib.hid (HQ6.out.below hb7)
  have HB7 : Hid (Below A W w7) := Lib.hid (bel_then HB6.out hAw hb7)
  have HV4 := Lib.hid (rvalid_is ms HMS.out vq hvq _ w7 HQ7.out (by rw [HML.out]; omega))
  clear hb7 HG6 HQ6 HB6 HV3
  go_wp2_with fail
  ((with_reducible refine HV4.out.mono ?_))
  rintro e w8 ⟨rfl, hb8⟩
  have HB8 : Hid (Below A W w8) := Lib.hid (bel_then HB7.out hAw hb8)
  clear hb8 HV4 HQ7 HB7
  go_wp2_with fail
  go_ret
  rw [HAE.out]
  exact ⟨rfl, HB8.out⟩
theorem law_validatesI (p : List Nd) (v0 : Value) (l : List Int) (v1 : Value) (at_ : Int) (x : Nd) (kd : Int) (m : Int) (W : World) (hp : NSl W v0 p) (hpl : p.length ≤ 1048576) (hps : ∀ t ∈ p, t.str.length ≤ 1048576) (hl : IArg W v1 l) (hx0 : 0 ≤ x.num) (hxs : x.str.length ≤ 1048576) (h0 : 0 ≤ kd) (h1 : kd ≤ 255) (hm : SynG m W) :
    Calls Tryz.prog 5 #[v0, v1, .int .i64 at_, ndV x, .int .u8 kd] W fun e w' => e = .returned (.bool true) ∧ Below W.heap.size W w' := by
  obtain ⟨k, rfl⟩ := Int.eq_ofNat_of_zero_le h0
  exact law_validates p v0 l v1 at_ x k m W hp hpl hps hl hx0 hxs (by omega) hm
end Go.Proofs.YtnicnfchkdmieaaGreatDoor
namespace Go.Proofs.YtnicnfchkdmieaaGreatDoor
open Go.RowKit
set_option linter.unusedVariables false
set_option linter.unusedSimpArgs false
set_option maxRecDepth 100000

def formData {H : Type} (T : List (List UInt8 × List UInt8)) : DataW H := .agg (T.map fun x => .agg [.lit (.string x.1), .lit (.string x.2)])
theorem cells_of_forms {H : Type} {enc : TypeId × Value → H} {P : Program} {w : World} {base : Nat} {sp : Nat → Bool} {held : Bool} {fuel : Nat} {t e tS n : Nat} {fs : Array Field} {f0 f1 : Field} {cs : List Value} {T : List (List UInt8 × List UInt8)} {p : List MemPlace}
    (ht : P.underlying t = some (.array n e)) (he : P.underlying e = some (.struct fs)) (hce : P.cellsOf e = 2) (hS : P.underlying tS = some .string) (hcS : P.cellsOf tS = 1)
    (h0 : fs[0]? = some f0) (h1 : fs[1]? = some f1) (o0 : f0.offset = 0) (o1 : f1.offset = 1) (t0 : f0.type = tS) (t1 : f1.type = tS)
    (h : DataW.trod enc P w base sp held fuel t cs = some (formData T, p)) (i : Nat) (hi : i < T.length) :
    cs[2 * i]? = some (.string ⟨T[i].1.toArray⟩) ∧ cs[2 * i + 1]? = some (.string ⟨T[i].2.toArray⟩) := by
  cases fuel with
  | zero => simp [DataW.trod] at h
  | succ fuel =>
    simp only [DataW.trod, ht, hce] at h
    split at h
    · obtain ⟨xs, hm, hx⟩ := Option.map_eq_some_iff.1 h
      have hxs : xs.map (·.1) = T.map fun x => (DataW.agg [.lit (.string x.1), .lit (.string x.2)] : DataW H) := by
        have := congrArg Prod.fst hx
        simpa [formData] using this
      have hxl : xs.length = n := by simpa using Lib.mapM_length hm
      have hTl : T.length = xs.length := by
        have h9 : (xs.map (·.1)).length = (T.map fun x => (DataW.agg [.lit (.string x.1), .lit (.string x.2)] : DataW H)).length := by rw [hxs]
        rw [List.length_map, List.length_map] at h9
        exact h9.symm
      have hin : i < n := by omega
      obtain ⟨b, hb, hf⟩ := Lib.mapM_at hm i i (List.getElem?_range hin)
      have hb1 : b.1 = .agg [.lit (.string T[i].1), .lit (.string T[i].2)] := by
        have h2 : (xs.map (·.1))[i]? = some b.1 := by simp [hb]
        rw [hxs] at h2
        simp [List.getElem?_map, hi] at h2
        exact h2.symm
      obtain ⟨ys, m, -, e1, e2, e3, e4⟩ := DataW.trod_struct he hf
      rw [e1] at hb1
      simp only [DataW.agg.injEq] at hb1
      have y0 := e4 0 f0 h0
      have y1 := e4 1 f1 h1
      rw [o0, t0, hcS] at y0
      rw [o1, t1, hcS] at y1
      have g0 : (ys.map (·.1))[0]? = some (DataW.lit (.string T[i].1) : DataW H) := by rw [hb1]; rfl
      have g1 : (ys.map (·.1))[1]? = some (DataW.lit (.string T[i].2) : DataW H) := by rw [hb1]; rfl
      rw [List.getElem?_map, Option.map_eq_some_iff] at g0 g1
      obtain ⟨z0, q0, r0⟩ := g0
      obtain ⟨z1, q1, r1⟩ := g1
      rw [q0] at y0
      rw [q1] at y1
      obtain ⟨s0, c0, d0, -⟩ := DataW.trod_string hS y0
      obtain ⟨s1, c1, d1, -⟩ := DataW.trod_string hS y1
      rw [d0] at r0
      rw [d1] at r1
      simp only [DataW.lit.injEq, Lit.string.injEq] at r0 r1
      have k0 := congrArg (·[0]?) c0
      have k1 := congrArg (·[0]?) c1
      simp [List.getElem?_take, List.getElem?_drop] at k0 k1
      rw [Nat.mul_comm 2 i]
      refine ⟨?_, ?_⟩
      · rw [k0, ← r0]
      · rw [k1, ← r1]
    · cases h
theorem forms_of_head {P : Program} {W : World} {name : String} {T : List (List UInt8 × List UInt8)} {rest : List (String × DataW Unit)} {g t e tS n : Nat} {fs : Array Field} {f0 f1 : Field}
    (hg : P.globalNamed name = some g) (hty : (P.globals[g]?).map (·.type) = some t) (ht : P.underlying t = some (.array n e)) (he : P.underlying e = some (.struct fs)) (hce : P.cellsOf e = 2) (hS : P.underlying tS = some .string) (hcS : P.cellsOf tS = 1)
    (h0 : fs[0]? = some f0) (h1 : fs[1]? = some f1) (o0 : f0.offset = 0) (o1 : f1.offset = 1) (t0 : f0.type = tS) (t1 : f1.type = tS)
    (h : laidMet P ((name, formData T) :: rest) W) (i : Nat) (hi : i < T.length) :
    W.cell? ⟨g, 2 * i, none⟩ = some (.string ⟨T[i].1.toArray⟩) ∧ W.cell? ⟨g, 2 * i + 1, none⟩ = some (.string ⟨T[i].2.toArray⟩) := by
  obtain ⟨ps, ⟨g', t', cs, fuel, p, q, hg', ht', hvar, hd, _, _⟩, _⟩ := h
  obtain rfl := Option.some.inj (hg.symm.trans hg')
  obtain rfl := Option.some.inj (hty.symm.trans ht')
  obtain ⟨a, b⟩ := cells_of_forms ht he hce hS hcS h0 h1 o0 o1 t0 t1 hd i hi
  exact ⟨by rw [World.var?_cell hg hvar]; simpa using a, by rw [World.var?_cell hg hvar]; simpa using b⟩
theorem laid_expr {W : World} (h : laidMetH Tryz.prog Rows.syntaxValidatesUptoRow.laid W) (i : Nat) (hi : i < exprT.length) :
    W.cell? ⟨2, 2 * i, none⟩ = some (.string ⟨exprT[i].1.toArray⟩) ∧ W.cell? ⟨2, 2 * i + 1, none⟩ = some (.string ⟨exprT[i].2.toArray⟩) := by
  have h1 := h.filter fun x => x.1 == "platformfw/syntax.expressionForms"
  rw [show (Rows.syntaxValidatesUptoRow.laid.filter fun x => x.1 == "platformfw/syntax.expressionForms") = [("platformfw/syntax.expressionForms", formData exprT)] by kernel_rfl] at h1
  exact forms_of_head (rest := []) (name := "platformfw/syntax.expressionForms") (t := 152) (e := 119) (tS := 9) (by kernel_rfl) (by kernel_rfl) Tryz.underlying152 Tryz.underlying119 (by kernel_rfl) Tryz.underlying9 (by kernel_rfl) rfl rfl rfl rfl rfl rfl h1 i hi
theorem laid_stmt {W : World} (h : laidMetH Tryz.prog Rows.syntaxValidatesUptoRow.laid W) (i : Nat) (hi : i < stmtT.length) :
    W.cell? ⟨1, 2 * i, none⟩ = some (.string ⟨stmtT[i].1.toArray⟩) ∧ W.cell? ⟨1, 2 * i + 1, none⟩ = some (.string ⟨stmtT[i].2.toArray⟩) := by
  have h1 := h.filter fun x => x.1 == "platformfw/syntax.statementForms"
  rw [show (Rows.syntaxValidatesUptoRow.laid.filter fun x => x.1 == "platformfw/syntax.statementForms") = [("platformfw/syntax.statementForms", formData stmtT)] by kernel_rfl] at h1
  exact forms_of_head (rest := []) (name := "platformfw/syntax.statementForms") (t := 151) (e := 119) (tS := 9) (by kernel_rfl) (by kernel_rfl) Tryz.underlying151 Tryz.underlying119 (by kernel_rfl) Tryz.underlying9 (by kernel_rfl) rfl rfl rfl rfl rfl rfl h1 i hi
theorem laid_decl {W : World} (h : laidMetH Tryz.prog Rows.syntaxValidatesUptoRow.laid W) (i : Nat) (hi : i < declT.length) :
    W.cell? ⟨0, 2 * i, none⟩ = some (.string ⟨declT[i].1.toArray⟩) ∧ W.cell? ⟨0, 2 * i + 1, none⟩ = some (.string ⟨declT[i].2.toArray⟩) := by
  have h1 := h.filter fun x => x.1 == "platformfw/syntax.declarationForms"
  rw [show (Rows.syntaxValidatesUptoRow.laid.filter fun x => x.1 == "platformfw/syntax.declarationForms") = [("platformfw/syntax.declarationForms", formData declT)] by kernel_rfl] at h1
  exact forms_of_head (rest := []) (name := "platformfw/syntax.declarationForms") (t := 150) (e := 119) (tS := 9) (by kernel_rfl) (by kernel_rfl) Tryz.underlying150 Tryz.underlying119 (by kernel_rfl) Tryz.underlying9 (by kernel_rfl) rfl rfl rfl rfl rfl rfl h1 i hi
theorem laid_syn {W : World} {m : Int} (h : laidMetH Tryz.prog Rows.syntaxValidatesUptoRow.laid W) (hm : W.cell? ⟨3, 0, none⟩ = some (.int .i64 m)) : SynG m W :=
  ⟨hm, laid_expr h, laid_stmt h, laid_decl h⟩
/-- The library's own variable holds some integer. -/
theorem max_cell {W : World} (h : W.ShapedOpen Tryz.prog) : ∃ m, W.cell? ⟨3, 0, none⟩ = some (.int .i64 m) :=
  Go.Proofs.cell_of_shapedOpen_int (zero := #[.int .i64 0]) (t := 3) h (of_decide_eq_true (by kernel_rfl)) (by kernel_rfl) rfl (by kernel_rfl) (by kernel_rfl) Tryz.underlying3
end Go.Proofs.YtnicnfchkdmieaaGreatDoor
namespace Go.Proofs.YtnicnfchkdmieaaGreatDoor
open Go.ChangeShapes Go.WideShapes Go.RowKit Go.Joins

theorem cellsT5 : Tryz.prog.cellsOf 5 = 1 := by kernel_rfl
theorem bytesT5 : Tryz.prog.bytesOf 5 = 1 := by kernel_rfl
theorem add_zero_addr (b o k : Nat) : (⟨b, o, none⟩ : Addr).add k = ⟨b, o + k, none⟩ := by by_cases h : k = 0 <;> simp [Addr.add, h]
theorem open_bytesV {H : Type} {enc : TypeId × Value → H} {W : World} {fuel : Nat} {v : Value} {y : DataW H × List MemPlace} (h : DataW.trod enc Tryz.prog W 0 (fun _ => true) true fuel 22 [v] = some y) (hw : ∀ m ∈ y.1.weights Tryz.prog 22, m ≤ reachBytes) :
    ∃ l, BArg W v l := by
  rcases open_ints Tryz.underlying22 Tryz.underlying5 cellsT5 h with ⟨hcs, hx⟩ | ⟨a, len, cap, zs, hcs, _, hl, hm, hz, hx, hcell, hwz⟩
  · cases hcs
    exact ⟨[], none, 0, rfl, by simp, fun h => absurd rfl h⟩
  · cases hcs
    subst hx
    simp only [if_true] at hz
    have h1 : ((lits (H := H) .u8 (zs.take len)).length + (lits (H := H) .u8 (zs.drop len)).length) * Tryz.prog.bytesOf 5 ≤ reachBytes := by
      apply hw
      simp only [DataW.weights, Tryz.underlying22]
      exact List.mem_cons_self ..
    rw [bytesT5] at h1
    simp only [lits, List.length_map, List.length_take, List.length_drop] at h1
    have hr : reachBytes = 140737488351232 := rfl
    rw [hr] at h1
    have hlen : ((zs.take len).map (fun z => UInt8.ofNat z.toNat)).length = len := by simp; omega
    refine ⟨(zs.take len).map (fun z => UInt8.ofNat z.toNat), some a, cap, by rw [hlen], by rw [hlen]; omega, fun hn => ?_⟩
    have hpos : 0 < len := by
      rcases Nat.eq_zero_or_pos len with h0 | h0
      · subst h0; simp at hn
      · exact h0
    obtain ⟨b, o, spot⟩ := a
    have hsp : spot = none := by
      have h1 := hcell 0 (by omega)
      simpa [Addr.add] using World.cell?_spot h1
    subst hsp
    refine ⟨b, o, rfl, fun k hk => ?_⟩
    rw [hlen] at hk
    have h2 := hcell k (by omega)
    rw [add_zero_addr] at h2
    rw [h2]
    have hb := bounds_u8 (hwz zs[k] (List.getElem_mem _))
    simp [List.getD, List.getElem?_eq_getElem (show k < zs.length by omega)]
    omega
set_option maxRecDepth 100000 in
theorem open_bytesA {H : Type} {enc : TypeId × Value → H} {W : World} {b0 : Nat} {v : Value} {d : DataW H} {p : List MemPlace} (hv : Value.okWide Tryz.prog W .any b0 22 v) (h : DataW.Trod enc Tryz.prog W 0 (fun _ => true) true 22 v d p) (hw : ∀ m ∈ d.weights Tryz.prog 22, m ≤ reachBytes) :
    ∃ l, BArg W v l := by
  obtain ⟨a0, len, cap, rfl⟩ := okWide_slice Tryz.underlying22 hv
  obtain ⟨fuel, hf⟩ := h
  exact open_bytesV (by simpa [Value.cells] using hf) hw
theorem sized_each {H : Type} {P : Program} {ts : List TypeId} {ds : List (DataW H)} (h : (DataW.weightsEach P ts ds).all (· ≤ reachBytes) = true) {j : Nat} {t : TypeId} {d : DataW H} (ht : ts[j]? = some t) (hd : ds[j]? = some d) : ∀ m ∈ d.weights P t, m ≤ reachBytes := by
  intro m hm
  have := List.all_eq_true.1 h m (DataW.weights_mem_each ht hd m hm)
  simpa using this
end Go.Proofs.YtnicnfchkdmieaaGreatDoor
