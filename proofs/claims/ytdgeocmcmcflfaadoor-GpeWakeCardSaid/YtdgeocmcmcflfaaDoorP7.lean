/- GpeWake: for every input the statement's function returns true, without a panic, and each argument reads afterwards as before; the table of math/bits reads as the program's own text lays it (the card ties it). No other condition. -/
import Derived.Test.YtdgeocmcmcflfaaDoorLaw7
import Derived.Test.YtdgeocmcmcflfaaDoorCards
import Derived.Test.YtdgeocmcmcflfaaDoorTie
import Derived.WalkKit
import Derived.ProofKit
import Derived.OpenShut
import Derived.ShutString
import Derived.SizedLaws
import Derived.Below
import Derived.Deep.DeepHandedRow
import Derived.Lib.LaidTab
namespace Go.Proofs.YtdgeocmcmcflfaaDoor
open Go.ChangeShapes Go.WideShapes Go.ChangeAt Go.RowKit
open Go.ChangeMaps (open_string shut_string)
set_option linter.unusedVariables false

theorem gpeWake_own : ownKnob Tryd.prog.godebug = none := by kernel_rfl
theorem gpeWake_laidOut : laidOutB Tryd.prog = true := by kernel_rfl
theorem gpeWake_gTab : Tryd.prog.globalNamed "math/bits.deBruijn64tab" = some 0 := by kernel_rfl
theorem gpeWake_gTabType : (Tryd.prog.globals[0]?).map (·.type) = some 61 := by kernel_rfl
theorem gpeWake_cellsT : Tryd.prog.cellsOf 61 = 64 := by kernel_rfl
theorem gpeWake_cells5 : Tryd.prog.cellsOf 5 = 1 := by kernel_rfl

theorem gpeWake_table {W : World} (h : laidMetH Tryd.prog Rows.gpeWakeRow.laid W) : Lib.TabIs Tryd.prog W "math/bits.deBruijn64tab" .u8 [0, 1, 56, 2, 57, 49, 28, 3, 61, 58, 42, 50, 38, 29, 17, 4, 62, 47, 59, 36, 45, 43, 51, 22, 53, 39, 33, 30, 24, 18, 12, 5, 63, 55, 48, 27, 60, 41, 37, 16, 46, 35, 44, 21, 52, 32, 23, 11, 54, 26, 40, 15, 34, 20, 31, 10, 25, 14, 19, 9, 13, 8, 7, 6] :=
  Lib.tabIs_of_head (rest := []) gpeWake_gTab gpeWake_gTabType Tryd.underlying61 Tryd.underlying5 gpeWake_cells5 gpeWake_cellsT h
theorem gpeWake_tab {W : World} (h : laidMetH Tryd.prog Rows.gpeWakeRow.laid W) : Tab W ∧ 0 < W.heap.size := by
  have hc : Tab W := by
    intro j hj
    have h1 := (gpeWake_table h).cell gpeWake_gTab j hj
    have h2 : ∀ j, j < 64 → ([0, 1, 56, 2, 57, 49, 28, 3, 61, 58, 42, 50, 38, 29, 17, 4, 62, 47, 59, 36, 45, 43, 51, 22, 53, 39, 33, 30, 24, 18, 12, 5, 63, 55, 48, 27, 60, 41, 37, 16, 46, 35, 44, 21, 52, 32, 23, 11, 54, 26, 40, 15, 34, 20, 31, 10, 25, 14, 19, 9, 13, 8, 7, 6] : List Int).getD j 0 = (Lib.deBruijn64tab.getD j 0 : Nat) := by decide
    rw [h1, h2 j hj]
  refine ⟨hc, ?_⟩
  have h0 := hc 0 (by decide)
  rcases Nat.lt_or_ge 0 W.heap.size with h' | h'
  · exact h'
  · have : W.heap[0]? = none := Array.getElem?_eq_none h'
    simp [World.cell?, this] at h0

set_option maxRecDepth 100000 in
theorem gpeWake_contract (H : Type) (enc : TypeId × Value → H) (W : World) (base : Nat) (args : Array Value) (ds gs : List (DataW H)) (before : List MemPlace)
    (hval : ∀ (j : Nat) t v, Tryd.f7.params[j]? = some t → args[j]? = some v → Value.okWide Tryd.prog W .any base t v)
    (hW : DataW.Whole enc Tryd.prog Tryd.f7.params.toList Rows.gpeWakeSpec.vars false W args.toList ds gs before) (hL : laidMetH Tryd.prog Rows.gpeWakeRow.laid W)
    (hsz : (DataW.weightsEach Tryd.prog (Tryd.f7.params.toList ++ Rows.gpeWakeSpec.plain.varTypes Tryd.prog) (ds ++ gs)).all (· ≤ reachBytes) = true) :
    Calls Tryd.prog 7 args W fun e W' => ∃ v, e = .returned v ∧ Rows.gpeWakeSpec.post enc Tryd.prog Tryd.f7 false true false false W args v W' := by
  obtain ⟨hTab, hpos⟩ := gpeWake_tab hL
  have hW' := hW
  obtain ⟨p, q, hA0, hV, rfl, hfz, hnd⟩ := hW
  have hA : DataW.TrodAll enc Tryd.prog W 0 (fun _ => true) true Tryd.f7.params.toList args.toList ds p := hA0
  rw [Tryd.params7] at hA hval hsz
  obtain ⟨v0, vs0, d0, ds0, p0, q0, hargs, rfl, rfl, h0, r0⟩ := trodAll_cons hA
  obtain ⟨v1, vs1, d1, ds1, p1, q1, rfl, rfl, rfl, h1, r1⟩ := trodAll_cons r0
  obtain ⟨v2, vs2, d2, ds2, p2, q2, rfl, rfl, rfl, h2, r2⟩ := trodAll_cons r1
  obtain ⟨rfl, rfl, rfl⟩ := trodAll_nil r2
  obtain rfl : args = #[v0, v1, v2] := by cases args; simp_all
  obtain ⟨rfl, rfl⟩ := trodVars_none hV
  have k0 := h0
  have lt0 : ∀ x ∈ p0, x.block < W.heap.size := by obtain ⟨m, hm⟩ := k0; exact DataW.trod_lt m _ _ _ hm
  have k1 := h1
  have lt1 : ∀ x ∈ p1, x.block < W.heap.size := by obtain ⟨m, hm⟩ := k1; exact DataW.trod_lt m _ _ _ hm
  have k2 := h2
  have lt2 : ∀ x ∈ p2, x.block < W.heap.size := by obtain ⟨m, hm⟩ := k2; exact DataW.trod_lt m _ _ _ hm
  obtain ⟨a0, rfl, rfl, rfl, w0⟩ := open_int Tryd.underlying45 (hval 0 45 v0 rfl rfl) h0
  obtain ⟨lo0, hi0⟩ : 0 ≤ a0 ∧ a0 ≤ 18446744073709551615 := bounds_u64 w0
  obtain ⟨a1, rfl, rfl, rfl, w1⟩ := open_int Tryd.underlying45 (hval 1 45 v1 rfl rfl) h1
  obtain ⟨lo1, hi1⟩ : 0 ≤ a1 ∧ a1 ≤ 18446744073709551615 := bounds_u64 w1
  obtain ⟨a2, rfl, rfl, rfl, w2⟩ := open_int Tryd.underlying45 (hval 2 45 v2 rfl rfl) h2
  obtain ⟨lo2, hi2⟩ : 0 ≤ a2 ∧ a2 ≤ 18446744073709551615 := bounds_u64 w2
  clear hA0
  refine (law_wake a0 a1 a2 W hTab hpos lo0 hi0 lo1 hi1 lo2 hi2).mono fun e W' ⟨he, bel⟩ => ?_
  subst he
  exact ⟨_, rfl, _, _, _, [], _, [], hW', trodAll_mk1 (shut_bool Tryd.underlying4 _), (trodAll_cons_mk (Below.trod gpeWake_laidOut (by kernel_rfl) (of_decide_eq_true (by kernel_rfl)) k0 bel lt0) (trodAll_cons_mk (Below.trod gpeWake_laidOut (by kernel_rfl) (of_decide_eq_true (by kernel_rfl)) k1 bel lt1) (trodAll_cons_mk (Below.trod gpeWake_laidOut (by kernel_rfl) (of_decide_eq_true (by kernel_rfl)) k2 bel lt2) trodAll_mk0))), rfl, bel.frame _, fun h => by cases h⟩

noncomputable def gpeWake_world (os : Os) : World :=
  { World.holding Tryd.prog os ⟨#[], #[], []⟩ with heap := (World.holding Tryd.prog os ⟨#[], #[], []⟩).heap.modify 0 fun
      | .cells _ t frozen => .cells #[.int .u8 0, .int .u8 1, .int .u8 56, .int .u8 2, .int .u8 57, .int .u8 49, .int .u8 28, .int .u8 3, .int .u8 61, .int .u8 58, .int .u8 42, .int .u8 50, .int .u8 38, .int .u8 29, .int .u8 17, .int .u8 4, .int .u8 62, .int .u8 47, .int .u8 59, .int .u8 36, .int .u8 45, .int .u8 43, .int .u8 51, .int .u8 22, .int .u8 53, .int .u8 39, .int .u8 33, .int .u8 30, .int .u8 24, .int .u8 18, .int .u8 12, .int .u8 5, .int .u8 63, .int .u8 55, .int .u8 48, .int .u8 27, .int .u8 60, .int .u8 41, .int .u8 37, .int .u8 16, .int .u8 46, .int .u8 35, .int .u8 44, .int .u8 21, .int .u8 52, .int .u8 32, .int .u8 23, .int .u8 11, .int .u8 54, .int .u8 26, .int .u8 40, .int .u8 15, .int .u8 34, .int .u8 20, .int .u8 31, .int .u8 10, .int .u8 25, .int .u8 14, .int .u8 19, .int .u8 9, .int .u8 13, .int .u8 8, .int .u8 7, .int .u8 6] t frozen
      | o => o }
theorem gpeWake_laid_met (os : Os) : laidMet Tryd.prog Rows.gpeWakeRow.laid ((gpeWake_world os).forCall (fun _ _ => 0) ⟨#[], #[.int .u64 0, .int .u64 0, .int .u64 0], []⟩).memory :=
  laidMet_of_run' 8 (by kernel_rfl) (by kernel_rfl)
theorem gpeWake_reads (os : Os) {H : Type} (enc : TypeId × Value → H) : ∃ places, DataW.whole enc Tryd.prog ((gpeWake_world os).forCall (fun _ _ => 0) ⟨#[], #[.int .u64 0, .int .u64 0, .int .u64 0], []⟩).memory Tryd.f7.params.toList Rows.gpeWakeSpec.vars false (#[.int .u64 0, .int .u64 0, .int .u64 0] : Array Value).toList 8 = some ([.lit (.int .u64 0), .lit (.int .u64 0), .lit (.int .u64 0)], [], places) :=
  ⟨[], by kernel_rfl⟩

set_option maxRecDepth 100000 in
theorem gpeWake_lifted (os : Os) (started : os.Started) (H : Type) (enc : TypeId × Value → H) (F : Stop.Interp) :
    ReturnsInHanded {} Tryd.checked os 7 .any ((OpenSpec.ofChange Rows.gpeWakeSpec).preRow enc Tryd.prog Tryd.f7 Rows.gpeWakeRow.domain false Rows.gpeWakeRow.laid) (((OpenSpec.ofChange Rows.gpeWakeSpec).at F).post enc Tryd.prog Tryd.f7 false true false false) := by
  obtain ⟨places, hx⟩ := gpeWake_reads os enc
  refine returnsInHanded_of_row (C := Tryd.checked) (s := OpenSpec.ofChange Rows.gpeWakeSpec) gpeWake_own started (by kernel_rfl) Tryd.func7
    (witness_row_at (enc := enc) (C := Tryd.checked) false (gpeWake_world os) #[.int .u64 0, .int .u64 0, .int .u64 0] rfl (by kernel_rfl) (by kernel_rfl) (by kernel_rfl)
      (OpenSpec.preRow_of_cond 8 hx (by kernel_rfl) (fun k hk => by cases hk) (by kernel_rfl) (gpeWake_laid_met os))) ?_
  intro W base args ds gs before hval hW _ _ hsz hL _ _
  exact gpeWake_contract H enc W base args ds gs before hval hW hL hsz

theorem gpeWake_said : Rows.GpeWakeSaid :=
  OpenClaim.holds_of_cond 7 Tryd.f7 rfl rfl rfl rfl rfl rfl rfl ⟨rfl, rfl, rfl, rfl, rfl⟩ rfl rfl rfl rfl rfl (by kernel_rfl) Tryd.func7 (by kernel_rfl)
    (of_decide_eq_true (by kernel_rfl)) (by unfold Func.isWrapper; first | (rw [if_pos (by decide +kernel)]; kernel_rfl) | (rw [if_neg (by decide +kernel)]; exact ⟨rfl, rfl⟩))
    (fun os started H enc _ F => by rw [OpenClaim.pre_eq_preRow]; exact gpeWake_lifted os started H enc F)

theorem gpeWake_plain (f : FuncId) (fn : Func) (hf : Tryd.pinned.checked.prog.funcNamed "platformfw/platformfwlaw17.GpeWake" = some f) (hfn : Tryd.pinned.checked.prog.funcs[f]? = some fn) :
    false = Tryd.pinned.checked.prog.looks [] ∧ ∀ (j : Nat) t, fn.params[j]? = some t → Tryd.pinned.checked.prog.wantsStandIn t = false := by
  obtain rfl : f = 7 := Option.some.inj ((show Tryd.prog.funcNamed "platformfw/platformfwlaw17.GpeWake" = some 7 by kernel_rfl).symm.trans hf) |>.symm
  obtain rfl : fn = Tryd.f7 := (Option.some.inj (Tryd.func7.symm.trans hfn)).symm
  refine ⟨by kernel_rfl, fun j t ht => ?_⟩
  rw [Tryd.params7] at ht
  have hm := Array.mem_of_getElem? ht
  have hall : ∀ t ∈ #[45, 45, 45], Tryd.prog.wantsStandIn t = false := by
    intro t h
    simp at h
    rcases h with rfl <;> kernel_rfl
  exact hall t hm

theorem gpeWake_card : Rows.GpeWakeCardSaid :=
  Claim7.holds_tied_plain_at .later [] _ _ _ _ gpeWake_said (fun _ h => by cases h) (by kernel_rfl) (fun _ h => by cases h) gpeWake_row_tie rfl ⟨rfl, rfl⟩ (by kernel_rfl) rfl gpeWake_plain (by kernel_rfl)
#print axioms gpeWake_card
end Go.Proofs.YtdgeocmcmcflfaaDoor
