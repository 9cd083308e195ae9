/- Valid; what Scan's tokens are; Parse: the walks. Parse: the walk. Parse: the walk. Equal of nodes, awake; nested blocks: plain laws and walks. awake; SyntaxDepthLimit: the walks. -/
import Derived.Test.YtnicnfchkdmieaaGreatDoorSn
namespace Go.Proofs.YtnicnfchkdmieaaGreatDoor
open Go.RowKit
set_option linter.unusedVariables false
set_option linter.unusedSimpArgs false
attribute [local go_sem] ByteArray.mk_append_mk bs_get bs_cut bs_end

theorem valid_any (m : Int) (p : List Nd) (v : Value) (w : World) (hv : NSl w v p) (hm : SynG m w) (hl : p.length ≤ 9223372036854775000) :
    Calls Tryz.prog 16 #[v] w fun e w' => e = .returned (.bool (validL p)) ∧ Below w.heap.size w w' := by
  obtain ⟨X, hX⟩ : ∃ X, Hid (validL p = X) := ⟨_, Lib.hid rfl⟩
  have HV0 := Lib.hid hv
  have HG0 := Lib.hid hm
  have HB0 := Lib.hid (Below.refl w.heap.size w)
  obtain ⟨a, cap, rfl, hc⟩ := hv.1
  clear hc hv hm
  by_cases h2 : p.length ≤ 2048
  · have h2' : ¬ (2048 : Int) < (p.length : Int) := by omega
    have HX0 : Hid (vTop p p.length 0 = X) := Lib.hid (by rw [← hX.out]; unfold validL; rw [decide_eq_true h2, Bool.true_and])
    have HEL := Lib.hid (valid_ok m p (by omega) 32 1 (by omega) (by omega)).1
    obtain ⟨L, hL⟩ : ∃ L, p.length = L := ⟨_, rfl⟩
    have HL := Lib.hid hL
    rw [hL] at h2 h2' hl HV0 HX0 ⊢
    clear hL
    go_enter Tryz.func16, Tryz.ntmps16
    go_wp2_with fail
    go_loopw [3] (fun x wr => ∃ (f q : Nat), x = .int .i64 q ∧ q ≤ L ∧ L ≤ f + q ∧ Hid (vTop p f q = X) ∧ Hid (NSl wr (.slice a L cap) p) ∧ Hid (SynG m wr) ∧ Hid (Below w.heap.size w wr)) (fun x _ => L - (intOf x).toNat)
    case atStart => exact ⟨L, 0, rfl, by omega, by omega, HX0, HV0, HG0, HB0⟩
    case round =>
      clear HX0 HV0 HG0 HB0
      obtain ⟨f, q, rfl, hq, hf, HX, HV, HG, HB⟩ := hrel
      obtain ⟨w4, rfl⟩ : ∃ y : World, y = wr := ⟨_, rfl⟩
      by_cases hlt : q < L
      · have hlt' : (q : Int) < (L : Int) := by omega
        obtain ⟨f, rfl⟩ : ∃ g, f = g + 1 := ⟨f - 1, by omega⟩
        have HXK : Hid (X = match vAny p 32 false 68 q with | none => false | some j => vTop p f j) := Lib.hid (by rw [← HX.out, vTop, if_neg (by rw [HL.out]; omega)] <;> rfl)
        have HC : Hid (Calls Tryz.prog 38 #[.slice a L cap, .int .i64 q, .int .u8 68, .int .i64 1] w4 (VPost w4 (vAny p 32 false 68 q))) := Lib.hid (HEL.out 68 q _ w4 HV.out HG.out (by rw [HL.out]; exact hq))
        unfold VPost at HC
        cases hx : vAny p 32 false 68 q with
        | none =>
          rw [hx] at HC HXK
          have HX2 : Hid (X = false) := HXK
          clear hx HX HXK
          simp only [Option.isSome_none, Option.getD_none] at HC
          go_wp2_with fail
          ((with_reducible refine HC.out.mono ?_))
          rintro e w5 ⟨rfl, hb5⟩
          have HB5 : Hid (Below w.heap.size w w5) := Lib.hid (bel_then HB.out (Nat.le_refl _) hb5)
          clear hb5
          go_wp2_with fail
          go_ret
          rw [hX.out, HX2.out]
          exact ⟨rfl, HB5.out⟩
        | some z =>
          rw [hx] at HC HXK
          have hz := vAny_good p 32 false 68 q z hx
          rw [HL.out] at hz
          obtain ⟨hz1, hz2⟩ := hz
          have HX5 : Hid (vTop p f z = X) := Lib.hid HXK.out.symm
          clear hx HX HXK
          simp only [Option.isSome_some, Option.getD_some] at HC
          go_wp2_with fail
          ((with_reducible refine HC.out.mono ?_))
          rintro e w5 ⟨rfl, hb5⟩
          have HB5 : Hid (Below w.heap.size w w5) := Lib.hid (bel_then HB.out (Nat.le_refl _) hb5)
          have HV5 := Lib.hid (HV.out.below hb5)
          have HG5 := Lib.hid (HG.out.below hb5 HG.out.low)
          clear hb5 HC
          go_wp2_with fail
          go_roundw
          case rel => exact ⟨f, z, rfl, hz2, by omega, HX5, HV5, HG5, HB5⟩
          case measure => simp [intOf]; omega
      · have hlt' : ¬ (q : Int) < (L : Int) := by omega
        have HX5 : Hid (X = true) := Lib.hid (by
          rw [← HX.out]
          cases f with
          | zero => rw [vTop]; exact decide_eq_true (by rw [HL.out]; omega)
          | succ f => rw [vTop, if_pos (by rw [HL.out]; omega)])
        clear HX
        go_wp2_with fail
        go_ret
        rw [hX.out, HX5.out]
        exact ⟨rfl, HB.out⟩
  · have h2' : (2048 : Int) < (p.length : Int) := by omega
    have HX0 : Hid (X = false) := Lib.hid (by rw [← hX.out]; unfold validL; rw [decide_eq_false h2, Bool.false_and])
    go_enter Tryz.func16, Tryz.ntmps16
    go_wp2_with fail
    go_ret
    rw [hX.out, HX0.out]
    exact ⟨rfl, HB0.out⟩
theorem textF_255 (s v x r : List UInt8) (h : textF s v = some (x, r)) : x.length ≤ 255 := by
  fun_induction textF s v
  all_goals first
    | (cases h; done)
    | (rename_i ih; exact ih h)
    | (injection h with h; injection h with h1 h2; rw [← h1]; omega)
theorem item_good {d t : List UInt8} {k v n : Nat} (h : itemL d = some (k, v, t, n)) : (t.length ≤ d.length ∨ t.length ≤ 255) ∧ (k = 2 → t ≠ []) := by
  cases d with
  | nil => cases h
  | cons c r =>
    rw [itemL] at h
    split at h
    · obtain ⟨z, hz, e⟩ := Option.map_eq_some_iff.1 h
      injection e with e1 e2; injection e2 with e2 e3; injection e3 with e3 e4
      subst e1 e3
      exact ⟨.inl (by simp), fun h => by cases h⟩
    rename_i hd
    split at h
    · rename_i hlt
      split at h
      · split at h
        · injection h with e
          injection e with e1 e2; injection e2 with e2 e3; injection e3 with e3 e4
          subst e1 e3
          refine ⟨.inl (by rw [List.length_take]; omega), fun _ hn => ?_⟩
          have : 1 ≤ wordN (c :: r) := wordN_pos (by unfold idB; rw [hlt] <;> rfl)
          rw [List.take_eq_nil_iff] at hn
          rcases hn with hn | hn
          · omega
          · cases hn
        · cases h
      · obtain ⟨z, hz, e⟩ := Option.map_eq_some_iff.1 h
        injection e with e1 e2; injection e2 with e2 e3; injection e3 with e3 e4
        subst e1 e3
        exact ⟨.inl (by rw [List.length_take]; omega), fun h => by cases h⟩
    split at h
    · obtain ⟨z, hz, e⟩ := Option.map_eq_some_iff.1 h
      injection e with e1 e2; injection e2 with e2 e3; injection e3 with e3 e4
      subst e1 e3
      exact ⟨.inl (by rw [List.length_take]; omega), fun h => by cases h⟩
    split at h
    · obtain ⟨⟨x, y⟩, hz, e⟩ := Option.map_eq_some_iff.1 h
      injection e with e1 e2; injection e2 with e2 e3; injection e3 with e3 e4
      subst e1 e3
      exact ⟨.inr (textF_255 _ _ _ _ hz), fun h => by cases h⟩
    split at h
    · cases h
    · injection h with e
      injection e with e1 e2; injection e2 with e2 e3; injection e3 with e3 e4
      subst e3
      refine ⟨.inl (by simp), fun h => ?_⟩
      rw [← e1] at h
      have h9 : punctK c ≠ 2 := by
        unfold punctK
        repeat' split
        all_goals decide
      exact absurd h h9
end Go.Proofs.YtnicnfchkdmieaaGreatDoor
namespace Go.Proofs.YtnicnfchkdmieaaGreatDoor
open Go.RowKit
set_option linter.unusedVariables false
set_option linter.unusedSimpArgs false
attribute [local go_sem] ByteArray.mk_append_mk bs_get bs_cut bs_end

def TokOk (t : Tok) : Prop := t.str.length ≤ 65536 ∧ (t.kind = 2 → t.str ≠ [])
theorem scanF_ok (s : List UInt8) (hs : s.length ≤ 65536) : ∀ (f p : Nat) (acc : List Tok), p ≤ s.length → (∀ t ∈ acc, TokOk t) → ∀ t ∈ (scanF s f p acc).1, TokOk t
  | 0, p, acc, hp, h => by rw [scanF]; exact h
  | f + 1, p, acc, hp, h => by
    obtain ⟨q, hq1, hq2, e1, e2⟩ := skip_place s p hp
    unfold scanF
    rw [e2, e1]
    split
    · intro t ht; cases ht
    · split
      · exact h
      · split
        · intro t ht; cases ht
        · next k v t n hi =>
          have hn : 1 ≤ n ∧ n ≤ (s.drop q).length := itemL_le hi
          obtain ⟨g1, g2⟩ := item_good hi
          rw [List.length_drop] at hn g1
          refine scanF_ok s hs f (q + n) _ (by omega) (fun x hx => ?_)
          rcases List.mem_append.1 hx with hx | hx
          · exact h x hx
          · simp only [List.mem_cons, List.not_mem_nil, or_false] at hx
            subst hx
            exact ⟨by show t.length ≤ 65536; omega, g2⟩
theorem scanL_ok (s : List UInt8) : ∀ t ∈ (scanL s).1, TokOk t := by
  unfold scanL
  split
  · intro t ht; cases ht
  · exact scanF_ok s (by omega) _ 0 [] (by omega) (fun t ht => by cases ht)
theorem toks_good {l : List Tok} (h : ∀ t ∈ l, TokOk t) : TGood (l.map Tok.toI) := by
  intro t ht
  obtain ⟨x, hx, rfl⟩ := List.mem_map.1 ht
  exact ⟨(h x hx).1, fun hk => (h x hx).2 (by have : (x.kind : Int) = 2 := hk; omega)⟩
theorem Toks.tokB {w : World} {B : Nat} {v : Value} {l : List Tok} (h : Toks w B v l) : TokB w w.heap.size v (l.map Tok.toI) := by
  obtain ⟨a, c, rfl⟩ := h.form
  have hcap : l.length ≤ c := by
    rcases h.2 with ⟨hv, h0⟩ | ⟨g, cap, cur, hv, hb, hg, hn, _⟩
    · injection hv with _ _ e; omega
    · injection hv with _ _ e; omega
  refine ⟨a, c, by rw [List.length_map], by rw [List.length_map]; exact hcap, fun hne => ?_⟩
  have hpos : 0 < l.length := by
    cases l with
    | nil => exact absurd rfl hne
    | cons x y => simp
  obtain ⟨b, ha, hB, q0, _⟩ := h.cells 0 hpos
  refine ⟨b, 0, ha, World.block_lt_of_cell? w _ q0, fun i hi => ?_⟩
  rw [List.length_map] at hi
  obtain ⟨b2, ha2, _, k0, k1, k2, k3⟩ := h.cells i hi
  rw [ha] at ha2
  injection ha2 with ha2
  injection ha2 with ha2
  subst ha2
  rw [Nat.zero_add, List.getElem_map]
  exact ⟨k0, k1, k2, k3⟩
/-- All declarations. -/
def progF (F : Nat) : Nat → List Nd → List TokI → PR
  | 0, ns, r => .ok r ns
  | f + 1, ns, r => if r = [] then .ok [] ns else match subP F 68 r with
    | .no x => .no x
    | .ok r1 n1 => progF F f (ns ++ n1) r1
def parseR (E : Int) : PR → List Nd × Int × Int
  | .no x => ([], posT E x, 2)
  | .ok _ ns => if validL ns = true then (ns, 0, 0) else ([], 0, 11)
def parseT (E : Int) (l : List TokI) : List Nd × Int × Int := parseR E (progF l.length l.length [] l)
/-- What Parse returns: the program, the error's offset, the error. -/
def parseL (s : List UInt8) : List Nd × Int × Int :=
  if (scanL s).2.2 ≠ 0 then ([], (scanL s).2.1, (scanL s).2.2) else parseT s.length ((scanL s).1.map Tok.toI)
def NdsOk (l : List Nd) : Prop := ∀ t ∈ l, t.str.length ≤ 4000000000 ∧ 0 ≤ t.num
theorem NdsOk.app {a b : List Nd} (h : NdsOk a) (k : NdsOk b) : NdsOk (a ++ b) := fun t ht => by
  rcases List.mem_append.1 ht with ht | ht
  · exact h t ht
  · exact k t ht
theorem NdsOk.cons {a : List Nd} {n : Nd} (hn : n.str.length ≤ 4000000000 ∧ 0 ≤ n.num) (h : NdsOk a) : NdsOk (n :: a) := fun t ht => by
  rcases List.mem_cons.1 ht with rfl | ht
  · exact hn
  · exact h t ht
theorem NdsOk.tail {a : List Nd} (h : NdsOk a) : NdsOk a.tail := fun t ht => h t (List.mem_of_mem_tail ht)
theorem NdsOk.nil : NdsOk [] := fun t ht => by cases ht
def NG (x : PR) : Prop := match x with
  | .no _ => True
  | .ok r ns => NdsOk r ∧ NdsOk ns
section
variable {sub : UInt8 → List TokI → PR} (hs : ∀ k r, NdsOk r → NG (sub k r))
include hs
theorem callL_ng (text : List UInt8) (ht : text.length ≤ 4000000000) : ∀ (f m : Nat) (ns : List Nd) (r : List TokI), NdsOk ns → NdsOk r → NG (callL sub text f m ns r)
  | 0, m, ns, r, h, hr => trivial
  | f + 1, m, ns, r, h, hr => by
    rw [callL]
    have hk := hs 101 r hr
    cases hx : sub 101 r with
    | no x => trivial
    | ok r1 n1 =>
      rw [hx] at hk
      simp only []
      split
      · split
        · exact ⟨hk.1.tail, .cons ⟨ht, by show (0 : Int) ≤ 0; omega⟩ (h.app hk.2)⟩
        · trivial
      · exact callL_ng text ht f (m + 1) _ _ (h.app hk.2) hk.1.tail
theorem nameP_ng (k : UInt8) (text : List UInt8) (ht : text.length ≤ 4000000000) (r : List TokI) (hr : NdsOk r) : NG (nameP sub k text r) := by
  unfold nameP
  split
  · trivial
  split
  · trivial
  split
  · unfold callP
    split
    · exact ⟨hr.tail.tail.tail, .cons ⟨ht, by show (0 : Int) ≤ 0; omega⟩ .nil⟩
    · exact callL_ng hs text ht 7 0 [] _ .nil hr.tail.tail
  split
  · trivial
  · exact ⟨hr.tail, .cons ⟨ht, by show (0 : Int) ≤ 0; omega⟩ .nil⟩
theorem blockL_ng (k : UInt8) : ∀ (f m : Nat) (ns : List Nd) (r : List TokI), NdsOk ns → NdsOk r → NG (blockL sub k f m ns r)
  | 0, m, ns, r, h, hr => trivial
  | f + 1, m, ns, r, h, hr => by
    rw [blockL]
    split
    · exact ⟨hr.tail, .cons ⟨by simp, by show (0 : Int) ≤ 0; omega⟩ h⟩
    split
    · trivial
    have hr2 : NdsOk (if listB k = true ∧ 0 < m then r.tail else r) := by split; exact hr.tail; exact hr
    have hk := hs k _ hr2
    cases hx : sub k (if listB k = true ∧ 0 < m then r.tail else r) with
    | no x => trivial
    | ok r1 n1 => rw [hx] at hk; exact blockL_ng k f (m + 1) _ _ (h.app hk.2) hk.1
theorem blockP_ng (k : UInt8) (r : List TokI) (hr : NdsOk r) : NG (blockP sub k r) := by
  unfold blockP
  split
  · exact blockL_ng hs k _ 0 [] _ .nil hr.tail
  · trivial
theorem argsL_ng : ∀ (ks : List UInt8) (first : Bool) (ns : List Nd) (r : List TokI), NdsOk ns → NdsOk r → NG (argsL sub ks first ns r)
  | [], first, ns, r, h, hr => by rw [argsL]; split; exact ⟨hr.tail, h⟩; trivial
  | k :: ks, first, ns, r, h, hr => by
    rw [argsL]
    split
    · split; exact ⟨hr.tail, h⟩; trivial
    split
    · trivial
    have hr2 : NdsOk (if first = false then r.tail else r) := by split; exact hr.tail; exact hr
    have hk := hs k _ hr2
    cases hx : sub k (if first = false then r.tail else r) with
    | no x => trivial
    | ok r1 n1 => rw [hx] at hk; exact argsL_ng ks false _ _ (h.app hk.2) hk.1
theorem blksL_ng : ∀ (ks : List UInt8) (ns : List Nd) (r : List TokI), NdsOk ns → NdsOk r → NG (blksL sub ks ns r)
  | [], ns, r, h, hr => by rw [blksL]; exact ⟨hr, h⟩
  | k :: ks, ns, r, h, hr => by
    rw [blksL]
    have hk := blockP_ng hs k r hr
    cases hx : blockP sub k r with
    | no x => trivial
    | ok r1 n1 => rw [hx] at hk; exact blksL_ng ks _ _ (h.app hk.2) hk.1
theorem opsP_ng (kinds : List UInt8) (r : List TokI) (hr : NdsOk r) : NG (opsP sub kinds r) := by
  unfold opsP
  split
  · exact ⟨hr, .nil⟩
  split
  · trivial
  have ha := argsL_ng hs kinds true [] r.tail .nil hr.tail
  cases hx : argsL sub kinds true [] r.tail with
  | no x => trivial
  | ok r1 n1 => rw [hx] at ha; exact blksL_ng hs _ _ _ ha.2 ha.1
theorem wordP_ng (k : UInt8) (w : List UInt8) (r : List TokI) (hr : NdsOk r) : NG (wordP sub k w r) := by
  unfold wordP
  cases hv : varW w with
  | some x =>
    obtain ⟨op, n⟩ := x
    simp only []
    split
    · exact ⟨hr.tail, .cons ⟨by simp, by show (0 : Int) ≤ (n : Int); omega⟩ .nil⟩
    · trivial
  | none =>
    simp only []
    split
    · trivial
    split
    · split
      · have := opsP_ng hs [101] r.tail hr.tail
        cases hx : opsP sub [101] r.tail with
        | no x => trivial
        | ok x ns => rw [hx] at this; exact ⟨this.1, .cons ⟨by simp, by show (0 : Int) ≤ 0; omega⟩ this.2⟩
      · exact ⟨hr.tail, .cons ⟨by simp, by show (0 : Int) ≤ 0; omega⟩ .nil⟩
    · have := opsP_ng hs (formP (opW w)).2 r.tail hr.tail
      cases hx : opsP sub (formP (opW w)).2 r.tail with
      | no x => trivial
      | ok x ns =>
        rw [hx] at this
        simp only []
        split
        · have hb := blockP_ng hs 83 x.tail this.1.tail
          cases hy : blockP sub 83 x.tail with
          | no z => trivial
          | ok r2 n2 => rw [hy] at hb; exact ⟨hb.1, .cons ⟨by simp, by show (0 : Int) ≤ 0; omega⟩ (this.2.app hb.2)⟩
        · exact ⟨this.1, .cons ⟨by simp, by show (0 : Int) ≤ 0; omega⟩ this.2⟩
end
theorem subP_ng : ∀ (f : Nat) (k : UInt8) (r : List TokI), NdsOk r → NG (subP f k r)
  | 0, k, r, hr => trivial
  | f + 1, k, r, hr => by
    cases r with
    | nil => trivial
    | cons t q =>
      have ht := hr t (by simp)
      unfold subP
      simp only []
      split
      · exact nameP_ng (subP_ng f) _ _ ht.1 _ hr
      split
      · exact wordP_ng (subP_ng f) _ _ _ hr
      split
      · exact ⟨hr.tail, .cons ⟨by simp, ht.2⟩ .nil⟩
      split
      · exact ⟨hr.tail, .cons ⟨ht.1, by show (0 : Int) ≤ 0; omega⟩ .nil⟩
      · trivial
theorem progF_ng (F : Nat) : ∀ (f : Nat) (ns : List Nd) (r : List TokI), NdsOk ns → NdsOk r → NG (progF F f ns r)
  | 0, ns, r, h, hr => by rw [progF]; exact ⟨hr, h⟩
  | f + 1, ns, r, h, hr => by
    rw [progF]
    split
    · exact ⟨.nil, h⟩
    have hk := subP_ng F 68 r hr
    cases hx : subP F 68 r with
    | no x => trivial
    | ok r1 n1 => rw [hx] at hk; exact progF_ng F f _ _ (h.app hk.2) hk.1
def ParsePost (w : World) (x : List Nd × Int × Int) (e : Ending) (w' : World) : Prop :=
  ∃ v, e = .returned (.tuple #[v, .int .i64 x.2.1, .int .i64 x.2.2]) ∧ NodesI w' w.heap.size v x.1 ∧ Below w.heap.size w w'
end Go.Proofs.YtnicnfchkdmieaaGreatDoor
namespace Go.Proofs.YtnicnfchkdmieaaGreatDoor
open Go.RowKit
set_option linter.unusedVariables false
set_option linter.unusedSimpArgs false
attribute [local go_sem] ByteArray.mk_append_mk bs_get bs_cut bs_end

theorem toI_nds (l : List Tok) (h : ∀ t ∈ l, TokOk t) : NdsOk (l.map Tok.toI) := by
  intro t ht
  obtain ⟨x, hx, rfl⟩ := List.mem_map.1 ht
  refine ⟨Nat.le_trans (h x hx).1 (by omega), ?_⟩
  show (0 : Int) ≤ (x.num : Int)
  omega
set_option maxRecDepth 100000 in
set_option maxHeartbeats 8000000 in
theorem parse_syn (s : List UInt8) (m : Int) (w : World) (hm : SynG m w) (hs : s.length ≤ 4611686018427380000) :
    Calls Tryz.prog 24 #[.string ⟨s.toArray⟩] w (ParsePost w (parseL s)) := by
  have HSC := Lib.hid (tScan_any s m w hs hm.1)
  have HG := Lib.hid hm
  obtain ⟨Z, hZ⟩ : ∃ Z, Hid (parseL s = Z) := ⟨_, Lib.hid rfl⟩
  have htok := scanL_ok s
  have hlen := scanL_len s
  obtain ⟨x, hx⟩ : ∃ x, scanL s = x := ⟨_, rfl⟩
  rw [hx] at HSC htok hlen
  have HZ0 : Hid (Z = if x.2.2 ≠ 0 then ([], (x.2.1 : Int), (x.2.2 : Int)) else parseT s.length (x.1.map Tok.toI)) := Lib.hid (by rw [← hZ.out]; unfold parseL; rw [hx])
  obtain ⟨tl, pos, er⟩ := x
  simp only at htok hlen HZ0
  unfold ScanPost at HSC
  simp only at HSC
  have HTOK := Lib.hid htok
  clear hx hm htok
  go_enter Tryz.func24, Tryz.ntmps24
  go_wp2_with fail
  ((with_reducible refine HSC.out.mono ?_))
  rintro e w1 ⟨v, rfl, hv, hb1⟩
  have HG1 := Lib.hid (HG.out.below hb1 HG.out.low)
  have HB1 := Lib.hid hb1
  have HV := Lib.hid hv
  obtain ⟨va, vc, rfl⟩ := hv.form
  clear hb1 hv HSC HG
  by_cases he : er = 0
  · subst he
    have HZ1 : Hid (Z = parseT s.length (tl.map Tok.toI)) := Lib.hid (by rw [HZ0.out, if_neg (fun h => h rfl)])
    obtain ⟨T, hT⟩ : ∃ T, tl.map Tok.toI = T := ⟨_, rfl⟩
    obtain ⟨Y, hY⟩ : ∃ Y, Hid (progF T.length T.length [] T = Y) := ⟨_, Lib.hid rfl⟩
    have HZ2 : Hid (Z = parseR s.length Y) := Lib.hid (by rw [HZ1.out, hT, ← hY.out] <;> rfl)
    have HNG : Hid (NG Y) := Lib.hid (by rw [← hY.out]; exact progF_ng _ _ _ _ .nil (by rw [← hT]; exact toI_nds _ HTOK.out))
    have htl : T.length = tl.length := by rw [← hT, List.length_map]
    have HTB : Hid (TokB w1 w1.heap.size (.slice va tl.length vc) T) := Lib.hid (by rw [← hT]; exact HV.out.tokB)
    have HTG : Hid (TGood T) := Lib.hid (by rw [← hT]; exact toks_good HTOK.out)
    obtain ⟨b, hb⟩ : ∃ b, w1.heap.size = b := ⟨_, rfl⟩
    have HBE := Lib.hid hb
    have hal : Below b w1 (w1.alloc (psObj (.slice va tl.length vc) (s.length : Int) 0 (.slice none 0 0))) := (Below.refl _ _).alloc (by omega) _
    have hsz0 : b ≤ (w1.alloc (psObj (.slice va tl.length vc) (s.length : Int) 0 (.slice none 0 0))).heap.size := by rw [← hb]; exact hal.size
    have HP0 : Hid (PSt m s.length b b (w1.alloc (psObj (.slice va tl.length vc) (s.length : Int) 0 (.slice none 0 0))) T []) := Lib.hid (by
      have h1 := heap_alloc_new w1 (psObj (.slice va tl.length vc) (s.length : Int) 0 (.slice none 0 0))
      rw [hb] at h1
      have h2 := HTB.out
      rw [hb] at h2
      exact ⟨⟨_, _, _, h1, h2.below hal, NodesI.nil _ _⟩, Nat.le_refl _, hsz0, HG1.out.below hal (by rw [← hb]; exact HG1.out.low), by rw [← hb]; exact HG1.out.low, HTG.out⟩)
    have HL0 := Lib.hid hal
    clear hT HZ0 HZ1 HTOK HV hal hsz0 HG1 HTB HTG hb
    go_wp2_with fail
    rw [HBE.out]
    generalize w1.alloc (psObj (.slice va tl.length vc) (s.length : Int) 0 (.slice none 0 0)) = W0 at *
    have HSUBS := Lib.hid (sub_ok m s.length b b T.length)
    have hT6 : T.length ≤ 65536 := by omega
    go_loopw [29] (fun _ wr => ∃ (f : Nat) (ns : List Nd) (q : List TokI), q.length ≤ f ∧ q.length ≤ T.length ∧ ns.length + q.length ≤ T.length ∧ Hid (progF T.length f ns q = Y) ∧ Hid (PSt m s.length b b wr q ns) ∧ Hid (Below b w1 wr)) (fun _ wr => tokLen wr b)
    case atStart => exact ⟨T.length, [], T, Nat.le_refl _, Nat.le_refl _, by simp, hY, HP0, HL0⟩
    case round =>
      clear HP0 HL0 hY
      obtain ⟨f, ns, q, hqf, hqT, hnq, HX, HP, HB⟩ := hrel
      obtain ⟨w3, rfl⟩ : ∃ y : World, y = wr := ⟨_, rfl⟩
      have HTL : Hid (tokLen w3 b = q.length) := Lib.hid HP.out.tokLen
      obtain ⟨tv, bad, nv, k1, k2, k3⟩ := HP.out.ex
      obtain ⟨ta, tcap, rfl, tl2, tc⟩ := k2
      obtain ⟨na, nc, rfl⟩ := k3.form
      obtain ⟨c0, c1, c2, c3⟩ := cells4 k1
      have HN := Lib.hid k3
      clear k1 k3 tc
      cases q with
      | nil =>
        have HX2 : Hid (Y = .ok [] ns) := Lib.hid (by
          rw [← HX.out]
          cases f with
          | zero => rw [progF]
          | succ f => rw [progF, if_pos rfl])
        have HZ3 : Hid (Z = if validL ns = true then (ns, 0, 0) else ([], 0, 11)) := Lib.hid (by rw [HZ2.out, HX2.out] <;> rfl)
        have hnd : NdsOk ns := by
          have h := HNG.out
          rw [HX2.out] at h
          exact h.2
        have HVA := Lib.hid (valid_any m ns _ w3 (HN.out.sl hnd) HP.out.syn (by omega))
        have HBW : Hid (Below w.heap.size w w3) := Lib.hid (HB1.out.trans (HB.out.mono (by rw [← HBE.out]; exact HB1.out.size)))
        obtain ⟨vb, hvb⟩ : ∃ z, validL ns = z := ⟨_, rfl⟩
        rw [hvb] at HVA HZ3
        clear HX hnd hvb HX2 HZ2 HNG
        go_wp2_with fail
        ((with_reducible refine HVA.out.mono ?_))
        rintro e w4 ⟨rfl, hb4⟩
        have HB4 : Hid (Below w.heap.size w w4) := Lib.hid (bel_then HBW.out (Nat.le_refl _) hb4)
        have HN4 := Lib.hid (HN.out.below hb4)
        have hp4 := (HP.out.below hb4).ex
        obtain ⟨tv4, bad4, nv4, k1, k2, k3⟩ := hp4
        have e3 : w4.cell? ⟨b, 3, none⟩ = some (.slice na ns.length nc) := (hb4.cell (p := ⟨b, 3, none⟩) (World.block_lt_of_cell? w3 ⟨b, 3, none⟩ c3)).trans c3
        clear k1 k2 k3 hb4 c0 c1 c2 c3
        cases vb with
        | false =>
          have HZ4 : Hid (Z = ([], 0, 11)) := Lib.hid (by rw [HZ3.out] <;> rfl)
          go_wp2_with fail
          go_ret3
          unfold ParsePost
          rw [hZ.out, HZ4.out]
          exact ⟨_, rfl, NodesI.nil _ _, HB4.out⟩
        | true =>
          have HZ4 : Hid (Z = (ns, 0, 0)) := Lib.hid (by rw [HZ3.out] <;> rfl)
          go_wp2_with fail
          go_ret3
          unfold ParsePost
          rw [hZ.out, HZ4.out]
          exact ⟨_, rfl, HN4.out.base (by rw [← HBE.out]; exact HB1.out.size), HB4.out⟩
      | cons t q2 =>
        obtain ⟨f, rfl⟩ : ∃ g, f = g + 1 := ⟨f - 1, by simp at hqf; omega⟩
        have hq0 : (0 : Int) < ((t :: q2).length : Int) := by simp only [List.length_cons]; omega
        have HSUB : Hid (Calls Tryz.prog 47 #[.pointer (some ⟨b, 0, none⟩), .int .u8 68] w3 (SynPost m s.length b b w3 ns (subP T.length 68 (t :: q2)))) := Lib.hid (HSUBS.out 68 (t :: q2) ns w3 HP.out hqT (by omega))
        have hgood := subP_good T.length 68 (t :: q2)
        have HX2 : Hid (Y = match subP T.length 68 (t :: q2) with | .no x => .no x | .ok r1 n1 => progF T.length f (ns ++ n1) r1) := Lib.hid (by rw [← HX.out, progF, if_neg (by simp)] <;> rfl)
        cases hx : subP T.length 68 (t :: q2) with
        | no x =>
          rw [hx] at HSUB HX2
          have HZ3 : Hid (Z = ([], posT s.length x, 2)) := Lib.hid (by rw [HZ2.out, HX2.out] <;> rfl)
          clear hx hgood HX HP
          go_wp2_with fail
          ((with_reducible refine HSUB.out.mono ?_))
          rintro e w4 ⟨hb4, rfl, tv4, nv4, hbad⟩
          have HB4 : Hid (Below w.heap.size w w4) := Lib.hid ((HB1.out.trans (HB.out.mono (by rw [← HBE.out]; exact HB1.out.size))).trans (hb4.mono (by rw [← HBE.out]; exact HB1.out.size)))
          have k0 : ∀ x, Grows w4 x → x.cell? ⟨b, 2, none⟩ = _ := fun x h => (cells4 (blk_below hbad h)).2.2.1
          clear hb4 hbad c0 c1 c2 c3
          go_upto_region 7 with fail
          refine wp_region_plan (Grows _) 5 [.reads [0, 1, 2, 3, 4], .act 5, .act 6] (by kernel_rfl) (by kernel_rfl) (by kernel_rfl) (by kernel_rfl) (by kernel_rfl) (fun _ _ d _ _ h => by cases d <;> exact h) (Grows.self _) ?_
          refine wpPlan_reads ?_
          simp only [pickOps, List.drop_succ_cons, List.drop_zero, List.take_succ_cons, List.take_zero, List.cons_append, List.nil_append]
          repeat (go_big_quiet_step (first | (intro hb; rw [k0 _ hb]; exact ⟨rfl, rfl⟩)))
          refine wpQuiet_nil ?_
          clear k0
          refine wpPlan_act rfl ?_
          simp only [pickOps, List.drop_succ_cons, List.drop_zero, List.take_succ_cons, List.take_zero, List.cons_append, List.nil_append]
          go_wp2_with fail
          refine ⟨fun h => absurd h (by decide), ?_⟩
          refine wpPlan_act rfl ?_
          simp only [pickOps, List.drop_succ_cons, List.drop_zero, List.take_succ_cons, List.take_zero, List.cons_append, List.nil_append]
          go_wp2_with fail
          refine ⟨fun h => absurd h (by decide), wpPlan_nil ?_⟩
          go_wp2_with fail
          go_ret3
          unfold ParsePost
          rw [hZ.out, HZ3.out]
          exact ⟨_, rfl, NodesI.nil _ _, below_drewN HB4.out _⟩
        | ok r1 n1 =>
          rw [hx] at HSUB HX2 hgood
          obtain ⟨d, hd1, hd2, hd3, hd4⟩ := hgood
          have hr1 : r1.length + d = (t :: q2).length := by rw [hd3, List.length_drop]; omega
          have HX3 : Hid (progF T.length f (ns ++ n1) r1 = Y) := Lib.hid HX2.out.symm
          clear hx HX hd3 HP
          go_wp2_with fail
          ((with_reducible refine HSUB.out.mono ?_))
          rintro e w4 ⟨hb4, rfl, hp4⟩
          have HB4 : Hid (Below b w1 w4) := Lib.hid (HB.out.trans hb4)
          have HP4 := Lib.hid hp4
          clear hb4 hp4 c0 c1 c2 c3
          go_wp2_with fail
          go_roundw
          case rel => exact ⟨f, ns ++ n1, r1, by omega, by omega, by simp only [List.length_append]; omega, HX3, HP4, HB4⟩
          case measure => rw [HTL.out, HP4.out.tokLen]; omega
  · have f1 : ((er : Int) != 0) = true := by rw [bne_iff_ne]; omega
    have HZ1 : Hid (Z = ([], (pos : Int), (er : Int))) := Lib.hid (by rw [HZ0.out, if_pos he])
    clear he HZ0
    go_wp2_with fail
    go_ret3
    unfold ParsePost
    rw [hZ.out, HZ1.out]
    exact ⟨_, rfl, NodesI.nil _ _, HB1.out⟩
end Go.Proofs.YtnicnfchkdmieaaGreatDoor
namespace Go.Proofs.YtnicnfchkdmieaaGreatDoor
open Go.RowKit
set_option linter.unusedVariables false
set_option linter.unusedSimpArgs false
attribute [local go_sem] ByteArray.mk_append_mk bs_get bs_cut bs_end

theorem nd_eqIn (a b d a' b' d' : Int) (s s' : List UInt8) (w : World) : (Op.equalIn 10000 42 (.agg #[.int .i64 a, .int .u64 b, .string ⟨s.toArray⟩, .int .i64 d]) (.agg #[.int .i64 a', .int .u64 b', .string ⟨s'.toArray⟩, .int .i64 d'])).run Tryz.prog w = .ok (a == a' && b == b' && s == s' && d == d') w := by
  have hS : Tryz.prog.underlying 42 = some (.struct (Tryz.prog.fieldsOf 42)) := by kernel_rfl
  have hp : Tryz.prog.stoodInHeld 42 = false := by kernel_rfl
  rw [show (10000 : Nat) = 9999 + 1 from rfl, run_equalIn_agg w 9999 42 _ _ hS hp]
  simp only [Program.fieldsOf, Tryz.underlying42]
  have u3 := Tryz.underlying3
  have u5 := Tryz.underlying35
  have u9 := Tryz.underlying9
  go_simp
  by_cases h1 : a = a' <;> by_cases h2 : b = b' <;> by_cases h3 : s = s' <;> by_cases h4 : d = d' <;> simp [h1, h2, h3, h4]
theorem nd_neq (a b d a' b' d' : Int) (s s' : List UInt8) (w : World) : (binOp .neq 42 (.agg #[.int .i64 a, .int .u64 b, .string ⟨s.toArray⟩, .int .i64 d]) (.agg #[.int .i64 a', .int .u64 b', .string ⟨s'.toArray⟩, .int .i64 d'])).run Tryz.prog w = .ok (.bool (!(a == a' && b == b' && s == s' && d == d'))) w := by
  rw [run_neq_struct, nd_eqIn]; rfl
theorem nd_same (a b d : Int) (s : List UInt8) (w : World) : (binOp .neq 42 (.agg #[.int .i64 a, .int .u64 b, .string ⟨s.toArray⟩, .int .i64 d]) (.agg #[.int .i64 a, .int .u64 b, .string ⟨s.toArray⟩, .int .i64 d])).run Tryz.prog w = .ok (.bool false) w := by
  rw [nd_neq]; simp
theorem NSl.cells {w : World} {a : Option Addr} {n c : Nat} {l : List Nd} (h : NSl w (.slice a n c) l) (i : Nat) (hi : i < l.length) : ∃ b off, a = some ⟨b, off, none⟩ ∧ TAt w b (off + i * 4) l[i] := by
  obtain ⟨⟨a', cap', hv, hc⟩, _⟩ := h
  injection hv with e1 _ _
  subst e1
  obtain ⟨b, off, e, hk⟩ := hc (by rintro rfl; simp at hi)
  exact ⟨b, off, e, hk i hi⟩
set_option maxRecDepth 100000 in
set_option maxHeartbeats 4000000 in
theorem equal_nodes (va vb : Value) (l : List Nd) (w : World) (h1 : NSl w va l) (h2 : NSl w vb l) (hl : l.length ≤ 9223372036854770000) :
    Calls Tryz.prog 25 #[va, vb] w fun e w' => e = .returned (.bool true) ∧ ∃ n, w' = w.drewN n := by
  have H1 := h1
  have H2 := h2
  obtain ⟨⟨a1, p1, rfl, hc1⟩, _⟩ := H1
  obtain ⟨⟨a2, p2, rfl, hc2⟩, _⟩ := H2
  have K1 := Lib.hid h1.cells
  have K2 := Lib.hid h2.cells
  clear h1 h2 hc1 hc2
  go_enter Tryz.func25, Tryz.ntmps25
  go_wp2_with fail
  go_loopw [5] (fun i wr => ∃ k : Nat, i = .int .i64 k ∧ k ≤ l.length ∧ ∃ n, wr = w.drewN n) (fun i _ => l.length - (intOf i).toNat)
  case atStart => exact ⟨0, rfl, Nat.zero_le _, 0, rfl⟩
  case round =>
    obtain ⟨k, rfl, hk, n, rfl⟩ := hrel
    by_cases hlt : k < l.length
    · obtain ⟨b1, o1, e1, c0, c1, c2, c3⟩ := K1.out k hlt
      obtain ⟨b2, o2, e2, d0, d1, d2, d3⟩ := K2.out k hlt
      subst e1 e2
      generalize l[k] = t at *
      obtain ⟨tk, tn, ts, tp⟩ := t
      simp only at c0 c1 c2 c3 d0 d1 d2 d3
      have hN := nd_same tk tn tp ts
      go_wp2_with fail
      go_quiet (fail)
      go_wp2_with fail
      go_roundw
      case rel => exact ⟨k + 1, by go_num, by omega, _, rfl⟩
      case measure => simp [intOf]; omega
    · go_wp2_with fail
      go_ret
      exact ⟨rfl, n, rfl⟩
def aw1 : List UInt8 := [78, 97, 109, 101, 32, 40, 95, 65, 68, 82, 44, 32, 49, 54, 41]
def aw2 : List UInt8 := [68, 101, 118, 105, 99, 101, 32, 40, 69, 67, 48, 41, 32, 123]
def awP : List Nd := [⟨13, 0, [], 2⟩, ⟨3, 0, [95, 65, 68, 82], 0⟩, ⟨1, 16, [], 0⟩]
theorem aw1_is : parseL aw1 = (awP, 0, 0) := by decide +kernel
theorem aw2_is : parseL aw2 = ([], 14, 2) := by decide +kernel
theorem awP_is : validL awP = true := by decide +kernel
def rep (x : List UInt8) : Nat → List UInt8
  | 0 => []
  | k + 1 => rep x k ++ x
def preD (d : Bool) : List UInt8 := if d = true then [68, 101, 118, 105, 99, 101, 32, 40, 65, 41, 32, 123] else [83, 99, 111, 112, 101, 32, 40, 94, 65, 41, 32, 123]
def nestT (k : Nat) (d : Bool) : List UInt8 := rep (preD d) k ++ [69, 118, 101, 110, 116, 32, 40, 69, 41] ++ rep [125] k
def nestB (k : Nat) (d : Bool) : Bool := let x := parseL (nestT k d)
  if 32 < 2 * k + 2 then x == ([], 0, 11) else x.2.2 == 0 && validL x.1 && x.1.length == 3 * k + 2
end Go.Proofs.YtnicnfchkdmieaaGreatDoor
namespace Go.Proofs.YtnicnfchkdmieaaGreatDoor
open Go.RowKit
set_option linter.unusedVariables false
set_option linter.unusedSimpArgs false
attribute [local go_sem] ByteArray.mk_append_mk bs_get bs_cut bs_end

theorem parse_is (s : List UInt8) (ns : List Nd) (pos er m : Int) (H : Hid (parseL s = (ns, pos, er))) (w : World) (hm : SynG m w) (hs : s.length ≤ 4611686018427380000) :
    Calls Tryz.prog 24 #[.string ⟨s.toArray⟩] w fun e w' => ∃ v, e = .returned (.tuple #[v, .int .i64 pos, .int .i64 er]) ∧ NodesI w' w.heap.size v ns ∧ Below w.heap.size w w' := by
  have := parse_syn s m w hm hs
  unfold ParsePost at this
  rw [H.out] at this
  exact this
theorem valid_is (m : Int) (p : List Nd) (b : Bool) (H : Hid (validL p = b)) (v : Value) (w : World) (hv : NSl w v p) (hm : SynG m w) (hl : p.length ≤ 9223372036854775000) :
    Calls Tryz.prog 16 #[v] w fun e w' => e = .returned (.bool b) ∧ Below w.heap.size w w' := by
  have := valid_any m p v w hv hm hl
  rw [H.out] at this
  exact this
theorem awP_nds : NdsOk awP := by
  intro t ht
  simp only [awP, List.mem_cons, List.not_mem_nil, or_false] at ht
  rcases ht with rfl | rfl | rfl <;> simp
abbrev awO : Obj := .cells #[.int .i64 13, .int .u64 0, .string ⟨#[]⟩, .int .i64 2, .int .i64 3, .int .u64 0, .string ⟨#[95, 65, 68, 82]⟩, .int .i64 0, .int .i64 1, .int .u64 16, .string ⟨#[]⟩, .int .i64 0] 42
theorem aw_lit (w : World) : NSl (w.alloc awO) (.slice (some ⟨w.heap.size, 0, none⟩) 3 3) awP := by
  rw [show awO = .cells (tcI awP).toArray 42 from rfl]
  refine ⟨⟨_, _, rfl, fun _ => ⟨w.heap.size, 0, rfl, fun i hi => ?_⟩⟩, awP_nds⟩
  obtain ⟨k0, k1, k2, k3⟩ := tcI_at awP i hi
  have h := heap_alloc_new w (.cells (tcI awP).toArray 42)
  rw [Nat.zero_add]
  refine ⟨?_, ?_, ?_, ?_⟩
  · rw [cell_of_row _ _ _ _ _ (0, 0) h]; simpa using k0
  · rw [cell_of_row _ _ _ _ _ (0, 0) h]; simpa using k1
  · rw [cell_of_row _ _ _ _ _ (0, 0) h]; simpa using k2
  · rw [cell_of_row _ _ _ _ _ (0, 0) h]; simpa using k3
set_option maxRecDepth 100000 in
set_option maxHeartbeats 4000000 in
theorem awake_any (m : Int) (w : World) (hm : SynG m w) : Calls Tryz.prog 9 #[] w fun e w' => e = .returned (.bool true) ∧ Below w.heap.size w w' := by
  have HP1 := Lib.hid (parse_is aw1 awP 0 0 m (Lib.hid aw1_is) w hm (by decide))
  have HG := Lib.hid hm
  unfold aw1 at HP1
  clear hm
  go_enter Tryz.func9, Tryz.ntmps9
  go_wp2_with fail
  ((with_reducible refine HP1.out.mono ?_))
  rintro e w1 ⟨v1, rfl, hv1, hb1⟩
  obtain ⟨a1, c1, rfl⟩ := hv1.form
  have HG1 := Lib.hid (HG.out.below hb1 HG.out.low)
  have HN1 := Lib.hid (hv1.sl awP_nds)
  have HB1 := Lib.hid hb1
  have HP2 := Lib.hid (parse_is aw2 [] 14 2 m (Lib.hid aw2_is) w1 HG1.out (by decide))
  unfold aw2 at HP2
  clear hv1 hb1 HP1 HG
  go_wp2_with fail
  ((with_reducible refine HP2.out.mono ?_))
  rintro e w2 ⟨v2, rfl, hv2, hb2⟩
  obtain ⟨a2, c2, rfl⟩ := hv2.form
  have HG2 := Lib.hid (HG1.out.below hb2 HG1.out.low)
  have HN2 := Lib.hid (HN1.out.below hb2)
  have HB2 : Hid (Below w.heap.size w w2) := Lib.hid (bel_then HB1.out (Nat.le_refl _) hb2)
  have HLT := Lib.hid (aw_lit w2)
  have hal : Below w2.heap.size w2 (w2.alloc awO) := (Below.refl _ _).alloc (Nat.le_refl _) _
  have HN3 := Lib.hid (HN2.out.below hal)
  have HG3 := Lib.hid (HG2.out.below hal HG2.out.low)
  have HB3 : Hid (Below w.heap.size w (w2.alloc awO)) := Lib.hid (bel_then HB2.out (Nat.le_refl _) hal)
  have HEQ := Lib.hid (equal_nodes _ _ awP _ HN3.out HLT.out (by decide))
  clear hv2 hb2 HP2 HG1 HN1 HB1 hal
  go_wp2_with fail
  ((with_reducible refine HEQ.out.mono ?_))
  rintro e w4 ⟨rfl, n, rfl⟩
  have hdr : Below (w2.alloc awO).heap.size (w2.alloc awO) ((w2.alloc awO).drewN n) := below_drewN (Below.refl _ _) n
  have HVA := Lib.hid (valid_is m awP true (Lib.hid awP_is) _ _ (HN3.out.below hdr) (HG3.out.below hdr HG3.out.low) (by decide))
  have HB4 : Hid (Below w.heap.size w ((w2.alloc awO).drewN n)) := Lib.hid (below_drewN HB3.out n)
  clear hdr
  go_wp2_with fail
  ((with_reducible refine HVA.out.mono ?_))
  rintro e w5 ⟨rfl, hb5⟩
  have HB5 : Hid (Below w.heap.size w w5) := Lib.hid (bel_then HB4.out (Nat.le_refl _) hb5)
  clear hb5
  go_wp2_with fail
  go_ret
  exact ⟨rfl, HB5.out⟩
end Go.Proofs.YtnicnfchkdmieaaGreatDoor
