/- Sb -/
import Derived.Test.YtnicnfchkdmieaaGreatDoorZj
import Derived.Test.YtnicnfchkdmieaaGreatDoorZPlan
set_option linter.unusedVariables false
set_option linter.unusedSimpArgs false
namespace Go.Proofs.YtnicnfchkdmieaaGreatDoor
open Go.RowKit
attribute [local go_sem] ByteArray.mk_append_mk bs_get bs_cut bs_end
def TAt (w : World) (b off : Nat) (t : TokI) : Prop := w.cell? ⟨b, off, none⟩ = some (.int .i64 t.kind) ∧ w.cell? ⟨b, off + 1, none⟩ = some (.int .u64 t.num) ∧ w.cell? ⟨b, off + 2, none⟩ = some (.string ⟨t.str.toArray⟩) ∧ w.cell? ⟨b, off + 3, none⟩ = some (.int .i64 t.pos)
def tcI : List TokI → List Value
 | [] => []
 | t :: r => .int .i64 t.kind :: .int .u64 t.num :: .string ⟨t.str.toArray⟩ :: .int .i64 t.pos :: tcI r
theorem tcI_app : ∀ l m : List TokI, tcI (l ++ m) = tcI l ++ tcI m
 | [], m => rfl
 | t :: r, m => by rw [List.cons_append, tcI, tcI, tcI_app r m]; rfl
theorem tcI_len : ∀ l : List TokI, (tcI l).length = l.length * 4
 | [] => rfl
 | t :: r => by simp only [tcI, List.length_cons, tcI_len r]; omega
theorem tcI_at : ∀ (l : List TokI) (i : Nat) (h : i < l.length), (tcI l)[i * 4]? = some (.int .i64 l[i].kind) ∧ (tcI l)[i * 4 + 1]? = some (.int .u64 l[i].num) ∧ (tcI l)[i * 4 + 2]? = some (.string ⟨l[i].str.toArray⟩) ∧ (tcI l)[i * 4 + 3]? = some (.int .i64 l[i].pos)
 | t :: r, 0, _ => ⟨rfl, rfl, rfl, rfl⟩
 | t :: r, i + 1, h => by
   have := tcI_at r i (by simpa using h)
   rw [show (i + 1) * 4 = i * 4 + 4 by omega]
   exact this
def TokB (w : World) (B : Nat) (v : Value) (l : List TokI) : Prop :=
 ∃ (a : Option Addr) (cap : Nat), v = .slice a l.length cap ∧ l.length ≤ cap ∧ (l ≠ [] → ∃ b off, a = some ⟨b, off, none⟩ ∧ b < B ∧ ∀ i (h : i < l.length), TAt w b (off + i * 4) l[i])
theorem TAt.belowB {w w' : World} {B b off : Nat} {t : TokI} (h : TAt w b off t) (hb : Below B w w') (hB : b < B) : TAt w' b off t := by
 obtain ⟨h0, h1, h2, h3⟩ := h
 refine ⟨?_, ?_, ?_, ?_⟩
 ·rw [hb.cell (p := ⟨b, off, none⟩) hB]; exact h0
 ·rw [hb.cell (p := ⟨b, off + 1, none⟩) hB]; exact h1
 ·rw [hb.cell (p := ⟨b, off + 2, none⟩) hB]; exact h2
 ·rw [hb.cell (p := ⟨b, off + 3, none⟩) hB]; exact h3
theorem TokB.below {w w' : World} {B : Nat} {v : Value} {l : List TokI} (h : TokB w B v l) (hb : Below B w w') : TokB w' B v l := by
 obtain ⟨a, cap, hv, hl, hc⟩ := h
 refine ⟨a, cap, hv, hl, fun hn => ?_⟩
 obtain ⟨b, off, ha, hB, hk⟩ := hc hn
 exact ⟨b, off, ha, hB, fun i hi => (hk i hi).belowB hb hB⟩
def tailV : Value → Value
 | .slice a n cap => sliced a 1 n cap 4
 | v => v
theorem TokB.tail {w : World} {B : Nat} {v : Value} {t : TokI} {q : List TokI} (h : TokB w B v (t :: q)) : TokB w B (tailV v) q := by
 obtain ⟨a, cap, rfl, hl, hc⟩ := h
 obtain ⟨b, off, rfl, hB, hk⟩ := hc (by simp)
 rw [List.length_cons] at hl
 refine ⟨some (if cap = 1 then ⟨b, off, none⟩ else (Addr.add ⟨b, off, none⟩ (1 * 4))), cap - 1, ?_, by omega, fun hn => ?_⟩
 ·by_cases h1 : cap = 1 <;> simp [tailV, sliced, slicedAt, h1]
 ·have hq := List.length_pos_iff.2 hn
  rw [if_neg (by omega)]
  refine ⟨b, off + 4, by simp [Addr.add], hB, fun i hi => ?_⟩
  have := hk (i + 1) (by simpa using hi)
  rw [show off + (i + 1) * 4 = off + 4 + i * 4 by omega] at this
  simpa using this
def NodesI (w : World) (B : Nat) (v : Value) (l : List Nd) : Prop := w.ownsRow B 42 4 v l.length (tcI l)
theorem NodesI.nil (w : World) (B : Nat) : NodesI w B (.slice none 0 0) [] := ⟨rfl, .inl ⟨rfl, rfl⟩⟩
theorem NodesI.below {w w' : World} {B : Nat} {v : Value} {l : List Nd} (h : NodesI w B v l) (hb : Below w.heap.size w w') : NodesI w' B v l := own_below h hb
theorem NodesI.base {w : World} {B B' : Nat} {v : Value} {l : List Nd} (h : NodesI w B v l) (hB : B' ≤ B) : NodesI w B' v l := own_base h hB
theorem NodesI.form {w : World} {B : Nat} {v : Value} {l : List Nd} (h : NodesI w B v l) : ∃ a c, v = .slice a l.length c := by
 rcases h.2 with ⟨rfl, h0⟩ | ⟨g, cap, cur, rfl, _⟩
 ·exact ⟨none, 0, by rw [h0]⟩
 ·exact ⟨_, cap, rfl⟩
abbrev psObj (tv : Value) (E bad : Int) (nv : Value) : Obj := .cells #[tv, .int .i64 E, .int .i64 bad, nv] 84 (0, 0)
theorem own_ps {w : World} {B : Nat} {v : Value} {l : List Nd} (h : NodesI w B v l) {b : Nat} {tv nv : Value} {E bad : Int} (hb : w.heap[b]? = some (psObj tv E bad nv)) : v.ownBlock ≠ some b := by
 intro e
 obtain ⟨cur, hc⟩ := own_type h e
 rw [hb] at hc
 injection hc with hc
 injection hc with _ h2 _
 exact absurd h2 (by decide)
theorem own_setOther {w : World} {B e z : Nat} {v : Value} {n : Nat} {xs : List Value} (h : w.ownsRow B e z v n xs) (p : Addr) (u : Value) (hp : v.ownBlock ≠ some p.block) : (w.setCell p u).ownsRow B e z v n xs := by
 refine own_grown (row := some p.block) h ⟨rfl, rfl, rfl, by simp [World.setCell], fun k hk hne => Below.heap_setCell _ _ _ _ (fun e => hne (by rw [e]))⟩ (fun g hg e => hp (by rw [hg, e]))
def TGood (r : List TokI) : Prop := ∀ t ∈ r, t.str.length ≤ 65536 ∧ (t.kind = 2 → t.str ≠ [])
theorem TGood.drop {r : List TokI} (h : TGood r) (k : Nat) : TGood (r.drop k) := fun t ht => h t (List.mem_of_mem_drop ht)
def SynG (m : Int) (w : World) : Prop := w.cell? ⟨3, 0, none⟩ = some (.int .i64 m) ∧
 (∀ j (h : j < exprT.length), w.cell? ⟨2, 2 * j, none⟩ = some (.string ⟨exprT[j].1.toArray⟩) ∧ w.cell? ⟨2, 2 * j + 1, none⟩ = some (.string ⟨exprT[j].2.toArray⟩)) ∧
 (∀ j (h : j < stmtT.length), w.cell? ⟨1, 2 * j, none⟩ = some (.string ⟨stmtT[j].1.toArray⟩) ∧ w.cell? ⟨1, 2 * j + 1, none⟩ = some (.string ⟨stmtT[j].2.toArray⟩)) ∧
 (∀ j (h : j < declT.length), w.cell? ⟨0, 2 * j, none⟩ = some (.string ⟨declT[j].1.toArray⟩) ∧ w.cell? ⟨0, 2 * j + 1, none⟩ = some (.string ⟨declT[j].2.toArray⟩))
def SynB (B : Nat) : Prop := 3 < B ∧ 2 < B ∧ 1 < B ∧ 0 < B
theorem SynG.low {m : Int} {w : World} (h : SynG m w) : SynB w.heap.size :=
 ⟨World.block_lt_of_cell? w _ h.1, World.block_lt_of_cell? w _ (h.2.1 0 (by decide)).1, World.block_lt_of_cell? w _ (h.2.2.1 0 (by decide)).1, World.block_lt_of_cell? w _ (h.2.2.2 0 (by decide)).1⟩
theorem SynG.below {m : Int} {w w' : World} {B : Nat} (h : SynG m w) (hb : Below B w w') (hB : SynB B) : SynG m w' := by
 obtain ⟨h1, h2, h3, h4⟩ := h
 refine ⟨(hb.cell (p := ⟨3, 0, none⟩) hB.1).trans h1, fun j hj => ⟨?_, ?_⟩, fun j hj => ⟨?_, ?_⟩, fun j hj => ⟨?_, ?_⟩⟩
 ·exact (hb.cell (p := ⟨_, 2 * j, none⟩) hB.2.1).trans (h2 j hj).1
 ·exact (hb.cell (p := ⟨_, 2 * j + 1, none⟩) hB.2.1).trans (h2 j hj).2
 ·exact (hb.cell (p := ⟨_, 2 * j, none⟩) hB.2.2.1).trans (h3 j hj).1
 ·exact (hb.cell (p := ⟨_, 2 * j + 1, none⟩) hB.2.2.1).trans (h3 j hj).2
 ·exact (hb.cell (p := ⟨_, 2 * j, none⟩) hB.2.2.2).trans (h4 j hj).1
 ·exact (hb.cell (p := ⟨_, 2 * j + 1, none⟩) hB.2.2.2).trans (h4 j hj).2
structure PSt (m E : Int) (B b : Nat) (w : World) (r : List TokI) (o : List Nd) : Prop where
 ex : ∃ tv bad nv, w.heap[b]? = some (psObj tv E bad nv) ∧ TokB w B tv r ∧ NodesI w B nv o
 base : B ≤ b
 size : B ≤ w.heap.size
 syn : SynG m w
 hund : SynB B
 good : TGood r
theorem PSt.below {m E : Int} {B b : Nat} {w w' : World} {r : List TokI} {o : List Nd} (h : PSt m E B b w r o) (hb : Below w.heap.size w w') : PSt m E B b w' r o := by
 obtain ⟨⟨tv, bad, nv, h1, h2, h3⟩, h4, h5, h6, h7, h8⟩ := h
 exact ⟨⟨tv, bad, nv, blk_below h1 hb, h2.below (hb.mono h5), h3.below hb⟩, h4, Nat.le_trans h5 hb.size, h6.below (hb.mono h5) h7, h7, h8⟩
theorem PSt.alloc {m E : Int} {B b : Nat} {w : World} {r : List TokI} {o : List Nd} (h : PSt m E B b w r o) (x : Obj) : PSt m E B b (w.alloc x) r o := h.below ((Below.refl _ _).alloc (Nat.le_refl _) _)
def PBad (E : Int) (b : Nat) (x : List TokI) (w : World) : Prop := ∃ tv nv, w.heap[b]? = some (psObj tv E (posT E x) nv)
def SynPost (m E : Int) (B b : Nat) (w : World) (o : List Nd) (x : PR) (e : Ending) (w' : World) : Prop :=
 Below B w w' ∧ match x with
  | .no y => e = .returned (.bool false) ∧ PBad E b y w'
  | .ok y ns => e = .returned (.bool true) ∧ PSt m E B b w' y (o ++ ns)
theorem at_any (m E : Int) (B b : Nat) (k : Int) (w : World) (r : List TokI) (o : List Nd) (h : PSt m E B b w r o) (hr : r.length ≤ 1000000) :
 Calls Tryz.prog 129 #[.pointer (some ⟨b, 0, none⟩), .int .i64 k] w fun e w' => e = .returned (.bool (atT k r)) ∧ w = w' := by
 obtain ⟨⟨tv, bad, nv, h1, h2, h3⟩, h4, h5, h6, h7, h8⟩ := h
 obtain ⟨a, cap, rfl, hl, hc⟩ := h2
 obtain ⟨c0, c1, c2, c3⟩ := cells4 h1
 clear h3 h6 h8 h1
 cases r with
 | nil =>
   clear hc
   go_enter Tryz.func129, Tryz.ntmps129
   go_wp2_with fail
   go_ret
   exact ⟨rfl, rfl⟩
 | cons t q =>
   obtain ⟨g, off, rfl, hB, hk⟩ := hc (by simp)
   obtain ⟨d0, d1, d2, d3⟩ := hk 0 (by simp)
   have hq : (0 : Int) < ((t :: q).length : Int) := by simp only [List.length_cons]; omega
   simp only [Nat.zero_mul, Nat.add_zero, List.getElem_cons_zero] at d0 d1 d2 d3
   clear hk hc
   go_enter Tryz.func129, Tryz.ntmps129
   go_wp2_with fail
   go_ret
   exact ⟨rfl, rfl⟩
theorem fail_any (m E : Int) (B b : Nat) (w : World) (r : List TokI) (o : List Nd) (h : PSt m E B b w r o) (hr : r.length ≤ 1000000) :
 Calls Tryz.prog 84 #[.pointer (some ⟨b, 0, none⟩)] w fun e w' => e = .returned (.bool false) ∧ PBad E b r w' ∧ Below B w w' := by
 obtain ⟨⟨tv, bad, nv, h1, h2, h3⟩, h4, h5, h6, h7, h8⟩ := h
 obtain ⟨a, cap, rfl, hl, hc⟩ := h2
 have HP := Lib.hid h1
 obtain ⟨c0, c1, c2, c3⟩ := cells4 h1
 have f2 := free3 h1 2
 clear h3 h6 h8 h1
 cases r with
 | nil =>
   clear hc
   go_enter Tryz.func84, Tryz.ntmps84
   go_wp2_with fail
   go_ret
   refine ⟨rfl, ⟨_, nv, heap_setCell_same _ _ 2 _ _ _ HP.out⟩, (Below.refl _ _).setCell h4 _⟩
 | cons t q =>
   obtain ⟨g, off, rfl, hB, hk⟩ := hc (by simp)
   obtain ⟨d0, d1, d2, d3⟩ := hk 0 (by simp)
   have hq : (0 : Int) < ((t :: q).length : Int) := by simp only [List.length_cons]; omega
   simp only [Nat.zero_mul, Nat.add_zero, List.getElem_cons_zero] at d0 d1 d2 d3
   clear hk hc
   go_enter Tryz.func84, Tryz.ntmps84
   go_wp2_with fail
   go_ret
   exact ⟨rfl, ⟨_, nv, heap_setCell_same _ _ 2 _ _ _ (heap_setCell_same _ _ 2 _ _ _ HP.out)⟩, ((Below.refl _ _).setCell h4 _).setCell h4 _⟩
theorem PSt.setTok {m E : Int} {B b : Nat} {w : World} {r r' : List TokI} {o : List Nd} {tv nv u : Value} {bad : Int} (h : PSt m E B b w r o) (hb : w.heap[b]? = some (psObj tv E bad nv)) (hn : NodesI w B nv o) (hu : TokB w B u r') (hg : TGood r') :
 PSt m E B b (w.setCell ⟨b, 0, none⟩ u) r' o :=
 have hB : Below B w (w.setCell ⟨b, 0, none⟩ u) := (Below.refl _ _).setCell h.base _
 ⟨⟨u, bad, nv, heap_setCell_same _ _ 0 _ _ _ hb, hu.below hB, own_setOther hn _ _ (own_ps hn hb)⟩, h.base, Nat.le_trans h.size hB.size, h.syn.below hB h.hund, h.hund, hg⟩
theorem skip_any (m E : Int) (B b : Nat) (w : World) (t : TokI) (q : List TokI) (o : List Nd) (h : PSt m E B b w (t :: q) o) (hr : q.length ≤ 1000000) :
 Calls Tryz.prog 87 #[.pointer (some ⟨b, 0, none⟩)] w fun e w' => e = .returned (.tuple #[]) ∧ PSt m E B b w' q o ∧ Below B w w' := by
 have H := Lib.hid h
 obtain ⟨⟨tv, bad, nv, h1, h2, h3⟩, h4, h5, h6, h7, h8⟩ := h
 have KEY : Hid (∀ u, u = tailV tv → PSt m E B b (w.setCell ⟨b, 0, none⟩ u) q o) := Lib.hid (by rintro _ rfl; exact H.out.setTok h1 h3 h2.tail (h8.drop 1))
 obtain ⟨a, cap, rfl, hl, hc⟩ := h2
 obtain ⟨c0, c1, c2, c3⟩ := cells4 h1
 have f0 := free3 h1 0
 have hq : (1 : Int) ≤ ((t :: q).length : Int) := by simp only [List.length_cons]; omega
 clear h3 h6 h8 h1 hc
 go_enter Tryz.func87, Tryz.ntmps87
 go_wp2_with fail
 all_goals
  go_end0
  exact ⟨rfl, KEY.out _ (by simp [tailV, sliced, slicedAt, h, Addr.add]), (Below.refl _ _).setCell h4 _⟩
theorem punct_any (m E : Int) (B b : Nat) (k : Int) (w : World) (r : List TokI) (o : List Nd) (h : PSt m E B b w r o) (hr : r.length ≤ 1000000) :
 Calls Tryz.prog 159 #[.pointer (some ⟨b, 0, none⟩), .int .i64 k] w (SynPost m E B b w o (if atT k r = true then .ok r.tail [] else .no r)) := by
 have H := Lib.hid h
 have HA := Lib.hid (at_any m E B b k w r o h hr)
 cases hk : atT k r
 ·rw [hk] at HA
  rw [if_neg (by decide)]
  have HF := Lib.hid (fail_any m E B b w r o h hr)
  clear h hk
  go_enter Tryz.func159, Tryz.ntmps159
  go_wp2_with fail
  ((with_reducible refine HA.out.mono ?_))
  rintro e w1 ⟨rfl, rfl⟩
  go_wp2_with fail
  ((with_reducible refine HF.out.mono ?_))
  rintro e w1 ⟨rfl, hb, hB⟩
  have HB := Lib.hid hb
  have HL := Lib.hid hB
  clear hb hB
  go_wp2_with fail
  go_ret
  exact ⟨HL.out, rfl, HB.out⟩
 ·rw [hk] at HA
  rw [if_pos rfl]
  cases r with
  | nil => cases hk
  | cons t q =>
    have HS := Lib.hid (skip_any m E B b w t q o h (by simp at hr; omega))
    clear h hk
    go_enter Tryz.func159, Tryz.ntmps159
    go_wp2_with fail
    ((with_reducible refine HA.out.mono ?_))
    rintro e w1 ⟨rfl, rfl⟩
    go_wp2_with fail
    ((with_reducible refine HS.out.mono ?_))
    rintro e w1 ⟨rfl, hb, hB⟩
    have HB := Lib.hid hb
    have HL := Lib.hid hB
    clear hb hB
    go_wp2_with fail
    go_ret
    exact ⟨HL.out, rfl, by rw [List.append_nil]; exact HB.out⟩
end Go.Proofs.YtnicnfchkdmieaaGreatDoor
