/- Convert, of the reference: the walk. -/
import Derived.Test.YteifmjhkedhomaaDoorVi
namespace Go.Proofs.YteifmjhkedhomaaDoor
open Go.RowKit
attribute [local go_sem] ByteArray.mk_append_mk bs_get bs_cut bs_end conv1 conv2

theorem clean_form (k n : Int) (s : List UInt8) (o : Int) : ∃ (a b : Int) (t : List UInt8) (c : Int), cleanV k n s o = valV a b t c := by
  unfold cleanV
  split
  · exact ⟨_, _, _, _, rfl⟩
  · split
    · exact ⟨_, _, _, _, rfl⟩
    · split
      · exact ⟨_, _, _, _, rfl⟩
      · exact ⟨_, _, _, _, rfl⟩
def badV (e : Int) : Value × Int := (valV 0 0 [] 0, e)
def textE (kind : Int) (r : List UInt8 × Int) : Value × Int := if r.2 = 0 then (valV kind 0 r.1 0, 0) else badV r.2
def intE (r : Int × Int) : Value × Int := if r.2 = 0 then (valV 1 r.1 [] 0, 0) else badV r.2
/-- What Convert returns. -/
def cvV (k n : Int) (s : List UInt8) (o kind : Int) : Value × Int :=
  if validV k s = false then badV 1 else if kind = 1 then intE (intV k n s) else if kind = 2 then textE 2 (strOfV k n s) else if kind = 3 then textE 3 (bufV k n s)
  else if k = kind then (cleanV k n s o, 0) else badV 10
def CvPost (w : World) (r : Value × Int) (e : Ending) (w' : World) : Prop := e = .returned (.tuple #[r.1, .int .i64 r.2]) ∧ Below w.heap.size w w'
theorem ret_rcv (tmps : Array Value) (w : World) (b : Nat) (c0 c1 c2 c3 : Value) (h2 : tmps.getD 4 undef = .pointer (some ⟨b, 0, none⟩)) (hb : w.heap[b]? = some (.cells #[c0, c1, c2, c3] 24 (0, 0))) :
    (results Tryd.f35 tmps).run Tryd.prog w = .ok (.tuple #[.agg #[c0, c1, c2, c3], tmps.getD 5 undef]) w := by
  obtain ⟨e0, e1, e2, e3⟩ := cells4 hb
  have h2' : tmps[4]?.getD undef = .pointer (some ⟨b, 0, none⟩) := by rw [← h2]; simp
  simp [results]
  go_simp
/-- The box and the result's block. -/
def CAt (w wr : World) (k n : Int) (s : List UInt8) (o : Int) : Prop := VBox w wr k n s o ∧ wr.heap[w.heap.size + 1]? = some (.cells #[.int .i64 0, .int .u64 0, .string ⟨#[]⟩, .int .i64 0] 24 (0, 0))
theorem CAt.start (w : World) (k n : Int) (s : List UInt8) (o : Int) : CAt w ((w.alloc (.cells #[.int .i64 k, .int .u64 n, .string ⟨s.toArray⟩, .int .i64 o] 24)).alloc (.cells #[.int .i64 0, .int .u64 0, .string ⟨#[]⟩, .int .i64 0] 24)) k n s o :=
  ⟨(VBox.start w k n s o).below ((Below.refl _ _).alloc (Nat.le_refl _) _), heap_alloc2_new _ _ _⟩
theorem CAt.below {w wr w2 : World} {k n : Int} {s : List UInt8} {o : Int} (h : CAt w wr k n s o) (hb : Below wr.heap.size wr w2) : CAt w w2 k n s o := ⟨h.1.below hb, blk_below h.2 hb⟩
set_option maxRecDepth 100000 in
set_option maxHeartbeats 2000000 in
theorem rconvert_any (k n o kind : Int) (s : List UInt8) (w : World) (hs : s.length ≤ 9223372036854774000) (hn0 : 0 ≤ n) (HN : Hid (n.toNat < 2 ^ 64)) : Calls Tryd.prog 35 #[valV k n s o, .int .i64 kind] w (CvPost w (cvV k n s o kind)) := by
  have HA0 := Lib.hid (CAt.start w k n s o)
  obtain ⟨b0, b1, b2, b3⟩ := HA0.out.1.cells
  cases hv : validV k s
  · have HV := Lib.hid hv
    have HR : Hid (cvV k n s o kind = badV 1) := Lib.hid (by unfold cvV; rw [if_pos hv])
    clear hv
    go_enter Tryd.func35, Tryd.ntmps35
    go_wp2_with fail
    ((with_reducible refine (rvalid_is k n o s false HV _ (by omega)).mono ?_))
    rintro e w1 ⟨rfl, hb1⟩
    have HA := Lib.hid (HA0.out.below hb1)
    clear hb1 HA0 b0 b1 b2 b3
    have HZ := Lib.hid HA.out.2
    have HB := Lib.hid HA.out.1.2
    have hn := HZ.out
    obtain ⟨c0, c1, c2, c3⟩ := cells4 hn
    have f0 := free3 hn 0
    have f1 := free3 hn 1
    have f2 := free3 hn 2
    have f3 := free3 hn 3
    clear hn
    go_wp2_with fail
    exact bodyPost_ret (ret_rcv _ _ _ _ _ _ _ rfl (put4 HZ.out _ _ _ _)) rfl ⟨by rw [HR.out]; rfl, bel4 HB.out (by omega) _ _ _ _⟩

  · have HV := Lib.hid hv
    have HV0 : Hid (cvV k n s o kind = if kind = 1 then intE (intV k n s) else if kind = 2 then textE 2 (strOfV k n s) else if kind = 3 then textE 3 (bufV k n s) else if k = kind then (cleanV k n s o, 0) else badV 10) := Lib.hid (by unfold cvV; rw [if_neg (by rw [hv]; decide)])
    clear hv
    go_enter Tryd.func35, Tryd.ntmps35
    go_wp2_with fail
    ((with_reducible refine (rvalid_is k n o s true HV _ (by omega)).mono ?_))
    rintro e w1 ⟨rfl, hb1⟩
    have HA := Lib.hid (HA0.out.below hb1)
    clear hb1 HA0 b0 b1 b2 b3
    obtain ⟨b0, b1, b2, b3⟩ := HA.out.1.cells
    by_cases h1 : kind = 1
    · subst h1
      have HR : Hid (cvV k n s o 1 = intE (intV k n s)) := Lib.hid (by rw [HV0.out]; rfl)
      obtain ⟨⟨x, er⟩, hr⟩ : ∃ r, intV k n s = r := ⟨_, rfl⟩
      have HI := Lib.hid hr
      clear hr
      go_wp2_with fail
      ((with_reducible refine (rinteger_any k n o s _ (by omega)).mono ?_))
      rintro e w3 ⟨rfl, hb⟩
      have HA2 := HA
      clear HA
      have HA := Lib.hid (HA2.out.below hb)
      clear hb HA2
      rw [HI.out]
      clear b0 b1 b2 b3
      by_cases he : er = 0
      · subst he
        go_wp2_with fail
        ((with_reducible refine (number_any x _).mono ?_))
        rintro e w4 ⟨rfl, hb⟩
        have HA2 := HA
        clear HA
        have HA := Lib.hid (HA2.out.below hb)
        clear hb HA2
        have HZ := Lib.hid HA.out.2
        have HB := Lib.hid HA.out.1.2
        have hn := HZ.out
        obtain ⟨c0, c1, c2, c3⟩ := cells4 hn
        have f0 := free3 hn 0
        have f1 := free3 hn 1
        have f2 := free3 hn 2
        have f3 := free3 hn 3
        clear hn
        go_wp2_with fail
        exact bodyPost_ret (ret_rcv _ _ _ _ _ _ _ rfl (put4 HZ.out _ _ _ _)) rfl ⟨by rw [HR.out, HI.out]; rfl, bel4 HB.out (by omega) _ _ _ _⟩
      · have he' : (er == 0) = false := by rw [beq_eq_false_iff_ne]; exact he
        have HT : Hid (intE (x, er) = badV er) := Lib.hid (if_neg he)
        clear he
        have HZ := Lib.hid HA.out.2
        have HB := Lib.hid HA.out.1.2
        have hn := HZ.out
        obtain ⟨c0, c1, c2, c3⟩ := cells4 hn
        have f0 := free3 hn 0
        have f1 := free3 hn 1
        have f2 := free3 hn 2
        have f3 := free3 hn 3
        clear hn
        go_wp2_with fail
        exact bodyPost_ret (ret_rcv _ _ _ _ _ _ _ rfl (put4 HZ.out _ _ _ _)) rfl ⟨by rw [HR.out, HI.out, HT.out]; rfl, bel4 HB.out (by omega) _ _ _ _⟩
    · by_cases h2 : kind = 2
      · subst h2
        have HR : Hid (cvV k n s o 2 = textE 2 (strOfV k n s)) := Lib.hid (by rw [HV0.out]; rfl)
        obtain ⟨⟨x, er⟩, hr⟩ : ∃ r, strOfV k n s = r := ⟨_, rfl⟩
        have HI := Lib.hid hr
        clear hr
        go_wp2_with fail
        ((with_reducible refine (rstring_any k n o s _ (by omega) hn0 HN).mono ?_))
        rintro e w3 ⟨rfl, hb⟩
        have HA2 := HA
        clear HA
        have HA := Lib.hid (HA2.out.below hb)
        clear hb HA2
        rw [HI.out]
        clear b0 b1 b2 b3
        by_cases he : er = 0
        · subst he
          have HZ := Lib.hid HA.out.2
          have HB := Lib.hid HA.out.1.2
          have hn := HZ.out
          obtain ⟨c0, c1, c2, c3⟩ := cells4 hn
          have f0 := free3 hn 0
          have f1 := free3 hn 1
          have f2 := free3 hn 2
          have f3 := free3 hn 3
          clear hn
          go_wp2_with fail
          exact bodyPost_ret (ret_rcv _ _ _ _ _ _ _ rfl (put4 HZ.out _ _ _ _)) rfl ⟨by rw [HR.out, HI.out]; rfl, bel4 HB.out (by omega) _ _ _ _⟩
        · have he' : (er == 0) = false := by rw [beq_eq_false_iff_ne]; exact he
          have HT : Hid (textE 2 (x, er) = badV er) := Lib.hid (if_neg he)
          clear he
          have HZ := Lib.hid HA.out.2
          have HB := Lib.hid HA.out.1.2
          have hn := HZ.out
          obtain ⟨c0, c1, c2, c3⟩ := cells4 hn
          have f0 := free3 hn 0
          have f1 := free3 hn 1
          have f2 := free3 hn 2
          have f3 := free3 hn 3
          clear hn
          go_wp2_with fail
          exact bodyPost_ret (ret_rcv _ _ _ _ _ _ _ rfl (put4 HZ.out _ _ _ _)) rfl ⟨by rw [HR.out, HI.out, HT.out]; rfl, bel4 HB.out (by omega) _ _ _ _⟩
      · by_cases h3 : kind = 3
        · subst h3
          have HR : Hid (cvV k n s o 3 = textE 3 (bufV k n s)) := Lib.hid (by rw [HV0.out]; rfl)
          obtain ⟨⟨x, er⟩, hr⟩ : ∃ r, bufV k n s = r := ⟨_, rfl⟩
          have HI := Lib.hid hr
          clear hr
          go_wp2_with fail
          ((with_reducible refine (rbuffer_any k n o s _ hs hn0).mono ?_))
          rintro e w3 ⟨rfl, hb⟩
          have HA2 := HA
          clear HA
          have HA := Lib.hid (HA2.out.below hb)
          clear hb HA2
          rw [HI.out]
          clear b0 b1 b2 b3
          by_cases he : er = 0
          · subst he
            have HZ := Lib.hid HA.out.2
            have HB := Lib.hid HA.out.1.2
            have hn := HZ.out
            obtain ⟨c0, c1, c2, c3⟩ := cells4 hn
            have f0 := free3 hn 0
            have f1 := free3 hn 1
            have f2 := free3 hn 2
            have f3 := free3 hn 3
            clear hn
            go_wp2_with fail
            exact bodyPost_ret (ret_rcv _ _ _ _ _ _ _ rfl (put4 HZ.out _ _ _ _)) rfl ⟨by rw [HR.out, HI.out]; rfl, bel4 HB.out (by omega) _ _ _ _⟩
          · have he' : (er == 0) = false := by rw [beq_eq_false_iff_ne]; exact he
            have HT : Hid (textE 3 (x, er) = badV er) := Lib.hid (if_neg he)
            clear he
            have HZ := Lib.hid HA.out.2
            have HB := Lib.hid HA.out.1.2
            have hn := HZ.out
            obtain ⟨c0, c1, c2, c3⟩ := cells4 hn
            have f0 := free3 hn 0
            have f1 := free3 hn 1
            have f2 := free3 hn 2
            have f3 := free3 hn 3
            clear hn
            go_wp2_with fail
            exact bodyPost_ret (ret_rcv _ _ _ _ _ _ _ rfl (put4 HZ.out _ _ _ _)) rfl ⟨by rw [HR.out, HI.out, HT.out]; rfl, bel4 HB.out (by omega) _ _ _ _⟩
        · have e1 : (kind == 1) = false := by rw [beq_eq_false_iff_ne]; exact h1
          have e2 : (kind == 2) = false := by rw [beq_eq_false_iff_ne]; exact h2
          have e3 : (kind == 3) = false := by rw [beq_eq_false_iff_ne]; exact h3
          by_cases hk : k = kind
          · subst hk
            have HR : Hid (cvV k n s o k = (cleanV k n s o, 0)) := Lib.hid (by rw [HV0.out, if_neg h1, if_neg h2, if_neg h3, if_pos rfl])
            obtain ⟨d0, d1, d2, d3, hcl⟩ := clean_form k n s o
            have HCL := Lib.hid hcl
            clear hcl h1 h2 h3 HV0
            go_wp2_with fail
            ((with_reducible refine (clean_any k n o s _).mono ?_))
            rintro e w3 ⟨rfl, hb⟩
            have HA2 := HA
            clear HA
            have HA := Lib.hid (HA2.out.below hb)
            clear hb HA2
            rw [HCL.out]
            clear b0 b1 b2 b3
            have HZ := Lib.hid HA.out.2
            have HB := Lib.hid HA.out.1.2
            have hn := HZ.out
            obtain ⟨c0, c1, c2, c3⟩ := cells4 hn
            have f0 := free3 hn 0
            have f1 := free3 hn 1
            have f2 := free3 hn 2
            have f3 := free3 hn 3
            clear hn
            go_wp2_with fail
            exact bodyPost_ret (ret_rcv _ _ _ _ _ _ _ rfl (put4 HZ.out _ _ _ _)) rfl ⟨by rw [HR.out, HCL.out]; rfl, bel4 HB.out (by omega) _ _ _ _⟩
          · have ek : (k == kind) = false := by rw [beq_eq_false_iff_ne]; exact hk
            have HR : Hid (cvV k n s o kind = badV 10) := Lib.hid (by rw [HV0.out, if_neg h1, if_neg h2, if_neg h3, if_neg hk])
            clear hk h1 h2 h3 HV0
            have HZ := Lib.hid HA.out.2
            have HB := Lib.hid HA.out.1.2
            have hn := HZ.out
            obtain ⟨c0, c1, c2, c3⟩ := cells4 hn
            have f0 := free3 hn 0
            have f1 := free3 hn 1
            have f2 := free3 hn 2
            have f3 := free3 hn 3
            clear hn
            go_wp2_with fail
            exact bodyPost_ret (ret_rcv _ _ _ _ _ _ _ rfl (put4 HZ.out _ _ _ _)) rfl ⟨by rw [HR.out]; rfl, bel4 HB.out (by omega) _ _ _ _⟩
end Go.Proofs.YteifmjhkedhomaaDoor
