/- Ntr Re Rf Rh Ri -/
import Derived.Test.YtnicnfchkdmieaaGreatDoorZNsp0
import Derived.Test.YtnicnfchkdmieaaGreatDoorZs
import Derived.Test.YtnicnfchkdmieaaGreatDoorZj
import Derived.Test.YtnicnfchkdmieaaGreatDoorZSj
set_option linter.unusedVariables false
set_option linter.unusedSimpArgs false
namespace Go.Proofs.YtnicnfchkdmieaaGreatDoor
section
open Go.RowKit
attribute [local go_sem] ByteArray.mk_append_mk bs_get bs_cut bs_end
theorem newBox (w : World) (o : Obj) : Below w.heap.size w (w.alloc o) ∧ (w.alloc o).heap[w.heap.size]? = some o :=
 ⟨(Below.refl _ _).alloc (Nat.le_refl _) _, heap_alloc_new _ _⟩
theorem StrsAt.one {w : World} {b : Nat} {x : List UInt8} (h : w.heap[b]? = some (.cells #[strV x] 9 (0, 0))) : StrsAt w (.slice (some ⟨b, 0, none⟩) 1 1) [x] := by
 refine ⟨_, 1, rfl, by simp, ⟨(fun h => by cases h), by simp⟩, fun _ => ⟨b, 0, rfl, fun k hk => ?_⟩⟩
 simp only [List.length_cons, List.length_nil] at hk
 obtain rfl : k = 0 := by omega
 exact (cell_of_row w b 0 _ _ _ h).trans rfl
theorem own_form {w : World} {B e z : Nat} {v : Value} {n : Nat} {xs : List Value} (h : w.ownsRow B e z v n xs) : ∃ (a : Option Addr) (c : Nat), v = .slice a n c := by
 rcases h.2 with ⟨h1, rfl⟩ | ⟨g, cap, cur, h1, _⟩
 ·exact ⟨_, _, h1⟩
 ·exact ⟨_, _, h1⟩
theorem segB_small {x : List UInt8} (h : segB x = true) : x.length ≤ 4 := by
 cases x with
 | nil => simp
 | cons c r =>
   unfold segB at h
   simp only [Bool.and_eq_true, decide_eq_true_eq] at h
   simp only [List.length_cons]
   omega
def SameAt (W : World) (a : Addr) (x : World) : Prop := x.cell? a = W.cell? a
theorem SameAt.some (W : World) (a : Addr) : (∃ x, SameAt W a x) = True := by simp only [eq_iff_iff, iff_true]; exact ⟨W, rfl⟩
theorem SameAt.all (W : World) (a : Addr) (p : Prop) : (∀ x, SameAt W a x → p) = p := by
 apply propext
 exact ⟨fun h => h W rfl, fun h _ _ => h⟩
attribute [local go_sem] SameAt.some SameAt.all
theorem splitD_cut : ∀ (r : List UInt8), ∃ x y, r = x ++ y ∧ (∀ c ∈ x, c ≠ 46) ∧ ((y = [] ∧ splitD r = [x]) ∨ ∃ t, y = 46 :: t ∧ splitD r = x :: splitD t)
 | [] => ⟨[], [], rfl, by simp, .inl ⟨rfl, rfl⟩⟩
 | c :: r => by
   by_cases hc : c = 46
   ·subst hc
    exact ⟨[], 46 :: r, rfl, by simp, .inr ⟨r, rfl, splitD_dot r⟩⟩
   ·obtain ⟨x, y, h1, h2, h3⟩ := splitD_cut r
    refine ⟨c :: x, y, by rw [h1]; rfl, ?_, ?_⟩
    ·intro d hd
     rcases List.mem_cons.1 hd with rfl | hd
     ·exact hc
     ·exact h2 d hd
    ·rcases h3 with ⟨h3, h4⟩ | ⟨t, h3, h4⟩
     ·exact .inl ⟨h3, splitD_other c r hc x [] h4⟩
     ·exact .inr ⟨t, h3, splitD_other c r hc x _ h4⟩
theorem ret_rparse (tmps : Array Value) (w : World) (b : Nat) (c0 c1 c2 : Value) (h2 : tmps.getD 2 undef = .pointer (some ⟨b, 0, none⟩)) (hb : w.heap[b]? = some (.cells #[c0, c1, c2] 144 (0, 0))) :
 (results Tryz.f122 tmps).run Tryz.prog w = .ok (.tuple #[.agg #[c0, c1, c2], tmps.getD 3 undef]) w := by
 obtain ⟨e0, e1, e2⟩ := cells3 hb
 have h2' : tmps[2]?.getD undef = .pointer (some ⟨b, 0, none⟩) := by rw [← h2]; simp
 simp [results]
 go_simp
theorem QAt.bel {w wr : World} {root : Bool} {up : Int} {v : Value} (h : QAt w wr root up v) : Below w.heap.size w wr := h.2.2
theorem QAt.grown {w wr w2 : World} {root : Bool} {up : Int} {v : Value} {row : Option Nat} (h : QAt w wr root up v) (hg : wr.grownBy w2 row) (hr : ∀ g, row = some g → w.heap.size + 2 ≤ g) : QAt w w2 root up v :=
 ⟨blk_grown h.1 hg (fun e => by have := hr _ e.symm; omega), blk_grown h.2.1 hg (fun e => by have := hr _ e.symm; omega), h.2.2.grown hg h.2.2.size (fun k e => by have := hr k e; omega)⟩
theorem QAt.lt {w wr : World} {root : Bool} {up : Int} {v : Value} (h : QAt w wr root up v) : w.heap.size + 2 ≤ wr.heap.size := lt_of_block h.2.1
theorem byte_eqN (c : UInt8) (d : UInt8) : ((c.toNat : Int) == (d.toNat : Int)) = (d == c) := by
 rw [Bool.eq_iff_iff, beq_iff_eq, beq_iff_eq]
 constructor
 ·intro h; exact (UInt8.toNat_inj.1 (by omega)).symm
 ·rintro rfl; rfl
theorem hasPre_consN (c d : UInt8) (t : List UInt8) : Lib.hasPrefix (c :: t) [d] = (d == c) := by simp [Lib.hasPrefix, List.isPrefixOf]
theorem validB_bad {root : Bool} {up : Int} {l : List (List UInt8)} {x : List UInt8} (hx : x ∈ l) (h : segB x = false) : validB root up l = false := by
 cases hv : validB root up l
 ·rfl
 ·rw [validB_segs hv x hx] at h; cases h
def SegJ (s : List UInt8) (st i : Nat) (dn : List (List UInt8)) : Prop :=
 (∀ x ∈ dn, segB x = true) ∧ 2 * dn.length ≤ i ∧ st ≤ i ∧ i ≤ s.length + 1 ∧ ((i < s.length ∧ splitD (parRest s) = dn ++ splitD (s.drop i) ∧ (st < i → s[i - 1]? = some 46)) ∨ (s.length ≤ i ∧ parSegs s = dn))
set_option maxRecDepth 100000 in
set_option maxHeartbeats 4000000 in
theorem rparse_any (s : List UInt8) (w : World) (hs : s.length ≤ 1048576) :
 Calls Tryz.prog 122 #[.string ⟨s.toArray⟩] w (parPost w s) := by
 have HQ := Lib.hid (QAt.start w)
 obtain ⟨root, hroot⟩ : ∃ b, Hid (parRoot s = b) := ⟨_, Lib.hid rfl⟩
 obtain ⟨N, hN⟩ : ∃ b, Hid (parUp s = b) := ⟨_, Lib.hid rfl⟩
 obtain ⟨R, hR⟩ : ∃ b, Hid (parRest s = b) := ⟨_, Lib.hid rfl⟩
 obtain ⟨bs, hbs⟩ : ∃ b : Nat, Hid ((if root = true then 1 else 0) = b) := ⟨_, Lib.hid rfl⟩
 have hbsl : bs ≤ s.length := by
  rw [← hbs.out]
  split
  ·next h => 
   have := hroot.out
   rw [h] at this
   unfold parRoot at this
   cases s with
   | nil => cases this
   | cons => simp
  ·omega
 have HJ : Hid (CarJ root N R 0 (s.drop bs)) := Lib.hid (by
  rw [← hN.out, ← hR.out, ← hbs.out, ← hroot.out]
  refine ⟨fun h => ?_, fun h => ?_⟩
  ·refine ⟨by unfold parUp; rw [if_pos h], ?_⟩
   unfold parRest; rw [if_pos h, if_pos h]
  ·have e1 : parUp s = (s.takeWhile (· == 94)).length := by unfold parUp; rw [h]; rfl
   have e2 : parRest s = s.dropWhile (· == 94) := by unfold parRest; rw [h]; rfl
   rw [e1, e2, if_neg (by rw [h]; decide), List.drop_zero]
   exact ⟨by omega, rfl⟩)
 go_enter Tryz.func122, Tryz.ntmps122
 go_upto_region 3 with fail
 obtain ⟨w0, hw0⟩ : ∃ x, ((w.alloc (.cells #[.bool false, .int .i64 0, .slice none 0 0] 144)).alloc (.cells #[.bool false, .int .i64 0, .slice none 0 0] 144)) = x := ⟨_, rfl⟩
 rw [hw0] at HQ ⊢
 clear hw0
 go_cut [15] (fun z wx => z = .bool root ∧ w0 = wx)
 case first =>
  cases s with
  | nil =>
    have hr0 : root = false := hroot.out.symm
    subst hr0
    go_wp2_with fail
    go_meet
    exact ⟨rfl, rfl⟩
  | cons c t =>
    have hcc : ((c.toNat : Int) == 92) = root := by
     rw [← hroot.out, show (92 : Int) = ((92 : UInt8).toNat : Int) from rfl, byte_eqN]
     exact (hasPre_consN c 92 t).symm
    go_wp2_with fail
    go_meet
    exact ⟨rfl, rfl⟩
 case rest =>
  obtain ⟨rfl, rfl⟩ := hcut
  obtain ⟨w1, rfl⟩ : ∃ x : World, x = w0 := ⟨_, rfl⟩
  go_upto_if 15 with fail
  go_cut [5] (fun z wx => z = .int .i64 bs ∧ Hid (QAt w wx root 0 (.slice none 0 0)))
  case first =>
   have hn := HQ.out.2.1
   obtain ⟨c0, c1, c2⟩ := cells3 hn
   have f0 := free3 hn 0
   clear hn
   have HQ1 := Lib.hid (HQ.out.root true)
   cases root
   ·have hb0 : bs = 0 := hbs.out.symm
    subst hb0
    go_wp2_with fail
    go_meet
    exact ⟨rfl, HQ⟩
   ·have hb0 : bs = 1 := hbs.out.symm
    subst hb0
    go_wp2_with fail
    go_meet
    exact ⟨rfl, HQ1⟩
  case rest =>
   obtain ⟨rfl, HQ1⟩ := hcut
   obtain ⟨w2, rfl⟩ : ∃ x : World, x = wc := ⟨_, rfl⟩
   clear HQ
   go_wp2_with fail
   go_loopw [5] (fun z wr => ∃ k : Nat, z = .int .i64 (bs + k : Nat) ∧ bs + k ≤ s.length ∧ Hid (CarJ root N R k (s.drop (bs + k))) ∧ Hid (QAt w wr root k (.slice none 0 0))) (fun z _ => s.length - (intOf z).toNat)
   case atStart => exact ⟨0, by simp, by omega, by simpa using HJ, by simpa using HQ1⟩
   case round =>
    clear HQ1 HJ
    obtain ⟨k, rfl, hk, HJ, HQ⟩ := hrel
    obtain ⟨w3, rfl⟩ : ∃ x : World, x = wr := ⟨_, rfl⟩
    obtain ⟨i, hi⟩ : ∃ i, bs + k = i := ⟨_, rfl⟩
    rw [hi] at HJ hk ⊢
    have hn := HQ.out.2.1
    obtain ⟨c0, c1, c2⟩ := cells3 hn
    have f1 := free3 hn 1
    clear hn
    go_upto_region 5 with fail
    go_cut [31] (fun z wx => z = .bool (!root && Lib.hasPrefix (s.drop i) [94]) ∧ w3 = wx)
    case first =>
     cases root
     ·by_cases hlt : i < s.length
      ·have hcc : ((s[i].toNat : Int) == 94) = Lib.hasPrefix (s.drop i) [94] := by
        rw [List.drop_eq_getElem_cons hlt, show (94 : Int) = ((94 : UInt8).toNat : Int) from rfl, byte_eqN, hasPre_consN]
       go_wp2_with fail
       go_meet
       exact ⟨rfl, rfl⟩
      ·have hdn : s.drop i = [] := List.drop_eq_nil_of_le (by omega)
       have hdn2 : Hid (Lib.hasPrefix (s.drop i) [94] = false) := Lib.hid (by rw [hdn] <;> rfl)
       clear hdn
       go_wp2_with fail
       go_meet
       exact ⟨by rw [hdn2.out]; rfl, rfl⟩
     ·go_wp2_with fail
      go_meet
      exact ⟨rfl, rfl⟩
    case rest =>
     obtain ⟨rfl, rfl⟩ := hcut
     cases hb : (!root && Lib.hasPrefix (s.drop i) [94])
     ·obtain ⟨rfl, rfl⟩ := HJ.out.last hb
      clear hb HJ c0 c1 c2 f1
      obtain ⟨w4, rfl⟩ : ∃ x : World, x = w3 := ⟨_, rfl⟩
      have HS0 : Hid (SegJ s i i []) := Lib.hid (by
       refine ⟨by simp, by simp, Nat.le_refl _, by omega, ?_⟩
       by_cases hlt : i < s.length
       ·exact .inl ⟨hlt, by rw [hR.out]; rfl, fun h => absurd h (by omega)⟩
       ·refine .inr ⟨by omega, ?_⟩
        unfold parSegs
        rw [hR.out, if_pos (List.drop_eq_nil_of_le (by omega))])
      clear hk
      go_wp2_with fail
      go_loopw [5] (fun z wr => ∃ (n : Nat) (dn : List (List UInt8)) (a : Option Addr) (c : Nat), z = .int .i64 n ∧ Hid (SegJ s i n dn) ∧ Hid (QAt w wr root k (.slice a dn.length c)) ∧ Hid (wr.ownsRow (w.heap.size + 2) 9 1 (.slice a dn.length c) dn.length (dn.map strV))) (fun z _ => s.length + 1 - (intOf z).toNat)
      case atStart => exact ⟨i, [], none, 0, rfl, HS0, HQ, Lib.hid (own_nil _ _)⟩
      case round =>
       clear HS0 HQ
       obtain ⟨n, dn, a, c, rfl, HS, HQ, HO⟩ := hrel
       obtain ⟨w5, rfl⟩ : ∃ x : World, x = wr := ⟨_, rfl⟩
       by_cases hlt : n < s.length
       ·obtain ⟨j1, j2, j3, j4, j5⟩ := HS.out
        have j6 : splitD (parRest s) = dn ++ splitD (s.drop n) ∧ (i < n → s[n - 1]? = some 46) := by
         rcases j5 with ⟨_, h⟩ | ⟨h, _⟩
         ·exact h
         ·omega
        obtain ⟨j7, j8⟩ := j6
        have hne : parRest s ≠ [] := by
         intro e
         have h1 := j7
         rw [e] at h1
         have h2 := congrArg List.length h1
         rw [List.length_append, splitD_length (s.drop n)] at h2
         have hd0 : dn = [] := List.eq_nil_of_length_eq_zero (by simp [splitD] at h2; omega)
         rw [hd0] at h1
         have h3 := hR.out
         rw [e] at h3
         have h4 := congrArg List.length h3
         simp at h4
         omega
        have HNE := Lib.hid hne
        have HSPL := Lib.hid j7
        have HSP : Hid (parSegs s = dn ++ splitD (s.drop n)) := Lib.hid (by unfold parSegs; rw [if_neg hne, j7])
        obtain ⟨x, y, e1, e2, e3⟩ := splitD_cut (s.drop n)
        have hlen : n + x.length + y.length = s.length := by
         have := congrArg List.length e1
         simp at this
         omega
        have HXC : Hid (∀ j (hj : j < x.length), ∃ h : n + j < s.length, s[n + j] = x[j] ∧ x[j] ≠ 46) := Lib.hid (by
         intro j hj
         refine ⟨by omega, ?_, e2 _ (List.getElem_mem hj)⟩
         have h1 : (s.drop n)[j]? = some x[j] := by rw [e1, List.getElem?_append_left hj, List.getElem?_eq_getElem hj]
         rw [List.getElem?_drop, List.getElem?_eq_getElem (by omega)] at h1
         exact Option.some.inj h1)
        have HCUT : Hid (List.take x.length (List.drop n s) = x) := Lib.hid (by rw [e1]; simp)
        have HJ1 := Lib.hid j1
        have HJ8 := Lib.hid j8
        have HE3 : Hid (y = [] ∧ splitD (s.drop n) = [x] ∨ ∃ t, y = 46 :: t ∧ splitD (s.drop n) = x :: splitD t) := Lib.hid e3
        have HY : Hid (List.drop (n + x.length) s = y) := Lib.hid (by rw [← List.drop_drop, e1]; simp)
        clear j1 j5 j7 j8 e1 e2 e3 hne HS
        go_upto_block 4 with fail
        go_cut [7] (fun z wx => z = .int .i64 (n + x.length : Nat) ∧ w5 = wx)
        case first =>
         go_wp2_with fail
         go_loopw [7] (fun z wr => ∃ j : Nat, z = .int .i64 (n + j : Nat) ∧ j ≤ x.length ∧ w5 = wr) (fun z _ => n + x.length - (intOf z).toNat)
         case atStart => exact ⟨0, by simp, by omega, rfl⟩
         case round =>
          obtain ⟨j, rfl, hj, rfl⟩ := hrel
          by_cases hj2 : j < x.length
          ·obtain ⟨q0, q1, q2⟩ := HXC.out j hj2
           have hcc : ((s[n + j].toNat : Int) != 46) = true := by
            rw [q1, bne, show (46 : Int) = ((46 : UInt8).toNat : Int) from rfl, byte_eqN]
            simpa using fun e => q2 e.symm
           clear q1 q2
           go_wp2_with fail
           go_roundw
           case rel => exact ⟨j + 1, by go_num, by omega, by trivial⟩
           case measure => simp [intOf]; omega
          ·obtain rfl : j = x.length := by omega
           rcases HE3.out with ⟨rfl, _⟩ | ⟨t, rfl, _⟩
           ·simp at hlen
            go_wp2_with fail
            go_meet
            exact ⟨by rw [hlen], rfl⟩
           ·have hq : n + x.length < s.length := by simp at hlen; omega
            have hq2 : s[n + x.length] = 46 := by
             have h1 := HY.out
             rw [List.drop_eq_getElem_cons hq] at h1
             injection h1
            have hcc : ((s[n + x.length].toNat : Int) != 46) = false := by rw [hq2]; rfl
            clear hq2
            go_wp2_with fail
            go_meet
            exact ⟨rfl, rfl⟩
        case rest =>
         obtain ⟨rfl, rfl⟩ := hcut
         obtain ⟨w6, rfl⟩ : ∃ x : World, x = w5 := ⟨_, rfl⟩
         obtain ⟨K, hK⟩ : ∃ K, n + x.length = K := ⟨_, rfl⟩
         rw [hK]
         have hxl : K - n = x.length := by omega
         obtain ⟨b, HB⟩ : ∃ b, Hid (segB x = b) := ⟨_, Lib.hid rfl⟩
         have HXL : Hid (x.length ≤ 9223372036854775000) := Lib.hid (by omega)
         go_upto_region 14 with fail
         go_cut [82] (fun z wx => z = .bool (!b || decide (K + 1 = s.length)) ∧ w6 = wx)
         case first =>
          have HSEG := Lib.hid (segmentB_is x b HB w6 HXL.out)
          by_cases hin : i < n
          ·have hq0 : n - 1 < s.length := by omega
           have hq1 : s[n - 1] = 46 := by
            have := HJ8.out hin
            rw [List.getElem?_eq_getElem hq0] at this
            exact Option.some.inj this
           have hcc : ((s[n - 1].toNat : Int) != 46) = false := by rw [hq1]; rfl
           have hn1 : ((n : Int) - 1).toNat = n - 1 := by omega
           clear hq1
           go_wp2_with fail
           rw [HCUT.out]
           ((with_reducible refine HSEG.out.mono ?_))
           rintro e w7 ⟨rfl, rfl⟩
           cases b
           ·go_wp2_with fail
            go_meet
            exact ⟨rfl, rfl⟩
           ·by_cases hkl : K + 1 = s.length
            ·have hkb : ((K : Int) + 1 == (s.length : Int)) = true := by rw [beq_iff_eq]; omega
             go_wp2_with fail
             go_meet
             exact ⟨by rw [decide_eq_true hkl]; rfl, rfl⟩
            ·have hkb : ((K : Int) + 1 == (s.length : Int)) = false := by rw [beq_eq_false_iff_ne]; omega
             go_wp2_with fail
             go_meet
             exact ⟨by rw [decide_eq_false hkl]; rfl, rfl⟩
          ·go_wp2_with fail
           rw [HCUT.out]
           ((with_reducible refine HSEG.out.mono ?_))
           rintro e w7 ⟨rfl, rfl⟩
           cases b
           ·go_wp2_with fail
            go_meet
            exact ⟨rfl, rfl⟩
           ·by_cases hkl : K + 1 = s.length
            ·have hkb : ((K : Int) + 1 == (s.length : Int)) = true := by rw [beq_iff_eq]; omega
             go_wp2_with fail
             go_meet
             exact ⟨by rw [decide_eq_true hkl]; rfl, rfl⟩
            ·have hkb : ((K : Int) + 1 == (s.length : Int)) = false := by rw [beq_eq_false_iff_ne]; omega
             go_wp2_with fail
             go_meet
             exact ⟨by rw [decide_eq_false hkl]; rfl, rfl⟩
         case rest =>
          obtain ⟨rfl, rfl⟩ := hcut
          obtain ⟨w7, rfl⟩ : ∃ x : World, x = w6 := ⟨_, rfl⟩
          cases hbad : (!b || decide (K + 1 = s.length))
          ·have hb1 : b = true ∧ K + 1 ≠ s.length := by simpa using hbad
           obtain ⟨rfl, hK1⟩ := hb1
           clear hbad
           have hx1 : 1 ≤ x.length := by
            by_cases h0 : x.length < 1
            ·have := HB.out
             rw [segB_len x (.inl h0)] at this
             cases this
            ·omega
           have HS2 : Hid (SegJ s i (K + 1) (dn ++ [x])) := Lib.hid (by
            refine ⟨?_, by simp; omega, by omega, by omega, ?_⟩
            ·intro z hz
             rcases List.mem_append.1 hz with hz | hz
             ·exact HJ1.out z hz
             ·rw [List.mem_singleton.1 hz]; exact HB.out
            ·rcases HE3.out with ⟨h1, h2⟩ | ⟨t, h1, h2⟩
             ·refine .inr ⟨by rw [h1] at hlen; simp at hlen; omega, ?_⟩
              rw [HSP.out, h2]
             ·have hlt3 : K + 1 < s.length := by rw [h1] at hlen; simp at hlen; omega
              have hdr : s.drop K = 46 :: t := by rw [← hK, HY.out, h1]
              refine .inl ⟨hlt3, ?_, fun _ => ?_⟩
              ·have : s.drop (K + 1) = t := by rw [← List.drop_drop, hdr]; rfl
               rw [HSPL.out, h2, this]
               simp
              ·rw [show K + 1 - 1 = K from rfl]
               have hlt4 : K < s.length := by omega
               rw [List.drop_eq_getElem_cons hlt4] at hdr
               injection hdr with h5 _
               rw [List.getElem?_eq_getElem hlt4, h5])
           have HCUT2 : Hid (List.take (K - n) (List.drop n s) = x) := Lib.hid (by rw [hxl]; exact HCUT.out)
           go_upto_region 16 with fail
           obtain ⟨d0, d1, d2⟩ := cells3 HQ.out.2.1
           have hS0 : ∀ z, SameAt w7 ⟨w.heap.size + 1, 2, none⟩ z → z.cell? ⟨w.heap.size + 1, 2, none⟩ = some (.slice a dn.length c) := fun z hz => hz.trans d2
           refine wp_region_plan (SameAt w7 ⟨w.heap.size + 1, 2, none⟩) 7 [.reads [0, 1, 2, 3, 4, 5], .act 6, .act 7, .act 8, .act 9] (by kernel_rfl) (by kernel_rfl) (by kernel_rfl) (by kernel_rfl) (by kernel_rfl) (fun _ _ d _ _ h => by cases d <;> exact h) rfl ?_
           refine wpPlan_reads ?_
           simp only [pickOps, List.drop_succ_cons, List.drop_zero, List.take_succ_cons, List.take_zero, List.cons_append, List.nil_append]
           repeat (go_big_quiet_step (first | (intro hb; rw [hS0 _ hb]; exact ⟨rfl, rfl⟩)))
           refine wpQuiet_nil ?_
           rw [HCUT.out]
           have HZ : Hid (w.heap.size + 2 ≤ w7.heap.size) := Lib.hid HQ.out.lt
           obtain ⟨k1, k2⟩ := newBox w7.drew (.cells #[.string ⟨x.toArray⟩] 9)
           have HQ8 := Lib.hid ((HQ.out.below (Grows.self w7)).below k1)
           have HO8 := Lib.hid (own_below (own_below HO.out (Grows.self w7)) k1)
           have H1 := Lib.hid (StrsAt.one (x := x) k2)
           have HZ8 : Hid (w.heap.size + 2 ≤ (w7.drew.alloc (.cells #[.string ⟨x.toArray⟩] 9)).heap.size) := Lib.hid (Nat.le_trans HZ.out k1.size)
           clear k1 k2 HQ HO
           refine wpPlan_act rfl ?_
           simp only [pickOps, List.drop_succ_cons, List.drop_zero, List.take_succ_cons, List.take_zero, List.cons_append, List.nil_append]
           go_wp2_with fail
           refine ⟨fun _ => ?_, ?_⟩
           ·exact (cells3 HQ8.out.2.1).2.2.trans d2.symm
           refine wpPlan_act rfl ?_
           simp only [pickOps, List.drop_succ_cons, List.drop_zero, List.take_succ_cons, List.take_zero, List.cons_append, List.nil_append]
           go_wp2_with (at_builtin; refine wpList_append_strs rfl _ _ rfl (w.heap.size + 2) _ dn rfl HO8.out (.slice (some ⟨w7.drew.heap.size, 0, none⟩) 1 1) [x] rfl H1.out (by simp; omega) HZ8.out ?_; intro v9 w9 ho hg; obtain ⟨a9, c9, rfl⟩ := own_form ho; have HO9 := Lib.hid ho; have HQ9 := Lib.hid (HQ8.out.grown hg (fun g h => own_row HO8.out h)); clear ho hg HQ8 HO8 H1 HZ8)
           refine ⟨fun h => absurd h (by decide), ?_⟩
           refine wpPlan_act rfl ?_
           simp only [pickOps, List.drop_succ_cons, List.drop_zero, List.take_succ_cons, List.take_zero, List.cons_append, List.nil_append]
           go_wp2_with fail
           refine ⟨fun h => absurd h (by decide), ?_⟩
           clear hS0 d0 d1 d2
           obtain ⟨d0, d1, d2⟩ := cells3 HQ9.out.2.1
           have g2 := free3 HQ9.out.2.1 2
           have HQ10 := Lib.hid (HQ9.out.segs (.slice a9 (dn ++ [x]).length c9))
           have HO10 := Lib.hid (own_setCell HO9.out ⟨w.heap.size + 1, 2, none⟩ (.slice a9 (dn ++ [x]).length c9) (by show w.heap.size + 1 < w.heap.size + 2; omega))
           clear HO9
           obtain ⟨D2, hD2⟩ : ∃ D, dn ++ [x] = D := ⟨_, rfl⟩
           have hD2l : D2.length = dn.length + 1 := by rw [← hD2]; simp
           rw [hD2] at HQ10 HO10 HS2
           rw [hD2l] at HQ10 HO10
           refine wpPlan_act rfl ?_
           simp only [pickOps, List.drop_succ_cons, List.drop_zero, List.take_succ_cons, List.take_zero, List.cons_append, List.nil_append]
           go_wp2_with fail
           refine ⟨fun h => absurd h (by decide), wpPlan_nil ?_⟩
           clear d0 d1 d2 g2 HQ9
           generalize (w9.setCell ⟨w.heap.size + 1, 2, none⟩ (.slice a9 (dn.length + 1) c9)) = w10 at *
           go_wp2_with fail
           go_roundw
           case rel => exact ⟨K + 1, D2, a9, c9, by go_num, HS2, by rw [hD2l]; exact HQ10, by rw [hD2l]; exact HO10⟩
           case measure => simp [intOf]; omega
          ·have HBAD : Hid (parOk s = false) := Lib.hid (by
            unfold parOk
            rw [HSP.out]
            have hbb : b = false ∨ K + 1 = s.length := by simpa using hbad
            rcases HE3.out with ⟨h1, h2⟩ | ⟨t, h1, h2⟩
            ·rw [h2]
             rcases hbb with rfl | hK1
             ·exact validB_bad (x := x) (by simp) HB.out
             ·rw [h1] at hlen; simp at hlen; omega
            ·rw [h2]
             rcases hbb with rfl | hK1
             ·exact validB_bad (x := x) (by simp) HB.out
             ·obtain rfl : t = [] := List.eq_nil_of_length_eq_zero (by rw [h1] at hlen; simp at hlen; omega)
              exact validB_bad (x := []) (by simp [splitD]) rfl)
           clear hbad
           obtain ⟨e0, e1, e2⟩ := cells3 HQ.out.1
           have i0 := free3 HQ.out.1 0
           have i1 := free3 HQ.out.1 1
           have i2 := free3 HQ.out.1 2
           go_wp2_with fail
           exact bodyPost_ret (ret_rparse _ _ _ _ _ _ rfl (put3 HQ.out.1 _ _ _)) rfl (parPost_no HBAD.out (bel3 HQ.out.2.2 (Nat.le_refl _) _ _ _))
       ·obtain ⟨j1, j2, j3, j4, j5⟩ := HS.out
        have hsg : parSegs s = dn := by
         rcases j5 with ⟨h, _⟩ | ⟨_, h⟩
         ·exact absurd h hlt
         ·exact h
        have HX : Hid (∀ x ∈ dn, x.length ≤ 9223372036854775000) := Lib.hid (fun x hx => Nat.le_trans (segB_small (j1 x hx)) (by omega))
        have HSG := Lib.hid hsg
        have HOK : Hid (parOk s = validB root k dn) := Lib.hid (by unfold parOk; rw [hsg, hroot.out, hN.out])
        have HV := Lib.hid (validPath_any (.agg #[.bool root, .int .i64 k, .slice a dn.length c]) root k dn w5 (PathV.mk (StrsAt.of_own HO.out (by omega))) HX.out)
        have HZ : Hid (w.heap.size + 2 ≤ w5.heap.size) := Lib.hid HQ.out.lt
        clear j1 j3 j5 hsg
        obtain ⟨d0, d1, d2⟩ := cells3 HQ.out.2.1
        cases hv : validB root k dn
        all_goals
         rw [hv] at HOK
         rw [hv] at HV
         clear hv
         go_wp2_with fail
         ((with_reducible refine HV.out.mono ?_))
         rintro e w6 ⟨rfl, hb⟩
         have HQ6 := Lib.hid (HQ.out.below hb)
         have HO6 := Lib.hid (own_below HO.out hb)
         clear hb HV HQ HO d0 d1 d2
         obtain ⟨d0, d1, d2⟩ := cells3 HQ6.out.2.1
         obtain ⟨e0, e1, e2⟩ := cells3 HQ6.out.1
         have i0 := free3 HQ6.out.1 0
         have i1 := free3 HQ6.out.1 1
         have i2 := free3 HQ6.out.1 2
         go_wp2_with fail
        ·exact bodyPost_ret (ret_rparse _ _ _ _ _ _ rfl (put3 HQ6.out.1 _ _ _)) rfl (parPost_no HOK.out (bel3 HQ6.out.2.2 (Nat.le_refl _) _ _ _))
        ·refine bodyPost_ret (ret_rparse _ _ _ _ _ _ rfl (put3 HQ6.out.1 _ _ _)) rfl ?_
         have := parPost_yes (v := .slice a dn.length c) HOK.out (by rw [HSG.out]; exact own_base (own_set3 HO6.out w.heap.size (.bool root) (.int .i64 k) (.slice a dn.length c) (by omega)) (by omega)) (bel3 HQ6.out.2.2 (Nat.le_refl _) (.bool root) (.int .i64 k) (.slice a dn.length c))
         rw [hroot.out, hN.out] at this
         exact this
     ·obtain rfl : root = false := by cases root with
       | false => rfl
       | true => cases hb
      obtain ⟨t, ht⟩ := hasPre_caret (s.drop i) (by simpa using hb)
      have hlt : i < s.length := by
       have := congrArg List.length ht
       simp at this
       omega
      have HJ3 : Hid (CarJ false N R (k + 1) (s.drop (i + 1))) := Lib.hid (by
       have h1 := HJ.out
       rw [ht] at h1
       have h2 := h1.step
       have h3 : s.drop (i + 1) = t := by
        have : s.drop (i + 1) = (s.drop i).drop 1 := by rw [List.drop_drop]
        rw [this, ht]; rfl
       rw [h3]
       exact h2)
      have HQ3 := Lib.hid (HQ.out.up ((k : Int) + 1))
      clear hb HJ HQ ht
      go_wp2_with fail
      go_roundw
      case rel => exact ⟨k + 1, by rw [← hi]; go_num, by omega, by rw [← Nat.add_assoc, hi]; exact HJ3, Lib.hid (by have := HQ3.out; exact_mod_cast this)⟩
      case measure => simp [intOf]; omega
end
section
open Go.RowKit
attribute [local go_sem] ByteArray.mk_append_mk bs_get bs_cut bs_end
theorem splitD_uno {s x : List UInt8} (h : splitD s = [x]) : x = s := by
 obtain ⟨a, y, h1, h2, h3⟩ := splitD_cut s
 rcases h3 with ⟨rfl, h4⟩ | ⟨t, rfl, h4⟩
 ·rw [h] at h4
  injection h4 with h4 _
  rw [h1, h4, List.append_nil]
 ·rw [h] at h4
  injection h4 with _ h5
  exact absurd h5.symm (splitD_ne t)
theorem splitD_nodot {s : List UInt8} (h : ∀ c ∈ s, c ≠ 46) : splitD s = [s] := by
 obtain ⟨a, y, h1, h2, h3⟩ := splitD_cut s
 rcases h3 with ⟨rfl, h4⟩ | ⟨t, rfl, h4⟩
 ·rw [h4, h1, List.append_nil]
 ·exact absurd rfl (h 46 (by rw [h1]; simp))
theorem idB_no {c : UInt8} (h : idB c = true) : c ≠ 46 ∧ c ≠ 92 ∧ c ≠ 94 := by
 refine ⟨?_, ?_, ?_⟩ <;> (rintro rfl; revert h; decide)
theorem singB_seg {s : List UInt8} (h : parOk s = true) : singB s = segB s := by
 have hv := h
 unfold parOk at hv
 have hsg := validB_segs hv
 rw [Bool.eq_iff_iff]
 constructor
 ·intro hs
  unfold singB at hs
  simp only [Bool.and_eq_true, Bool.not_eq_true', decide_eq_true_eq] at hs
  obtain ⟨⟨h1, h2⟩, h3⟩ := hs
  have hr : parRest s = s := by
   unfold parUp at h2
   rw [h1] at h2
   unfold parRest
   rw [h1]
   simp only [Bool.false_eq_true, if_false] at h2 ⊢
   cases s with
   | nil => rfl
   | cons c q =>
     by_cases hc : (c == 94) = true
     ·rw [List.takeWhile_cons, if_pos hc] at h2; simp at h2
     ·rw [List.dropWhile_cons, if_neg hc]
  unfold parSegs at h3 hsg
  rw [hr] at h3 hsg
  by_cases h0 : s = []
  ·rw [if_pos h0] at h3; simp at h3
  ·rw [if_neg h0] at h3 hsg
   obtain ⟨x, hx⟩ := List.length_eq_one_iff.1 h3
   have := splitD_uno hx
   subst this
   exact hsg x (by rw [hx]; simp)
 ·intro hs
  cases s with
  | nil => cases hs
  | cons c q =>
    have hall : ∀ d ∈ c :: q, idB d = true := by
     unfold segB at hs
     simp only [Bool.and_eq_true] at hs
     exact List.all_eq_true.1 hs.1.2
    have hc := idB_no (hall c (by simp))
    have h92 : parRoot (c :: q) = false := by
     unfold parRoot
     rw [hasPre_cons, beq_eq_false_iff_ne]
     exact fun e => hc.2.1 e.symm
    have h94 : (c == (94 : UInt8)) = false := by rw [beq_eq_false_iff_ne]; exact hc.2.2
    have hu : parUp (c :: q) = 0 := by
     unfold parUp
     rw [h92, List.takeWhile_cons, h94]
     rfl
    have hr : parRest (c :: q) = c :: q := by
     unfold parRest
     rw [h92, List.dropWhile_cons, h94]
     rfl
    unfold singB parSegs
    rw [h92, hu, hr, if_neg (by simp), splitD_nodot (fun d hd => (idB_no (hall d hd)).1)]
    rfl
theorem joinB_splitD : ∀ r : List UInt8, joinB (splitD r) = r
 | [] => by rw [splitD, joinB_one]
 | c :: s => by
   have ih := joinB_splitD s
   by_cases hc : c = 46
   ·subst hc
    rw [splitD_dot]
    cases hs : splitD s with
    | nil => exact absurd hs (splitD_ne s)
    | cons x q => rw [hs] at ih; rw [joinB_cons, ih]; rfl
   ·cases hs : splitD s with
    | nil => exact absurd hs (splitD_ne s)
    | cons x q =>
      rw [hs] at ih
      rw [splitD_other c s hc x q hs]
      cases q with
      | nil => rw [joinB_one] at ih ⊢; rw [ih]
      | cons y z => rw [joinB_cons] at ih ⊢; rw [List.cons_append, ih]
theorem takeWhile_rep : ∀ s : List UInt8, List.replicate (s.takeWhile (· == 94)).length 94 = s.takeWhile (· == 94)
 | [] => rfl
 | c :: s => by
   by_cases hc : c = 94
   ·subst hc
    rw [List.takeWhile_cons, if_pos (show ((94 : UInt8) == 94) = true from rfl), List.length_cons, List.replicate_succ, takeWhile_rep s]
   ·rw [List.takeWhile_cons, if_neg (by simpa using hc)]; rfl
theorem join_rest (r : List UInt8) : joinB (if r = [] then [] else splitD r) = r := by
 by_cases h : r = []
 ·rw [if_pos h, h, joinB_nil]
 ·rw [if_neg h, joinB_splitD]
theorem fmt_par {s : List UInt8} (h : parOk s = true) : fmtV (parRoot s) (parUp s) (parSegs s) = s := by
 unfold fmtV
 rw [if_pos (by exact h)]
 unfold fmtB parSegs
 rw [join_rest]
 cases hr : parRoot s with
 | true =>
   unfold parRest
   rw [hr, if_pos rfl, if_pos rfl]
   cases s with
   | nil => cases hr
   | cons c t =>
     unfold parRoot at hr
     rw [hasPre_cons] at hr
     rw [← beq_iff_eq.1 hr]
     rfl
 | false =>
   unfold parUp parRest
   rw [hr]
   simp only [Bool.false_eq_true, if_false, Int.toNat_natCast]
   rw [takeWhile_rep, List.takeWhile_append_dropWhile]
end
section
open Go.RowKit
attribute [local go_sem] ByteArray.mk_append_mk bs_get bs_cut bs_end
theorem per_110 (op : Int) (w : World) : Calls Tryz.prog 39 #[.int .u8 110, .int .i64 op] w fun e w' => e = .returned (.bool (accB 110 op)) ∧ w = w' := by
 rw [show accB 110 op = (op == 3) from rfl]
 go_enter Tryz.func39, Tryz.ntmps39
 go_wp2_with fail
 all_goals
  go_ret
  exact ⟨by first | (simp [*]; done) | (refine boolOf ?_; rw [Bool.eq_iff_iff]; simp only [Bool.or_eq_true, Bool.and_eq_true, Bool.not_eq_true', Bool.or_eq_false_iff, beq_iff_eq, bne_iff_ne, decide_eq_true_eq, beq_eq_false_iff_ne, ne_eq, Bool.true_eq_false, Bool.false_eq_true, false_and, and_false, true_and, and_true, false_or, or_false, true_or, or_true, iff_true, true_iff, iff_false, false_iff]; omega), rfl⟩
theorem per_115 (op : Int) (w : World) : Calls Tryz.prog 39 #[.int .u8 115, .int .i64 op] w fun e w' => e = .returned (.bool (accB 115 op)) ∧ w = w' := by
 rw [show accB 115 op = (op == 3) from rfl]
 go_enter Tryz.func39, Tryz.ntmps39
 go_wp2_with fail
 all_goals
  go_ret
  exact ⟨by first | (simp [*]; done) | (refine boolOf ?_; rw [Bool.eq_iff_iff]; simp only [Bool.or_eq_true, Bool.and_eq_true, Bool.not_eq_true', Bool.or_eq_false_iff, beq_iff_eq, bne_iff_ne, decide_eq_true_eq, beq_eq_false_iff_ne, ne_eq, Bool.true_eq_false, Bool.false_eq_true, false_and, and_false, true_and, and_true, false_or, or_false, true_or, or_true, iff_true, true_iff, iff_false, false_iff]; omega), rfl⟩
theorem per_105 (op : Int) (w : World) : Calls Tryz.prog 39 #[.int .u8 105, .int .i64 op] w fun e w' => e = .returned (.bool (accB 105 op)) ∧ w = w' := by
 rw [show accB 105 op = (op == 1) from rfl]
 go_enter Tryz.func39, Tryz.ntmps39
 go_wp2_with fail
 all_goals
  go_ret
  exact ⟨by first | (simp [*]; done) | (refine boolOf ?_; rw [Bool.eq_iff_iff]; simp only [Bool.or_eq_true, Bool.and_eq_true, Bool.not_eq_true', Bool.or_eq_false_iff, beq_iff_eq, bne_iff_ne, decide_eq_true_eq, beq_eq_false_iff_ne, ne_eq, Bool.true_eq_false, Bool.false_eq_true, false_and, and_false, true_and, and_true, false_or, or_false, true_or, or_true, iff_true, true_iff, iff_false, false_iff]; omega), rfl⟩
theorem per_73 (op : Int) (w : World) : Calls Tryz.prog 39 #[.int .u8 73, .int .i64 op] w fun e w' => e = .returned (.bool (accB 73 op)) ∧ w = w' := by
 rw [show accB 73 op = (op == 1) from rfl]
 go_enter Tryz.func39, Tryz.ntmps39
 go_wp2_with fail
 all_goals
  go_ret
  exact ⟨by first | (simp [*]; done) | (refine boolOf ?_; rw [Bool.eq_iff_iff]; simp only [Bool.or_eq_true, Bool.and_eq_true, Bool.not_eq_true', Bool.or_eq_false_iff, beq_iff_eq, bne_iff_ne, decide_eq_true_eq, beq_eq_false_iff_ne, ne_eq, Bool.true_eq_false, Bool.false_eq_true, false_and, and_false, true_and, and_true, false_or, or_false, true_or, or_true, iff_true, true_iff, iff_false, false_iff]; omega), rfl⟩
theorem per_100 (op : Int) (w : World) : Calls Tryz.prog 39 #[.int .u8 100, .int .i64 op] w fun e w' => e = .returned (.bool (accB 100 op)) ∧ w = w' := by
 rw [show accB 100 op = (op == 1 || op == 2 || op == 50 || op == 51) from rfl]
 go_enter Tryz.func39, Tryz.ntmps39
 go_wp2_with fail
 all_goals
  go_ret
  exact ⟨by first | (simp [*]; done) | (refine boolOf ?_; rw [Bool.eq_iff_iff]; simp only [Bool.or_eq_true, Bool.and_eq_true, Bool.not_eq_true', Bool.or_eq_false_iff, beq_iff_eq, bne_iff_ne, decide_eq_true_eq, beq_eq_false_iff_ne, ne_eq, Bool.true_eq_false, Bool.false_eq_true, false_and, and_false, true_and, and_true, false_or, or_false, true_or, or_true, iff_true, true_iff, iff_false, false_iff]; omega), rfl⟩
theorem per_80 (op : Int) (w : World) : Calls Tryz.prog 39 #[.int .u8 80, .int .i64 op] w fun e w' => e = .returned (.bool (accB 80 op)) ∧ w = w' := by
 rw [show accB 80 op = ((op == 1 || op == 2 || op == 50 || op == 51) || op == 3) from rfl]
 go_enter Tryz.func39, Tryz.ntmps39
 go_wp2_with fail
 all_goals
  go_ret
  exact ⟨by first | (simp [*]; done) | (refine boolOf ?_; rw [Bool.eq_iff_iff]; simp only [Bool.or_eq_true, Bool.and_eq_true, Bool.not_eq_true', Bool.or_eq_false_iff, beq_iff_eq, bne_iff_ne, decide_eq_true_eq, beq_eq_false_iff_ne, ne_eq, Bool.true_eq_false, Bool.false_eq_true, false_and, and_false, true_and, and_true, false_or, or_false, true_or, or_true, iff_true, true_iff, iff_false, false_iff]; omega), rfl⟩
theorem per_68 (op : Int) (w : World) : Calls Tryz.prog 39 #[.int .u8 68, .int .i64 op] w fun e w' => e = .returned (.bool (accB 68 op)) ∧ w = w' := by
 rw [show accB 68 op = (decide (10 ≤ op) && decide (op ≤ 21) && !(op == 18 || op == 19)) from rfl]
 go_enter Tryz.func39, Tryz.ntmps39
 go_wp2_with fail
 all_goals
  go_ret
  exact ⟨by first | (simp [*]; done) | (refine boolOf ?_; rw [Bool.eq_iff_iff]; simp only [Bool.or_eq_true, Bool.and_eq_true, Bool.not_eq_true', Bool.or_eq_false_iff, beq_iff_eq, bne_iff_ne, decide_eq_true_eq, beq_eq_false_iff_ne, ne_eq, Bool.true_eq_false, Bool.false_eq_true, false_and, and_false, true_and, and_true, false_or, or_false, true_or, or_true, iff_true, true_iff, iff_false, false_iff]; omega), rfl⟩
theorem per_70 (op : Int) (w : World) : Calls Tryz.prog 39 #[.int .u8 70, .int .i64 op] w fun e w' => e = .returned (.bool (accB 70 op)) ∧ w = w' := by
 rw [show accB 70 op = (op == 18 || op == 19) from rfl]
 go_enter Tryz.func39, Tryz.ntmps39
 go_wp2_with fail
 all_goals
  go_ret
  exact ⟨by first | (simp [*]; done) | (refine boolOf ?_; rw [Bool.eq_iff_iff]; simp only [Bool.or_eq_true, Bool.and_eq_true, Bool.not_eq_true', Bool.or_eq_false_iff, beq_iff_eq, bne_iff_ne, decide_eq_true_eq, beq_eq_false_iff_ne, ne_eq, Bool.true_eq_false, Bool.false_eq_true, false_and, and_false, true_and, and_true, false_or, or_false, true_or, or_true, iff_true, true_iff, iff_false, false_iff]; omega), rfl⟩
theorem per_83 (op : Int) (w : World) : Calls Tryz.prog 39 #[.int .u8 83, .int .i64 op] w fun e w' => e = .returned (.bool (accB 83 op)) ∧ w = w' := by
 rw [show accB 83 op = ((decide (30 ≤ op) && decide (op ≤ 42)) || op == 5) from rfl]
 go_enter Tryz.func39, Tryz.ntmps39
 go_wp2_with fail
 all_goals
  go_ret
  exact ⟨by first | (simp [*]; done) | (refine boolOf ?_; rw [Bool.eq_iff_iff]; simp only [Bool.or_eq_true, Bool.and_eq_true, Bool.not_eq_true', Bool.or_eq_false_iff, beq_iff_eq, bne_iff_ne, decide_eq_true_eq, beq_eq_false_iff_ne, ne_eq, Bool.true_eq_false, Bool.false_eq_true, false_and, and_false, true_and, and_true, false_or, or_false, true_or, or_true, iff_true, true_iff, iff_false, false_iff]; omega), rfl⟩
theorem per_116 (op : Int) (w : World) : Calls Tryz.prog 39 #[.int .u8 116, .int .i64 op] w fun e w' => e = .returned (.bool (accB 116 op)) ∧ w = w' := by
 rw [show accB 116 op = (op == 3 || op == 6 || op == 7 || op == 76 || op == 84) from rfl]
 go_enter Tryz.func39, Tryz.ntmps39
 go_wp2_with fail
 all_goals
  go_ret
  exact ⟨by first | (simp [*]; done) | (refine boolOf ?_; rw [Bool.eq_iff_iff]; simp only [Bool.or_eq_true, Bool.and_eq_true, Bool.not_eq_true', Bool.or_eq_false_iff, beq_iff_eq, bne_iff_ne, decide_eq_true_eq, beq_eq_false_iff_ne, ne_eq, Bool.true_eq_false, Bool.false_eq_true, false_and, and_false, true_and, and_true, false_or, or_false, true_or, or_true, iff_true, true_iff, iff_false, false_iff]; omega), rfl⟩
theorem per_101 (op : Int) (w : World) : Calls Tryz.prog 39 #[.int .u8 101, .int .i64 op] w fun e w' => e = .returned (.bool (accB 101 op)) ∧ w = w' := by
 rw [show accB 101 op = (op == 3 || op == 5 || op == 6 || op == 7 || op == 41 || op == 42 || (op == 1 || op == 2 || op == 50 || op == 51) || (decide (60 ≤ op) && decide (op ≤ 88))) from rfl]
 go_enter Tryz.func39, Tryz.ntmps39
 go_wp2_with fail
 all_goals
  go_ret
  exact ⟨by first | (simp [*]; done) | (refine boolOf ?_; rw [Bool.eq_iff_iff]; simp only [Bool.or_eq_true, Bool.and_eq_true, Bool.not_eq_true', Bool.or_eq_false_iff, beq_iff_eq, bne_iff_ne, decide_eq_true_eq, beq_eq_false_iff_ne, ne_eq, Bool.true_eq_false, Bool.false_eq_true, false_and, and_false, true_and, and_true, false_or, or_false, true_or, or_true, iff_true, true_iff, iff_false, false_iff]; omega), rfl⟩
theorem per_none (k : UInt8) (op : Int) (w : World) (h110 : k ≠ 110) (h115 : k ≠ 115) (h105 : k ≠ 105) (h73 : k ≠ 73) (h100 : k ≠ 100) (h80 : k ≠ 80) (h68 : k ≠ 68) (h70 : k ≠ 70) (h83 : k ≠ 83) (h116 : k ≠ 116) (h101 : k ≠ 101) : Calls Tryz.prog 39 #[.int .u8 k.toNat, .int .i64 op] w fun e w' => e = .returned (.bool false) ∧ w = w' := by
 have e110 : ((k.toNat : Int) == 110) = false := (byte_int k 110).trans (beq_eq_false_iff_ne.2 h110)
 have e115 : ((k.toNat : Int) == 115) = false := (byte_int k 115).trans (beq_eq_false_iff_ne.2 h115)
 have e105 : ((k.toNat : Int) == 105) = false := (byte_int k 105).trans (beq_eq_false_iff_ne.2 h105)
 have e73 : ((k.toNat : Int) == 73) = false := (byte_int k 73).trans (beq_eq_false_iff_ne.2 h73)
 have e100 : ((k.toNat : Int) == 100) = false := (byte_int k 100).trans (beq_eq_false_iff_ne.2 h100)
 have e80 : ((k.toNat : Int) == 80) = false := (byte_int k 80).trans (beq_eq_false_iff_ne.2 h80)
 have e68 : ((k.toNat : Int) == 68) = false := (byte_int k 68).trans (beq_eq_false_iff_ne.2 h68)
 have e70 : ((k.toNat : Int) == 70) = false := (byte_int k 70).trans (beq_eq_false_iff_ne.2 h70)
 have e83 : ((k.toNat : Int) == 83) = false := (byte_int k 83).trans (beq_eq_false_iff_ne.2 h83)
 have e116 : ((k.toNat : Int) == 116) = false := (byte_int k 116).trans (beq_eq_false_iff_ne.2 h116)
 have e101 : ((k.toNat : Int) == 101) = false := (byte_int k 101).trans (beq_eq_false_iff_ne.2 h101)
 clear h110 h115 h105 h73 h100 h80 h68 h70 h83 h116 h101
 go_enter Tryz.func39, Tryz.ntmps39
 go_wp2_with fail
 all_goals
  go_ret
  exact ⟨rfl, rfl⟩
theorem per_any (k : UInt8) (op : Int) (w : World) : Calls Tryz.prog 39 #[.int .u8 k.toNat, .int .i64 op] w fun e w' => e = .returned (.bool (accB k op)) ∧ w = w' := by
 by_cases h110 : k = 110
 ·subst h110; exact per_110 op w
 by_cases h115 : k = 115
 ·subst h115; exact per_115 op w
 by_cases h105 : k = 105
 ·subst h105; exact per_105 op w
 by_cases h73 : k = 73
 ·subst h73; exact per_73 op w
 by_cases h100 : k = 100
 ·subst h100; exact per_100 op w
 by_cases h80 : k = 80
 ·subst h80; exact per_80 op w
 by_cases h68 : k = 68
 ·subst h68; exact per_68 op w
 by_cases h70 : k = 70
 ·subst h70; exact per_70 op w
 by_cases h83 : k = 83
 ·subst h83; exact per_83 op w
 by_cases h116 : k = 116
 ·subst h116; exact per_116 op w
 by_cases h101 : k = 101
 ·subst h101; exact per_101 op w
 have e : accB k op = false := by unfold accB; simp only [h110, h115, h105, h73, h100, h80, h68, h70, h83, h116, h101, or_self, if_false]
 rw [e]
 exact per_none k op w h110 h115 h105 h73 h100 h80 h68 h70 h83 h116 h101
theorem per_is (k : UInt8) (op : Int) (b : Bool) (H : Hid (accB k op = b)) (w : World) : Calls Tryz.prog 39 #[.int .u8 k.toNat, .int .i64 op] w fun e w' => e = .returned (.bool b) ∧ w = w' := by
 have := per_any k op w
 rw [H.out] at this
 exact this
theorem rblk_any (k : UInt8) (w : World) : Calls Tryz.prog 62 #[.int .u8 k.toNat] w fun e w' => e = .returned (.bool (blkR k)) ∧ w = w' := by
 have h1 := byte_int k 68
 have h2 := byte_int k 83
 have h3 := byte_int k 70
 have h4 := byte_int k 73
 have h5 := byte_int k 80
 unfold blkR
 rw [← h1, ← h2, ← h3, ← h4, ← h5]
 clear h1 h2 h3 h4 h5
 go_enter Tryz.func62, Tryz.ntmps62
 go_wp2_with fail
 all_goals
  go_ret
  exact ⟨by simp [*], rfl⟩
theorem rblk_is (k : UInt8) (b : Bool) (H : Hid (blkR k = b)) (w : World) : Calls Tryz.prog 62 #[.int .u8 k.toNat] w fun e w' => e = .returned (.bool b) ∧ w = w' := by
 have := rblk_any k w
 rw [H.out] at this
 exact this
theorem rsingle_is (s : List UInt8) (b : Bool) (H : Hid (segB s = b)) (w : World) (hs : s.length ≤ 9223372036854775000) : Calls Tryz.prog 101 #[.string ⟨s.toArray⟩] w fun e w' => e = .returned (.bool b) ∧ w = w' := by
 have HS := Lib.hid (segmentB_is s b H w hs)
 go_enter Tryz.func101, Tryz.ntmps101
 go_wp2_with fail
 ((with_reducible refine HS.out.mono ?_))
 rintro e w1 ⟨rfl, rfl⟩
 go_wp2_with fail
 go_ret
 exact ⟨rfl, rfl⟩
theorem numbered_no (s word : List UInt8) (n : Int) (w : World) (hs : s.length ≤ 1000000) (hw : word.length ≤ 1000000) (h : s.length ≠ word.length + 1) :
 Calls Tryz.prog 142 #[.string ⟨s.toArray⟩, .string ⟨word.toArray⟩, .int .i64 n] w fun e w' => e = .returned (.int .i64 (numV s word n)) ∧ w = w' := by
 rw [numV_short h]
 have hn : ((s.length : Int) == (word.length : Int) + 1) = false := by rw [beq_eq_false_iff_ne]; omega
 go_enter Tryz.func142, Tryz.ntmps142
 go_wp2_with fail
 go_ret
 exact ⟨rfl, rfl⟩
theorem numbered_yes (d word : List UInt8) (c : UInt8) (n : Int) (w : World) (hs : d.length ≤ 1000000) (h : d.length = word.length) :
 Calls Tryz.prog 142 #[.string ⟨(d ++ [c]).toArray⟩, .string ⟨word.toArray⟩, .int .i64 n] w fun e w' => e = .returned (.int .i64 (numV (d ++ [c]) word n)) ∧ w = w' := by
 obtain ⟨X, hX⟩ : ∃ X, Hid (numV (d ++ [c]) word n = X) := ⟨_, Lib.hid rfl⟩
 rw [hX.out]
 rw [numV_end] at hX
 obtain ⟨S, hS⟩ : ∃ S, d ++ [c] = S := ⟨_, rfl⟩
 have hl : S.length = word.length + 1 := by rw [← hS]; simp [h]
 have hg : ∀ h : word.length < S.length, S[word.length] = c := by intro h2; subst hS; simp [h]
 have ht : S.take word.length = d := by rw [← hS, ← h]; simp
 have hle : word.length ≤ S.length := by omega
 have hlt : (word.length : Int) < (S.length : Int) := by omega
 have hlen : ((S.length : Int) == (word.length : Int) + 1) = true := by rw [beq_iff_eq]; omega
 have hwl : word.length ≤ 1000000 := by omega
 obtain ⟨b, hb⟩ : ∃ b, Hid (digitB c = b) := ⟨_, Lib.hid rfl⟩
 have HD := Lib.hid (fun w => digit_is c b hb w)
 rw [hS]
 have hc := c.toNat_lt
 clear hS hl
 by_cases hd : d = word
 ·have hdd : (d == word) = true := by rw [hd]; exact beq_self_eq_true _
  cases b with
  | false =>
    have HX : Hid (X = -1) := Lib.hid (by
     rw [← hX.out]
     have := hb.out
     unfold digitB at this
     rw [decide_eq_false_iff_not] at this
     exact if_neg (fun e => this ⟨e.2.1, e.2.2.1⟩))
    clear hX hd
    go_enter Tryz.func142, Tryz.ntmps142
    go_wp2_with (go_at_call 55; ((with_reducible refine (HD.out _).mono ?_)); rintro e w1 ⟨rfl, rfl⟩)
    go_ret
    rw [HX.out]
    exact ⟨rfl, rfl⟩
  | true =>
    have hb2 := hb.out
    unfold digitB at hb2
    rw [decide_eq_true_eq] at hb2
    have HB2 := Lib.hid hb2
    have HDW := Lib.hid hd
    clear hb2 hd
    go_enter Tryz.func142, Tryz.ntmps142
    go_wp2_with (go_at_call 55; ((with_reducible refine (HD.out _).mono ?_)); rintro e w1 ⟨rfl, rfl⟩)
    all_goals
     go_ret
     rename_i hh
     have hm : ((c.toNat : Int) - 48) % 256 = (c.toNat : Int) - 48 := by
      have h1 := HB2.out.1
      have h2 := HB2.out.2
      omega
     rw [hm] at hh
     refine ⟨?_, rfl⟩
     rw [← hX.out]
     first | exact congrArg (fun z => Ending.returned (Value.int .i64 z)) (hm.trans (if_pos ⟨HDW.out, HB2.out.1, HB2.out.2, hh⟩).symm) | exact congrArg (fun z => Ending.returned (Value.int .i64 z)) (if_neg (fun e => absurd e.2.2.2 (by omega))).symm
 ·have hdd : (d == word) = false := by rw [beq_eq_false_iff_ne]; exact hd
  have HX : Hid (X = -1) := Lib.hid (by rw [← hX.out]; exact if_neg (fun e => hd e.1))
  clear hX hd
  go_enter Tryz.func142, Tryz.ntmps142
  go_wp2_with fail
  go_ret
  rw [HX.out]
  exact ⟨rfl, rfl⟩
theorem numbered_any (s word : List UInt8) (n : Int) (w : World) (hs : s.length ≤ 1000000) (hw : word.length ≤ 1000) :
 Calls Tryz.prog 142 #[.string ⟨s.toArray⟩, .string ⟨word.toArray⟩, .int .i64 n] w fun e w' => e = .returned (.int .i64 (numV s word n)) ∧ w = w' := by
 by_cases h : s.length = word.length + 1
 ·have hne : s ≠ [] := by rintro rfl; simp at h
  have e := (List.dropLast_concat_getLast hne).symm
  have hl : s.dropLast.length = word.length := by rw [List.length_dropLast]; omega
  rw [e]
  exact numbered_yes s.dropLast word _ n w (by omega) hl
 ·exact numbered_no s word n w hs (by omega) h
end
section
open Go.RowKit
attribute [local go_sem] ByteArray.mk_append_mk bs_get bs_cut bs_end
def kindsV (op kids : Int) : List UInt8 × Bool :=
 if op = 1 ∨ op = 2 ∨ op = 3 ∨ op = 6 ∨ op = 7 then ([], kids == 0)
 else if op = 5 then (if kids < 0 ∨ 7 < kids then ([], false) else (List.replicate kids.toNat 101, true))
 else if op = 31 ∧ kids = 3 then ([101, 83, 83], true)
 else if op = 33 ∧ kids = 1 then ([101], true)
 else ((rowR (rowF op)).2.2, (rowF op).isSome && (((rowR (rowF op)).2.2.length : Int) == kids))
def inR (op : Int) : Bool := op == 1 || op == 2 || op == 3 || op == 5 || op == 6 || op == 7 || inTab op
theorem accB_inR {k : UInt8} {op : Int} (h : accB k op = true) : inR op = true := by
 unfold accB exprB elemB dataB at h
 unfold inR inTab
 repeat' split at h
 all_goals
  simp only [Bool.or_eq_true, Bool.and_eq_true, Bool.not_eq_true', Bool.or_eq_false_iff, decide_eq_true_eq, beq_iff_eq, beq_eq_false_iff_ne, Bool.false_eq_true] at h ⊢
  try omega
theorem kidsK_kinds (n : Nd) (h : inR n.kind = true) : kidsK n = if (kindsV n.kind n.pos).2 = true then some (kindsV n.kind n.pos).1 else none := by
 unfold kidsK kindsV
 by_cases h5 : n.kind = 5
 ·rw [h5]
  simp only [show ((5 : Int) = 1 ∨ (5 : Int) = 2 ∨ (5 : Int) = 3 ∨ (5 : Int) = 6 ∨ (5 : Int) = 7) = False by decide, if_true, if_false]
  by_cases hk : 0 ≤ n.pos ∧ n.pos ≤ 7
  ·rw [if_pos hk, if_neg (show ¬ (n.pos < 0 ∨ 7 < n.pos) by omega)]; rfl
  ·rw [if_neg hk, if_pos (show n.pos < 0 ∨ 7 < n.pos by omega)]; rfl
 rw [if_neg h5]
 by_cases hL : n.kind = 1 ∨ n.kind = 2 ∨ n.kind = 3 ∨ n.kind = 6 ∨ n.kind = 7
 ·rw [if_pos hL, if_neg (by omega), if_neg (by omega)]
  have e : formP n.kind = ([], []) := by rcases hL with h | h | h | h | h <;> rw [h] <;> rfl
  rw [e]
  simp only [List.length_nil, beq_iff_eq]
  by_cases hp : n.pos = 0
  ·rw [if_pos hp, if_pos (by rw [hp] <;> rfl)]
  ·rw [if_neg hp, if_neg (by intro e; exact hp e.symm)]
 rw [if_neg hL, if_neg h5]
 have ht : inTab n.kind = true := by
  unfold inR at h
  simp only [Bool.or_eq_true, beq_iff_eq] at h
  rcases h with h | h
  ·omega
  ·exact h
 rw [rowF_tab ht]
 simp only [rowR, Option.isSome_some, Bool.true_and]
 by_cases h33 : n.kind = 33
 ·rw [h33]
  have e : formP 33 = ([82, 101, 116, 117, 114, 110], []) := by decide +kernel
  simp only [e, show ((33 : Int) = 31) = False by decide, false_and, if_false, if_true, true_and, List.length_nil]
  by_cases h1 : n.pos = 1
  ·rw [if_pos (by omega), if_pos h1, h1]; rfl
  ·rw [if_neg h1]
   by_cases h0 : n.pos = 0
   ·rw [if_pos (by omega), h0]; rfl
   ·rw [if_neg (by omega), if_neg (by simp only [beq_iff_eq]; omega)]
 rw [if_neg h33]
 simp only [show (n.kind = 33) = False from eq_false h33, false_and, if_false]
 by_cases h31 : n.kind = 31 ∧ n.pos = 3
 ·rw [if_pos h31, if_pos h31]; rfl
 ·rw [if_neg h31, if_neg h31]
  by_cases hl : ((formP n.kind).2.length : Int) = n.pos
  ·rw [if_pos hl, if_pos (by simp only [beq_iff_eq]; exact hl)]
  ·rw [if_neg hl, if_neg (by simp only [beq_iff_eq]; exact hl)]
theorem rows_short : ∀ t ∈ rowsL, t.2.2.length ≤ 5 := by decide +kernel
set_option maxRecDepth 100000 in
set_option maxHeartbeats 4000000 in
theorem kinds_any (op kids : Int) (w : World) : Calls Tryz.prog 59 #[.int .i64 op, .int .i64 kids] w fun e w' => e = .returned (.tuple #[.string ⟨(kindsV op kids).1.toArray⟩, .bool (kindsV op kids).2]) ∧ Below w.heap.size w w' := by
 obtain ⟨X, hX⟩ : ∃ X, Hid (kindsV op kids = X) := ⟨_, Lib.hid rfl⟩
 rw [hX.out]
 have hx := hX.out
 unfold kindsV at hx
 have HB0 := Lib.hid (Below.refl w.heap.size w)
 by_cases hL : op = 1 ∨ op = 2 ∨ op = 3 ∨ op = 6 ∨ op = 7
 ·rw [if_pos hL] at hx
  have HX := Lib.hid hx
  clear hx
  rcases hL with rfl | rfl | rfl | rfl | rfl
  all_goals
   go_enter Tryz.func59, Tryz.ntmps59
   go_wp2_with fail
   go_ret2
   rw [← HX.out]
   exact ⟨rfl, HB0.out⟩
 rw [if_neg hL] at hx
 by_cases h5 : op = 5
 ·rw [if_pos h5] at hx
  subst h5
  by_cases hk : kids < 0 ∨ 7 < kids
  ·rw [if_pos hk] at hx
   have HX := Lib.hid hx
   clear hx hL
   rcases hk with hk | hk
   all_goals
    go_enter Tryz.func59, Tryz.ntmps59
    go_wp2_with fail
    go_ret2
    rw [← HX.out]
    exact ⟨rfl, HB0.out⟩
  ·rw [if_neg hk] at hx
   obtain ⟨n, rfl⟩ : ∃ n : Nat, kids = n := ⟨kids.toNat, by omega⟩
   have hn : n ≤ 7 := by omega
   have hn' : ¬ (n : Int) < 0 := by omega
   have hn2 : ¬ (7 : Int) < (n : Int) := by omega
   have HE : Hid (List.take n [101, 101, 101, 101, 101, 101, 101] = List.replicate n (101 : UInt8)) := Lib.hid (by
    match n, hn with
    | 0, _ => rfl
    | 1, _ => rfl
    | 2, _ => rfl
    | 3, _ => rfl
    | 4, _ => rfl
    | 5, _ => rfl
    | 6, _ => rfl
    | 7, _ => rfl)
   have HX := Lib.hid hx
   clear hx hL hk
   go_enter Tryz.func59, Tryz.ntmps59
   go_wp2_with fail
   go_ret2
   rw [← HX.out]
   refine ⟨?_, HB0.out⟩
   rw [HE.out]
   rfl
 rw [if_neg h5] at hx
 have e1 : (op == 1) = false := by rw [beq_eq_false_iff_ne]; omega
 have e2 : (op == 2) = false := by rw [beq_eq_false_iff_ne]; omega
 have e3 : (op == 3) = false := by rw [beq_eq_false_iff_ne]; omega
 have e6 : (op == 6) = false := by rw [beq_eq_false_iff_ne]; omega
 have e7 : (op == 7) = false := by rw [beq_eq_false_iff_ne]; omega
 have e5 : (op == 5) = false := by rw [beq_eq_false_iff_ne]; omega
 by_cases h31 : op = 31 ∧ kids = 3
 ·rw [if_pos h31] at hx
  obtain ⟨rfl, rfl⟩ := h31
  have HX := Lib.hid hx
  clear hx hL h5
  go_enter Tryz.func59, Tryz.ntmps59
  go_wp2_with fail
  go_ret2
  rw [← HX.out]
  exact ⟨rfl, HB0.out⟩
 rw [if_neg h31] at hx
 by_cases h33 : op = 33 ∧ kids = 1
 ·rw [if_pos h33] at hx
  obtain ⟨rfl, rfl⟩ := h33
  have HX := Lib.hid hx
  clear hx hL h5 h31
  go_enter Tryz.func59, Tryz.ntmps59
  go_wp2_with fail
  go_ret2
  rw [← HX.out]
  exact ⟨rfl, HB0.out⟩
 rw [if_neg h33] at hx
 have HRO := Lib.hid (rowOf_any op w)
 obtain ⟨R, hR⟩ : ∃ R, rowF op = R := ⟨_, rfl⟩
 rw [hR] at HRO hx
 obtain ⟨s, hs⟩ : ∃ s, (rowR R).2.2 = s := ⟨_, rfl⟩
 have hsl : s.length ≤ 1000 := by
  rw [← hs, ← hR]
  unfold rowF
  cases hf : rowsL.find? (fun t => t.1 == op) with
  | none => simp [rowR]
  | some t => exact Nat.le_trans (rows_short t (List.mem_of_find?_eq_some hf)) (by omega)
 obtain ⟨a, b, hab⟩ : ∃ a b, rowR R = (a, b, s) := ⟨(rowR R).1, (rowR R).2.1, by rw [← hs]⟩
 obtain ⟨ok, hok⟩ : ∃ ok, R.isSome = ok := ⟨_, rfl⟩
 rw [hs, hok] at hx
 rw [hab, hok] at HRO
 have HX := Lib.hid hx
 clear hx hR hs hab hok
 have hcase : (op = 31 ∧ kids ≠ 3) ∨ (op = 33 ∧ kids ≠ 1) ∨ (op ≠ 31 ∧ op ≠ 33) := by omega
 clear hL h5 h31 h33
 have hfin : ((op == 31) = true ∧ (kids == 3) = false) ∨ ((op == 33) = true ∧ (op == 31) = false ∧ (kids == 1) = false) ∨ ((op == 31) = false ∧ (op == 33) = false) := by
  rcases hcase with ⟨h1, h2⟩ | ⟨h1, h2⟩ | ⟨h1, h2⟩
  ·exact .inl ⟨by rw [h1]; rfl, beq_eq_false_iff_ne.2 h2⟩
  ·exact .inr (.inl ⟨by rw [h1]; rfl, by rw [h1]; rfl, beq_eq_false_iff_ne.2 h2⟩)
  ·exact .inr (.inr ⟨beq_eq_false_iff_ne.2 h1, beq_eq_false_iff_ne.2 h2⟩)
 clear hcase
 rcases hfin with ⟨t1, t2⟩ | ⟨t1, t2, t3⟩ | ⟨t1, t2⟩
 all_goals
  go_enter Tryz.func59, Tryz.ntmps59
  go_wp2_with fail
  ((with_reducible refine HRO.out.mono ?_))
  rintro e w1 ⟨rfl, hb1⟩
  have HB1 : Hid (Below w.heap.size w (w1.alloc (rwObj a b s))) := Lib.hid (hb1.alloc hb1.size _)
  have hcell := heap_alloc_new w1 (rwObj a b s)
  clear hb1 HRO
  go_upto_region 19 with fail
  obtain ⟨d0, d1, d2⟩ := cells3 hcell
  generalize w1.alloc (rwObj a b s) = W at *
  clear hcell
  cases ok
  all_goals
   go_quiet (fail)
   go_wp2_with fail
   go_ret2
   rw [← HX.out]
   exact ⟨rfl, below_drewN HB1.out _⟩
theorem kinds_is (op kids : Int) (ks : List UInt8) (ok : Bool) (H : Hid (kindsV op kids = (ks, ok))) (w : World) : Calls Tryz.prog 59 #[.int .i64 op, .int .i64 kids] w fun e w' => e = .returned (.tuple #[.string ⟨ks.toArray⟩, .bool ok]) ∧ Below w.heap.size w w' := by
 have := kinds_any op kids w
 rw [H.out] at this
 exact this
end
section
open Go.RowKit
attribute [local go_sem] ByteArray.mk_append_mk bs_get bs_cut bs_end
set_option maxRecDepth 100000 in
set_option maxHeartbeats 8000000 in
/-- The fields of a name or a call. -/
theorem rfields_path (op num : Int) (hop : op = 3 ∨ op = 5) (str : List UInt8) (pos : Int) (k : UInt8) (w : World) (hs : str.length ≤ 1048576) :
 Calls Tryz.prog 77 #[tokV op num str pos, .int .u8 k.toNat] w fun e w' => e = .returned (.bool (num == 0 && nameB k str)) ∧ Below w.heap.size w w' := by
 obtain ⟨X, hX⟩ : ∃ X, Hid ((num == 0 && nameB k str) = X) := ⟨_, Lib.hid rfl⟩
 rw [hX.out]
 have HB0 : Hid (Below w.heap.size w (w.alloc (nObj op num str pos))) := Lib.hid ((Below.refl _ _).alloc (Nat.le_refl _) _)
 have HE0 : Hid ((w.alloc (nObj op num str pos)).heap[w.heap.size]? = some (nObj op num str pos)) := Lib.hid (heap_alloc_new _ _)
 obtain ⟨P, hP⟩ : ∃ P, w.heap.size = P := ⟨_, rfl⟩
 have HPE := Lib.hid hP
 have HOP := Lib.hid hop
 have e12 : (op == 1) = false ∧ (op == 2) = false := by constructor <;> (rw [beq_eq_false_iff_ne]; omega)
 obtain ⟨e1, e2⟩ := e12
 have e35 : (op == 3) = true ∨ ((op == 3) = false ∧ (op == 5) = true) := by
  rcases hop with rfl | rfl
  ·exact .inl rfl
  ·exact .inr ⟨rfl, rfl⟩
 clear hop
 unfold tokV
 go_enter Tryz.func77, Tryz.ntmps77
 go_upto_region 1 with fail
 (try simp only [hP])
 rw [hP] at HB0 HE0
 generalize w.alloc (nObj op num str pos) = W0 at *
 clear hP
 obtain ⟨d0, d1, d2, d3⟩ := cells4 HE0.out
 have HPA := Lib.hid (rparse_any str W0 (by omega))
 unfold parPost PPost at HPA
 obtain ⟨O, hO⟩ : ∃ O, parOk str = O := ⟨_, rfl⟩
 obtain ⟨R, hR⟩ : ∃ R, (parOk str && parRoot str) = R := ⟨_, rfl⟩
 obtain ⟨U, hU⟩ : ∃ U : Int, (if parOk str = true then (parUp str : Int) else 0) = U := ⟨_, rfl⟩
 obtain ⟨S, hS⟩ : ∃ S, (if parOk str = true then parSegs str else []) = S := ⟨_, rfl⟩
 have hFM : O = true → fmtV R U S = str := by
  intro h
  rw [h] at hO
  rw [← hR, ← hU, ← hS, hO]
  simp only [Bool.true_and, if_true]
  exact fmt_par hO
 have hSL : S.length ≤ 32 ∧ ∀ x ∈ S, x.length ≤ 9223372036854775000 := by
  rw [← hS]
  by_cases h : parOk str = true
  ·rw [if_pos h]
   refine ⟨parSegs_len h, fun x hx => ?_⟩
   have := segB_small (validB_segs h x hx)
   omega
  ·rw [if_neg h]; simp
 have hXS : O = true → X = (num == 0 && (k != 115 || segB str)) := by
  intro h
  rw [h] at hO
  rw [← hX.out]
  unfold nameB
  rw [hO, Bool.true_and, singB_seg hO]
 have hXN : O = false → X = false := by
  intro h
  rw [h] at hO
  rw [← hX.out]
  unfold nameB
  rw [hO, Bool.false_and, Bool.and_false]
 rw [hR, hU, hS, hO] at HPA
 have HFM := Lib.hid hFM
 have HSL := Lib.hid hSL
 have HXS := Lib.hid hXS
 have HXN := Lib.hid hXN
 clear hO hR hU hS hFM hSL hXS hXN hX
 rcases e35 with e3 | ⟨e3, e5⟩
 all_goals
  go_wp2_with fail
  ((with_reducible refine HPA.out.mono ?_))
  rintro e w1 ⟨v, rfl, hv, hb1⟩
  have HB1 : Hid (Below P w w1) := Lib.hid (HB0.out.trans (hb1.mono (by have := HB0.out.size; have := HPE.out; omega)))
  have HE1 := Lib.hid (blk_below HE0.out hb1)
  have HST := Lib.hid (StrsAt.of_own hv (by have := HSL.out.1; omega))
  obtain ⟨va, vc, rfl⟩ := own_strs_form hv
  have hal : Below w1.heap.size w1 (w1.alloc (pObj R U (.slice va S.length vc))) := (Below.refl _ _).alloc (Nat.le_refl _) _
  have HB2 : Hid (Below P w (w1.alloc (pObj R U (.slice va S.length vc)))) := Lib.hid (HB1.out.trans (hal.mono (by have := HB1.out.size; have := HPE.out; omega)))
  have HE2 := Lib.hid (blk_below HE1.out hal)
  have HQ2 := Lib.hid (heap_alloc_new w1 (pObj R U (.slice va S.length vc)))
  have HST2 := Lib.hid (HST.out.below hal)
  have hsz : P ≤ (w1.alloc (pObj R U (.slice va S.length vc))).heap.size := by have := HB2.out.size; have := HPE.out; omega
  have HSZ := Lib.hid hsz
  clear hv hb1 hal HPA HB0 HE0 HB1 HE1 HST d0 d1 d2 d3 hsz
  go_upto_region 9 with fail
  generalize w1.heap.size = Q at *
  generalize w1.alloc (pObj R U (.slice va S.length vc)) = W at *
  obtain ⟨d0, d1, d2, d3⟩ := cells4 HE2.out
  obtain ⟨c0, c1, c2⟩ := cells3 HQ2.out
  cases hn : num == 0 with
  | false =>
    have HX : Hid (X = false) := Lib.hid (by
     cases O with
     | true => rw [HXS.out rfl, hn, Bool.false_and]
     | false => exact HXN.out rfl)
    go_quiet (fail)
    go_wp2_with fail
    go_ret
    rw [HX.out, HPE.out]
    exact ⟨rfl, below_drewN HB2.out _⟩
  | true =>
    cases O with
    | false =>
      have HX : Hid (X = false) := Lib.hid (HXN.out rfl)
      go_quiet (fail)
      go_wp2_with fail
      go_ret
      rw [HX.out, HPE.out]
      exact ⟨rfl, below_drewN HB2.out _⟩
    | true =>
      have HX : Hid (X = (k != 115 || segB str)) := Lib.hid (by rw [HXS.out rfl, hn, Bool.true_and])
      have HFF : Hid (fmtV R U S = str) := Lib.hid (HFM.out rfl)
      have k1 : ∀ x, Grows W x → x.cell? ⟨P, 1, none⟩ = some (.int .u64 num) := fun x hx => (cells4 (blk_below HE2.out hx)).2.1
      have k2 : ∀ x, Grows W x → x.cell? ⟨P, 2, none⟩ = some (.string ⟨str.toArray⟩) := fun x hx => (cells4 (blk_below HE2.out hx)).2.2.1
      have p0 : ∀ x, Grows W x → x.cell? ⟨Q, 0, none⟩ = some (.bool R) := fun x hx => (cells3 (blk_below HQ2.out hx)).1
      have p1 : ∀ x, Grows W x → x.cell? ⟨Q, 1, none⟩ = some (.int .i64 U) := fun x hx => (cells3 (blk_below HQ2.out hx)).2.1
      have p2 : ∀ x, Grows W x → x.cell? ⟨Q, 2, none⟩ = some (.slice va S.length vc) := fun x hx => (cells3 (blk_below HQ2.out hx)).2.2
      clear d0 d1 d2 d3 c0 c1 c2 HXS HXN HFM
      obtain ⟨kb, hkb⟩ : ∃ z, segB str = z := ⟨_, rfl⟩
      have HSI := Lib.hid (fun w => rsingle_is str kb (Lib.hid hkb) w (by omega))
      rw [hkb] at HX
      clear hkb
      by_cases hk : k = 115
      ·subst hk
       have HX2 : Hid (X = kb) := Lib.hid (by rw [HX.out] <;> rfl)
       refine wp_region_plan (Grows _) 22 [.reads [0, 1, 2, 3, 4, 5, 6, 7, 9, 10], .act 8, .reads [11, 12, 13, 14, 15, 16, 17, 18], .act 19, .reads [20, 21], .act 22] (by kernel_rfl) (by kernel_rfl) (by kernel_rfl) (by kernel_rfl) (by kernel_rfl) (fun _ _ d _ _ h => by cases d <;> exact h) (Grows.self _) ?_
       refine wpPlan_reads ?_
       simp only [pickOps, List.drop_succ_cons, List.drop_zero, List.take_succ_cons, List.take_zero, List.cons_append, List.nil_append]
       repeat (go_big_quiet_step (first | (intro hb; rw [p0 _ hb]; simp only [Result.andThen]; rw [p1 _ hb]; simp only; rw [p2 _ hb]; exact ⟨rfl, rfl⟩) | (intro hb; rw [k1 _ hb]; exact ⟨rfl, rfl⟩) | (intro hb; rw [k2 _ hb]; exact ⟨rfl, rfl⟩)))
       refine wpQuiet_nil ?_
       refine wpPlan_act rfl ?_
       simp only [pickOps, List.drop_succ_cons, List.drop_zero, List.take_succ_cons, List.take_zero, List.cons_append, List.nil_append]
       have HFP := Lib.hid (fun (x : World) (h : Grows W x) => formatPath_any _ R U S x (PathV.mk (HST2.out.below h)) HSL.out.2)
       go_wp2_with fail
       ((with_reducible refine (HFP.out _ (Grows.self _)).mono ?_))
       rintro e w5 ⟨rfl, hb5⟩
       rw [HFF.out]
       have HG5 := Lib.hid ((Grows.self W).trans hb5)
       clear hb5 HFP
       go_wp2_with fail
       refine ⟨fun _ => HG5.out, ?_⟩
       refine wpPlan_reads ?_
       simp only [pickOps, List.drop_succ_cons, List.drop_zero, List.take_succ_cons, List.take_zero, List.cons_append, List.nil_append]
       repeat (go_big_quiet_step (first | (intro hb; rw [p0 _ hb]; simp only [Result.andThen]; rw [p1 _ hb]; simp only; rw [p2 _ hb]; exact ⟨rfl, rfl⟩) | (intro hb; rw [k1 _ hb]; exact ⟨rfl, rfl⟩) | (intro hb; rw [k2 _ hb]; exact ⟨rfl, rfl⟩)))
       refine wpQuiet_nil ?_
       refine wpPlan_act rfl ?_
       simp only [pickOps, List.drop_succ_cons, List.drop_zero, List.take_succ_cons, List.take_zero, List.cons_append, List.nil_append]
       go_wp2_with fail
       ((with_reducible refine (HSI.out _).mono ?_))
       rintro e w6 ⟨rfl, rfl⟩
       go_wp2_with fail
       refine ⟨fun _ => HG5.out, ?_⟩
       refine wpPlan_reads ?_
       simp only [pickOps, List.drop_succ_cons, List.drop_zero, List.take_succ_cons, List.take_zero, List.cons_append, List.nil_append]
       repeat (go_big_quiet_step (first | (intro hb; rw [p0 _ hb]; simp only [Result.andThen]; rw [p1 _ hb]; simp only; rw [p2 _ hb]; exact ⟨rfl, rfl⟩) | (intro hb; rw [k1 _ hb]; exact ⟨rfl, rfl⟩) | (intro hb; rw [k2 _ hb]; exact ⟨rfl, rfl⟩)))
       refine wpQuiet_nil ?_
       refine wpPlan_act rfl ?_
       simp only [pickOps, List.drop_succ_cons, List.drop_zero, List.take_succ_cons, List.take_zero, List.cons_append, List.nil_append]
       go_wp2_with fail
       refine ⟨fun h => absurd h (by decide), wpPlan_nil ?_⟩
       go_wp2_with fail
       go_ret
       rw [HX2.out, HPE.out]
       exact ⟨rfl, bel_then HB2.out (Nat.le_of_eq HPE.out.symm) HG5.out⟩
      ·have hkk : ((k.toNat : Int) != 115) = true := by
        have := byte_int k 115
        rw [bne, show (115 : Int) = ((115 : UInt8).toNat : Int) from rfl, this, beq_eq_false_iff_ne.2 hk]
        rfl
       have HX2 : Hid (X = true) := Lib.hid (by rw [HX.out, bne_iff_ne.2 hk] <;> rfl)
       refine wp_region_plan (Grows _) 22 [.reads [0, 1, 2, 3, 4, 5, 6, 7, 9, 10], .act 8, .reads [11, 12, 13, 14, 15, 16, 17, 18], .act 19, .reads [20, 21], .act 22] (by kernel_rfl) (by kernel_rfl) (by kernel_rfl) (by kernel_rfl) (by kernel_rfl) (fun _ _ d _ _ h => by cases d <;> exact h) (Grows.self _) ?_
       refine wpPlan_reads ?_
       simp only [pickOps, List.drop_succ_cons, List.drop_zero, List.take_succ_cons, List.take_zero, List.cons_append, List.nil_append]
       repeat (go_big_quiet_step (first | (intro hb; rw [p0 _ hb]; simp only [Result.andThen]; rw [p1 _ hb]; simp only; rw [p2 _ hb]; exact ⟨rfl, rfl⟩) | (intro hb; rw [k1 _ hb]; exact ⟨rfl, rfl⟩) | (intro hb; rw [k2 _ hb]; exact ⟨rfl, rfl⟩)))
       refine wpQuiet_nil ?_
       refine wpPlan_act rfl ?_
       simp only [pickOps, List.drop_succ_cons, List.drop_zero, List.take_succ_cons, List.take_zero, List.cons_append, List.nil_append]
       have HFP := Lib.hid (fun (x : World) (h : Grows W x) => formatPath_any _ R U S x (PathV.mk (HST2.out.below h)) HSL.out.2)
       go_wp2_with fail
       ((with_reducible refine (HFP.out _ (Grows.self _)).mono ?_))
       rintro e w5 ⟨rfl, hb5⟩
       rw [HFF.out]
       have HG5 := Lib.hid ((Grows.self W).trans hb5)
       clear hb5 HFP
       go_wp2_with fail
       refine ⟨fun _ => HG5.out, ?_⟩
       refine wpPlan_reads ?_
       simp only [pickOps, List.drop_succ_cons, List.drop_zero, List.take_succ_cons, List.take_zero, List.cons_append, List.nil_append]
       repeat (go_big_quiet_step (first | (intro hb; rw [p0 _ hb]; simp only [Result.andThen]; rw [p1 _ hb]; simp only; rw [p2 _ hb]; exact ⟨rfl, rfl⟩) | (intro hb; rw [k1 _ hb]; exact ⟨rfl, rfl⟩) | (intro hb; rw [k2 _ hb]; exact ⟨rfl, rfl⟩)))
       refine wpQuiet_nil ?_
       refine wpPlan_act rfl ?_
       simp only [pickOps, List.drop_succ_cons, List.drop_zero, List.take_succ_cons, List.take_zero, List.cons_append, List.nil_append]
       go_wp2_with fail
       refine ⟨fun _ => HG5.out, ?_⟩
       refine wpPlan_reads ?_
       simp only [pickOps, List.drop_succ_cons, List.drop_zero, List.take_succ_cons, List.take_zero, List.cons_append, List.nil_append]
       repeat (go_big_quiet_step (first | (intro hb; rw [p0 _ hb]; simp only [Result.andThen]; rw [p1 _ hb]; simp only; rw [p2 _ hb]; exact ⟨rfl, rfl⟩) | (intro hb; rw [k1 _ hb]; exact ⟨rfl, rfl⟩) | (intro hb; rw [k2 _ hb]; exact ⟨rfl, rfl⟩)))
       refine wpQuiet_nil ?_
       refine wpPlan_act rfl ?_
       simp only [pickOps, List.drop_succ_cons, List.drop_zero, List.take_succ_cons, List.take_zero, List.cons_append, List.nil_append]
       go_wp2_with fail
       refine ⟨fun h => absurd h (by decide), wpPlan_nil ?_⟩
       go_wp2_with fail
       go_ret
       rw [HX2.out, HPE.out]
       exact ⟨rfl, bel_then HB2.out (Nat.le_of_eq HPE.out.symm) HG5.out⟩
set_option maxRecDepth 100000 in
set_option maxHeartbeats 8000000 in
/-- The fields of other nodes. -/
theorem rfields_other (op num : Int) (h3 : op ≠ 3) (h5 : op ≠ 5) (h0 : 0 ≤ num) (str : List UInt8) (pos : Int) (k : UInt8) (w : World) (hs : str.length ≤ 1048576) :
 Calls Tryz.prog 77 #[tokV op num str pos, .int .u8 k.toNat] w fun e w' => e = .returned (.bool (fieldsB ⟨op, num, str, pos⟩ k)) ∧ Below w.heap.size w w' := by
 obtain ⟨X, hX⟩ : ∃ X, Hid (fieldsB ⟨op, num, str, pos⟩ k = X) := ⟨_, Lib.hid rfl⟩
 rw [hX.out]
 have hx := hX.out
 unfold fieldsB at hx
 simp only [h3, h5, or_self, if_false] at hx
 rw [show (str == []) = str.isEmpty by cases str <;> rfl] at hx
 have HB0 : Hid (Below w.heap.size w (w.alloc (nObj op num str pos))) := Lib.hid ((Below.refl _ _).alloc (Nat.le_refl _) _)
 have HE0 : Hid ((w.alloc (nObj op num str pos)).heap[w.heap.size]? = some (nObj op num str pos)) := Lib.hid (heap_alloc_new _ _)
 obtain ⟨P, hP⟩ : ∃ P, w.heap.size = P := ⟨_, rfl⟩
 have HPE := Lib.hid hP
 have e3 : (op == 3) = false := beq_eq_false_iff_ne.2 h3
 have e5 : (op == 5) = false := beq_eq_false_iff_ne.2 h5
 unfold tokV
 go_enter Tryz.func77, Tryz.ntmps77
 go_upto_region 1 with fail
 (try simp only [hP])
 rw [hP] at HB0 HE0
 generalize w.alloc (nObj op num str pos) = W0 at *
 clear hP
 obtain ⟨d0, d1, d2, d3⟩ := cells4 HE0.out
 have hsz : (str.length : Int) ≤ 1048576 := by omega
 obtain ⟨sb, hsb⟩ : ∃ z, str.isEmpty = z := ⟨_, rfl⟩
 obtain ⟨nb, hnb⟩ : ∃ z, (num == 0) = z := ⟨_, rfl⟩
 by_cases c1 : op = 1
 ·subst c1
  simp only [if_true, show ((1 : Int) = 2) = False by decide, if_false, Bool.true_and] at hx
  have HX := Lib.hid hx
  clear hx h3 h5 hX hsb hnb
  go_wp2_with fail
  go_ret
  rw [← HX.out, HPE.out]
  exact ⟨rfl, HB0.out⟩
 have f1 : (op == 1) = false := beq_eq_false_iff_ne.2 c1
 by_cases c2 : op = 2
 ·subst c2
  simp only [show ((2 : Int) = 1) = False by decide, show ((2 : Int) = 6) = False by decide, show ((2 : Int) = 7) = False by decide, if_true, if_false] at hx
  rw [hnb] at hx
  have HX := Lib.hid hx
  clear hx h3 h5 hX hsb c1
  cases nb
  all_goals
   go_wp2_with fail
   go_ret
   rw [← HX.out, HPE.out]
   exact ⟨boolOf (by first | (simp; done) | (simp; omega)), HB0.out⟩
 have f2 : (op == 2) = false := beq_eq_false_iff_ne.2 c2
 by_cases c6 : op = 6
 ·subst c6
  simp only [show ((6 : Int) = 1) = False by decide, show ((6 : Int) = 2) = False by decide, if_true, if_false] at hx
  rw [hsb] at hx
  have HX := Lib.hid hx
  clear hx h3 h5 hX hnb c1 c2
  cases sb
  all_goals
   go_wp2_with fail
   go_ret
   rw [← HX.out, HPE.out]
   exact ⟨boolOf (by simp), HB0.out⟩
 have f6 : (op == 6) = false := beq_eq_false_iff_ne.2 c6
 by_cases c7 : op = 7
 ·subst c7
  simp only [show ((7 : Int) = 1) = False by decide, show ((7 : Int) = 2) = False by decide, show ((7 : Int) = 6) = False by decide, if_true, if_false] at hx
  rw [hsb] at hx
  have HX := Lib.hid hx
  clear hx h3 h5 hX hnb c1 c2 c6
  cases sb
  all_goals
   go_wp2_with fail
   go_ret
   rw [← HX.out, HPE.out]
   exact ⟨boolOf (by simp), HB0.out⟩
 have f7 : (op == 7) = false := beq_eq_false_iff_ne.2 c7
 simp only [c1, c2, c6, c7, if_false] at hx
 rw [hnb, hsb] at hx
 have HX := Lib.hid hx
 clear hx h3 h5 hX c1 c2 c6 c7
 cases nb
 all_goals
  go_wp2_with fail
  go_ret
  rw [← HX.out, HPE.out]
  exact ⟨boolOf (by first | (simp [hsb]; done) | (cases sb <;> simp [hsb])), HB0.out⟩
theorem rfields_any (n : Nd) (h0 : 0 ≤ n.num) (k : UInt8) (w : World) (hs : n.str.length ≤ 1048576) :
 Calls Tryz.prog 77 #[tokV n.kind n.num n.str n.pos, .int .u8 k.toNat] w fun e w' => e = .returned (.bool (fieldsB n k)) ∧ Below w.heap.size w w' := by
 obtain ⟨op, num, str, pos⟩ := n
 by_cases h : op = 3 ∨ op = 5
 ·have := rfields_path op num h str pos k w hs
  rw [show fieldsB ⟨op, num, str, pos⟩ k = (num == 0 && nameB k str) by
   unfold fieldsB
   simp only [h, if_true]
   rw [if_neg (by omega), if_neg (by omega), if_neg (by omega)]]
  exact this
 ·exact rfields_other op num (by omega) (by omega) h0 str pos k w hs
theorem rfields_is (n : Nd) (h0 : 0 ≤ n.num) (k : UInt8) (b : Bool) (H : Hid (fieldsB n k = b)) (w : World) (hs : n.str.length ≤ 1048576) :
 Calls Tryz.prog 77 #[tokV n.kind n.num n.str n.pos, .int .u8 k.toNat] w fun e w' => e = .returned (.bool b) ∧ Below w.heap.size w w' := by
 have := rfields_any n h0 k w hs
 rw [H.out] at this
 exact this
end
end Go.Proofs.YtnicnfchkdmieaaGreatDoor
