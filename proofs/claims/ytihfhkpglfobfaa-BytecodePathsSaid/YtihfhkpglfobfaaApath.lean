/- AppendPath: the walk. -/
import Derived.Test.YtihfhkpglfobfaaNsv
import Derived.Test.YtihfhkpglfobfaaBld
namespace Go.Proofs.Ytihfhkpglfobfaa
open Go.RowKit
attribute [local go_sem] conv1 conv2 ByteArray.mk_append_mk get_mk cut_mk cut_end

/-- What AppendPath appends. -/
def appPath (root : Bool) (up : Int) (l : List (List UInt8)) : List UInt8 := if validB root up l = true then encPath root up.toNat l else []
theorem BoxAt.cells {w wr : World} {root : Bool} {up : Int} {v : Value} {l : List (List UInt8)} (h : BoxAt w wr root up v l) : wr.cell? ⟨w.heap.size, 0, none⟩ = some (.bool root) ∧ wr.cell? ⟨w.heap.size, 1, none⟩ = some (.int .i64 up) ∧ wr.cell? ⟨w.heap.size, 2, none⟩ = some v := cells3 h.1
theorem BoxAt.pathV {w wr : World} {root : Bool} {up : Int} {v : Value} {l : List (List UInt8)} (h : BoxAt w wr root up v l) : PathV wr (.agg #[.bool root, .int .i64 up, v]) root up l := ⟨v, rfl, h.2.1⟩
/-- The box and the builder. -/
def AAt (w wr : World) (root : Bool) (up : Int) (v : Value) (l : List (List UInt8)) (b : Nat) (x : List UInt8) : Prop := BoxAt w wr root up v l ∧ Bld wr b b x ∧ w.heap.size + 1 ≤ b
theorem AAt.write {w wr w2 : World} {root : Bool} {up : Int} {v : Value} {l : List (List UInt8)} {b : Nat} {x y : List UInt8} (h : AAt w wr root up v l b x) (h1 : Bld w2 b b y) (h2 : Below b wr w2) (hv : ∀ a n c, v = .slice (some a) n c → l ≠ [] → a.block < b) : AAt w w2 root up v l b y :=
  ⟨⟨(h2.block _ (by have := h.2.2; omega)).trans h.1.1, h.1.2.1.below h2 hv, h.1.2.2.trans (h2.mono (by have := h.2.2; omega))⟩, h1, h.2.2⟩
theorem AAt.below {w wr w2 : World} {root : Bool} {up : Int} {v : Value} {l : List (List UInt8)} {b : Nat} {x : List UInt8} (h : AAt w wr root up v l b x) (h2 : Below wr.heap.size wr w2) : AAt w w2 root up v l b x :=
  ⟨h.1.below h2, h.2.1.below h2, h.2.2⟩
theorem AAt.bld {w wr : World} {root : Bool} {up : Int} {v : Value} {l : List (List UInt8)} {b : Nat} {x : List UInt8} (h : AAt w wr root up v l b x) : Bld wr b b x := h.2.1
theorem bld_byteI (B b : Nat) (l : List UInt8) (c : Int) (x : UInt8) (hc : c = x.toNat) (w : World) (h : Bld w B b l) (hlen : l.length + 1 ≤ 140737488355328) :
    Calls Try.prog 44 #[.pointer (some ⟨b, 0, none⟩), .int .u8 c] w fun e w' => e = .returned .nilIface ∧ Bld w' B b (l ++ [x]) ∧ Below B w w' := by
  subst hc
  exact bld_byte B b l x w h hlen
theorem flat_pad (l : List (List UInt8)) (k : Nat) (h : k < l.length) (hs : l[k].length ≤ 4) (h1 : 1 ≤ l[k].length) : (l.take (k + 1)).flatMap pad4 = (l.take k).flatMap pad4 ++ (l[k] ++ List.replicate (4 - l[k].length) 0) := by
  rw [flat_snoc l k h]
  unfold pad4
  congr 2
  generalize l[k].length = n at *
  match n, hs, h1 with
  | 1, _, _ => rfl
  | 2, _, _ => rfl
  | 3, _, _ => rfl
  | 4, _, _ => rfl
set_option maxHeartbeats 4000000 in
theorem apath_any (bb : List UInt8) (p : Value) (root : Bool) (up : Int) (l : List (List UInt8)) (w : World) (hp : PathV w p root up l) (hx : ∀ x ∈ l, x.length ≤ 9223372036854775000) (hbb : bb.length ≤ 140737488351232) :
    Calls Try.prog 30 #[.string ⟨bb.toArray⟩, p] w fun e w' => e = .returned (.string ⟨(bb ++ appPath root up l).toArray⟩) ∧ Below w.heap.size w w' := by
  obtain ⟨v, rfl, hs⟩ := hp
  have hvlt := hs.lt
  have HX0 : Hid (BoxAt w (w.alloc (.cells #[.bool root, .int .i64 up, v] 45)) root up v l) := Lib.hid (BoxAt.start hs)
  obtain ⟨a, cap, rfl, hl, hdrop⟩ := hs
  clear hdrop
  have HVL := Lib.hid hvlt
  clear hvlt
  obtain ⟨p0, p1, p2⟩ := HX0.out.cells
  by_cases hval : validB root up l = true
  · have HA : Hid (appPath root up l = encPath root up.toNat l) := Lib.hid (if_pos hval)
    have hpre : preB root up l.length = true := by unfold validB at hval; simp at hval; exact hval.1
    have hall : ∀ x ∈ l, segB x = true := by unfold validB at hval; simp at hval; exact hval.2
    unfold preB at hpre
    obtain ⟨hu0, hu1, hrt, hln, hdis⟩ := of_decide_eq_true hpre
    clear hrt hdis
    have hlen : l.length ≤ 32 := by omega
    have HSZ : Hid (∀ x ∈ l, 1 ≤ x.length ∧ x.length ≤ 4) := Lib.hid (fun x hx => segB_size (hall x hx))
    obtain ⟨u, rfl⟩ := Int.eq_ofNat_of_zero_le hu0
    rw [Int.toNat_natCast] at HA
    clear hpre hall
    have HV := Lib.hid hval
    clear hval
    go_enter Try.func30, Try.ntmps30
    go_wp2_with fail
    ((with_reducible refine (nsValid_any _ root _ l _ HX0.out.pathV hx).mono ?_))
    rintro e w1 ⟨rfl, hb1⟩
    rw [HV.out]
    have HX1 : Hid (BoxAt w w1 root u (.slice a l.length cap) l) := Lib.hid (HX0.out.below hb1)
    have hz1 : w.heap.size + 1 ≤ w1.heap.size := by have := hb1.size; simpa using this
    clear HX0 hb1 p0 p1 p2
    have HB0 : Hid (Bld (w1.alloc (.cells #[.pointer none, .slice none 0 0] 69)) w1.heap.size w1.heap.size []) := Lib.hid (Bld.fresh w1)
    go_wp2_with fail
    ((with_reducible refine (bld_str w1.heap.size w1.heap.size [] bb _ HB0.out (by simp; omega)).mono ?_))
    rintro e w2 ⟨rfl, hbl, hbw⟩
    obtain ⟨b, hbq⟩ : ∃ b, w1.heap.size = b := ⟨_, rfl⟩
    have HVB : Hid (∀ a' n c, (Value.slice a l.length cap) = .slice (some a') n c → l ≠ [] → a'.block < b) := Lib.hid (fun a' n c h1 h2 => by have := HVL.out a' n c h1 h2; omega)
    have HA2 : Hid (AAt w w2 root u (.slice a l.length cap) l b bb) := Lib.hid (AAt.write (x := []) ⟨HX1.out.below ((Below.refl _ _).alloc (Nat.le_refl _) _), hbq ▸ HB0.out, by omega⟩ (by rw [← hbq]; exact hbl) (by rw [← hbq]; exact hbw) HVB.out)
    rw [hbq]
    clear hbl hbw HB0 HX1 hz1 hbq HVL
    obtain ⟨p0, p1, p2⟩ := HA2.out.1.cells
    go_upto_if 16 with fail
    go_cut [] (fun wx => ∃ x : List UInt8, x.length ≤ bb.length + 1 ∧ Hid (x = bb ++ headBytes root) ∧ Hid (AAt w wx root u (.slice a l.length cap) l b x))
    case first =>
      cases root
      · go_wp2_with fail
        go_meet
        exact ⟨bb, by omega, Lib.hid (by simp [headBytes]), HA2⟩
      · go_wp2_with fail
        ((with_reducible refine (bld_byteI b b bb 92 92 rfl _ HA2.out.bld (by omega)).mono ?_))
        rintro e w3 ⟨rfl, hbl, hbw⟩
        have HA3 : Hid (AAt w w3 true u (.slice a l.length cap) l b (bb ++ [92])) := Lib.hid (HA2.out.write hbl hbw HVB.out)
        clear hbl hbw
        go_wp2_with fail
        go_meet
        exact ⟨bb ++ [92], by simp, Lib.hid rfl, HA3⟩
    case rest =>
      obtain ⟨x, hxl, HXE, HA3⟩ := hcut
      obtain ⟨w3, rfl⟩ : ∃ x : World, x = wc := ⟨_, rfl⟩
      clear p0 p1 p2 HA2
      obtain ⟨p0, p1, p2⟩ := HA3.out.1.cells
      go_wp2_with fail
      ((with_reducible refine (repeat_any 94 u _ (by omega)).mono ?_))
      rintro e w4 ⟨y, HY, hyl, rfl, hb4⟩
      have HYL := Lib.hid hyl
      have hyl2 : y.length ≤ 32 := by omega
      have HA4 : Hid (AAt w w4 root u (.slice a l.length cap) l b x) := Lib.hid (HA3.out.below hb4)
      clear hb4 HA3 p0 p1 p2 hyl
      go_wp2_with fail
      ((with_reducible refine (bld_str b b x y _ HA4.out.bld (by omega)).mono ?_))
      rintro e w5 ⟨rfl, hbl, hbw⟩
      have HA5 : Hid (AAt w w5 root u (.slice a l.length cap) l b (x ++ y)) := Lib.hid (HA4.out.write hbl hbw HVB.out)
      have HXY : Hid (x ++ y = bb ++ (headBytes root ++ List.replicate u 94)) := Lib.hid (by rw [HXE.out, HY.out, List.append_assoc])
      have hxy : (x ++ y).length ≤ bb.length + 33 := by rw [List.length_append]; omega
      clear hbl hbw HA4 HXE HY HYL hxl hyl2
      generalize x ++ y = z at *
      obtain ⟨p0, p1, p2⟩ := HA5.out.1.cells
      go_upto_block 0 with fail
      go_cut [] (fun wx => ∃ x : List UInt8, x.length ≤ bb.length + 35 ∧ Hid (x = bb ++ (headBytes root ++ List.replicate u 94 ++ cntBytes l.length)) ∧ Hid (AAt w wx root u (.slice a l.length cap) l b x))
      case first =>
        by_cases h0 : l.length = 0
        · have h0' : ((l.length : Int) == 0) = true := by rw [beq_iff_eq]; omega
          have HC : Hid (cntBytes l.length = [0]) := Lib.hid (if_pos h0)
          clear h0
          go_wp2_with fail
          ((with_reducible refine (bld_byteI b b z 0 0 rfl _ HA5.out.bld (by omega)).mono ?_))
          rintro e w6 ⟨rfl, hbl, hbw⟩
          have HA6 := Lib.hid (HA5.out.write hbl hbw HVB.out)
          clear hbl hbw
          go_wp2_with fail
          go_meet
          exact ⟨z ++ [0], by simp; omega, Lib.hid (by rw [HC.out, HXY.out]; simp), HA6⟩
        · have h0' : ((l.length : Int) == 0) = false := by rw [beq_eq_false_iff_ne]; omega
          by_cases h1 : l.length = 1
          · have h1' : ((l.length : Int) == 1) = true := by rw [beq_iff_eq]; omega
            have HC : Hid (cntBytes l.length = []) := Lib.hid (by rw [h1]; rfl)
            clear h0 h1
            go_wp2_with fail
            go_meet
            exact ⟨z, by omega, Lib.hid (by rw [HC.out, List.append_nil]; exact HXY.out), HA5⟩
          · have h1' : ((l.length : Int) == 1) = false := by rw [beq_eq_false_iff_ne]; omega
            by_cases h2 : l.length = 2
            · have h2' : ((l.length : Int) == 2) = true := by rw [beq_iff_eq]; omega
              have HC : Hid (cntBytes l.length = [46]) := Lib.hid (by rw [cntBytes, if_neg h0, if_pos h2])
              clear h0 h1 h2
              go_wp2_with fail
              ((with_reducible refine (bld_byteI b b z 46 46 rfl _ HA5.out.bld (by omega)).mono ?_))
              rintro e w6 ⟨rfl, hbl, hbw⟩
              have HA6 := Lib.hid (HA5.out.write hbl hbw HVB.out)
              clear hbl hbw
              go_wp2_with fail
              go_meet
              exact ⟨z ++ [46], by simp; omega, Lib.hid (by rw [HC.out, HXY.out]; simp), HA6⟩
            · have h2' : ((l.length : Int) == 2) = false := by rw [beq_eq_false_iff_ne]; omega
              have HC : Hid (cntBytes l.length = [47, UInt8.ofNat l.length]) := Lib.hid (by rw [cntBytes, if_neg h0, if_neg h2, if_pos (by omega)]; show 47 :: [UInt8.ofNat (l.length % 256)] = _; rw [Nat.mod_eq_of_lt (by omega)])
              have hto : ((l.length : Int)) = (UInt8.ofNat l.length).toNat := by rw [UInt8.toNat_ofNat']; omega
              have HTO := Lib.hid hto
              clear h0 h1 h2 hto
              go_wp2_with fail
              ((with_reducible refine (bld_byteI b b z 47 47 rfl _ HA5.out.bld (by omega)).mono ?_))
              rintro e w6 ⟨rfl, hbl, hbw⟩
              have HA6 := Lib.hid (HA5.out.write hbl hbw HVB.out)
              clear hbl hbw
              go_wp2_with fail
              ((with_reducible refine (bld_byteI b b (z ++ [47]) _ (UInt8.ofNat l.length) HTO.out _ HA6.out.bld (by rw [List.length_append, List.length_singleton]; omega)).mono ?_))
              rintro e w7 ⟨rfl, hbl, hbw⟩
              have HA7 := Lib.hid (HA6.out.write hbl hbw HVB.out)
              clear hbl hbw
              go_wp2_with fail
              go_meet
              exact ⟨z ++ [47] ++ [UInt8.ofNat l.length], by simp; omega, Lib.hid (by rw [HC.out, HXY.out]; simp), HA7⟩
      case rest =>
        obtain ⟨x, hxl, HXE, HA6⟩ := hcut
        obtain ⟨w6, rfl⟩ : ∃ x : World, x = wc := ⟨_, rfl⟩
        clear p0 p1 p2 HA5 HXY hxy
        obtain ⟨p0, p1, p2⟩ := HA6.out.1.cells
        have HXS := Lib.hid hx
        clear hx
        go_wp2_with fail
        go_loopw [41] (fun i wr => ∃ (k : Nat) (z : List UInt8), i = .int .i64 k ∧ k ≤ l.length ∧ z.length ≤ bb.length + 35 + 4 * k ∧ Hid (z = x ++ (l.take k).flatMap pad4) ∧ Hid (AAt w wr root u (.slice a l.length cap) l b z)) (fun i _ => l.length - (intOf i).toNat)
        case atStart => exact ⟨0, x, rfl, Nat.zero_le _, by omega, Lib.hid (by simp), HA6⟩
        case round =>
          obtain ⟨k, z, rfl, hk, hzl, HZ, HA7⟩ := hrel
          clear HA6 p0 p1 p2
          obtain ⟨p0, p1, p2⟩ := HA7.out.1.cells
          by_cases hlt : k < l.length
          · obtain ⟨b0, off, rfl, hcell⟩ := cell_at HA7.out.1.2.1 k hlt
            obtain ⟨hs1, hs4⟩ := HSZ.out _ (List.getElem_mem hlt)
            have HF := Lib.hid (flat_pad l k hlt hs4 hs1)
            have hlt' : (k : Int) < l.length := by omega
            generalize l[k] = y at *
            go_wp2_with fail
            ((with_reducible refine (bld_str b b z y _ HA7.out.bld (by omega)).mono ?_))
            rintro e w8 ⟨rfl, hbl, hbw⟩
            have HA8 := Lib.hid (HA7.out.write hbl hbw HVB.out)
            clear hbl hbw hcell p0 p1 p2
            have h4y : 4 - (y.length : Int) = ((4 - y.length : Nat) : Int) := by omega
            have H4Y := Lib.hid h4y
            clear h4y
            go_wp2_with fail
            rw [H4Y.out]
            ((with_reducible refine (repeat_any 0 (4 - y.length) _ (by omega)).mono ?_))
            rintro e w9 ⟨t, HT, htl, rfl, hb9⟩
            have htl3 : t.length ≤ 3 := by omega
            have htl2 : y.length + t.length ≤ 4 := by omega
            have HA9 := Lib.hid (HA8.out.below hb9)
            clear hb9 htl
            go_wp2_with fail
            ((with_reducible refine (bld_str b b (z ++ y) t _ HA9.out.bld (by rw [List.length_append]; omega)).mono ?_))
            rintro e w10 ⟨rfl, hbl, hbw⟩
            have HA10 := Lib.hid (HA9.out.write hbl hbw HVB.out)
            clear hbl hbw
            go_wp2_with fail
            go_roundw
            case rel => exact ⟨k + 1, z ++ y ++ t, by go_num, by omega, by rw [List.length_append, List.length_append]; omega, Lib.hid (by rw [HF.out, HZ.out, HT.out]; simp), HA10⟩
            case measure => simp [intOf]; omega
          · have hlt' : ¬ (k : Int) < l.length := by omega
            have HFin : Hid (z = bb ++ appPath root u l) := Lib.hid (by rw [HA.out, HZ.out, HXE.out, List.take_of_length_le (by omega), encPath]; simp)
            go_wp2_with fail
            ((with_reducible refine (bld_string b b z _ HA7.out.bld).mono ?_))
            rintro e w8 ⟨rfl, hbw⟩
            go_wp2_with fail
            go_ret
            exact ⟨by rw [← HFin.out]; rfl, HA7.out.1.2.2.trans (hbw.mono (by have := HA7.out.2.2; omega))⟩
  · have hval' : validB root up l = false := by simpa using hval
    have HA : Hid (appPath root up l = []) := Lib.hid (if_neg hval)
    have HV := Lib.hid hval'
    clear hval hval'
    go_enter Try.func30, Try.ntmps30
    go_wp2_with fail
    ((with_reducible refine (nsValid_any _ root _ l _ HX0.out.pathV hx).mono ?_))
    rintro e w1 ⟨rfl, hb1⟩
    rw [HV.out]
    have HX1 : Hid (BoxAt w w1 root up (.slice a l.length cap) l) := Lib.hid (HX0.out.below hb1)
    clear HX0 hb1
    go_wp2_with fail
    go_ret
    exact ⟨by rw [HA.out, List.append_nil]; rfl, HX1.out.2.2⟩
end Go.Proofs.Ytihfhkpglfobfaa
