/- segmentCount: the walk. -/
import Derived.Test.YtihfhkpglfobfaaSeg
namespace Go.Proofs.Ytihfhkpglfobfaa
open Go.RowKit
attribute [local go_sem] conv1 conv2 ByteArray.mk_append_mk get_mk cut_mk

/-- The count that stands behind 0x2f. -/
def rdMany (most : Int) : List UInt8 → Int × Int × Int
  | [] => (0, 0, 4)
  | d :: _ => if d.toNat < 3 then (0, 0, 3) else if most < d.toNat then (0, 0, 3) else ((d.toNat : Int), 2, 0)
/-- What segmentCount returns. -/
def rdCnt (s : List UInt8) (most : Int) (pre : Bool) : Int × Int × Int := match s with
  | [] => (0, 0, 4)
  | c :: r =>
    if c.toNat = 0 then (if pre = true then (0, 1, 0) else (0, 0, 3))
    else if c.toNat = 46 then (if most < 2 then (0, 0, 3) else (2, 1, 0))
    else if c.toNat = 47 then (if most < 3 then (0, 0, 3) else rdMany most r)
    else if most < 1 then (0, 0, 3) else (1, 0, 0)
theorem rdCnt_many (r : List UInt8) (most : Int) (pre : Bool) (h : ¬ most < 3) : rdCnt (47 :: r) most pre = rdMany most r := by
  show (if most < 3 then (0, 0, 3) else rdMany most r) = _
  rw [if_neg h]
theorem rdCnt_few (r : List UInt8) (most : Int) (pre : Bool) (h : most < 3) : rdCnt (47 :: r) most pre = (0, 0, 3) := by
  show (if most < 3 then (0, 0, 3) else rdMany most r) = _
  rw [if_pos h]
def resC (x : Int × Int × Int) : Value := .tuple #[.int .i64 x.1, .int .i64 x.2.1, .int .i64 x.2.2]
theorem u8_eq {c d : UInt8} (h : c.toNat = d.toNat) : c = d := UInt8.toNat.inj h

set_option maxHeartbeats 1000000 in
theorem segmentCount_any (s : List UInt8) (most : Int) (pre : Bool) (w : World) (hm : s.length ≤ 9223372036854775000) (h0 : 0 ≤ most) (h255 : most ≤ 255) :
    Calls Try.prog 37 #[.string ⟨s.toArray⟩, .int .i64 most, .bool pre] w fun e w' => e = .returned (resC (rdCnt s most pre)) ∧ w = w' := by
  match s, hm with
  | [], _ =>
    go_enter Try.func37, Try.ntmps37
    go_wp2_with fail
    go_ret3
    exact ⟨rfl, rfl⟩
  | c :: r, hm =>
    by_cases c0 : c = 0
    · subst c0
      cases pre
      · go_enter Try.func37, Try.ntmps37
        go_wp2_with fail
        go_ret3
        exact ⟨rfl, rfl⟩
      · go_enter Try.func37, Try.ntmps37
        go_wp2_with fail
        go_ret3
        exact ⟨rfl, rfl⟩
    · by_cases c46 : c = 46
      · subst c46
        have HR : Hid (rdCnt (46 :: r) most pre = if most < 2 then (0, 0, 3) else (2, 1, 0)) := Lib.hid rfl
        by_cases h2 : most < 2
        · go_enter Try.func37, Try.ntmps37
          go_wp2_with fail
          go_ret3
          exact ⟨by rw [HR.out, if_pos (by omega)]; rfl, rfl⟩
        · go_enter Try.func37, Try.ntmps37
          go_wp2_with fail
          go_ret3
          exact ⟨by rw [HR.out, if_neg (by omega)]; rfl, rfl⟩
      · by_cases c47 : c = 47
        · subst c47
          by_cases h3 : most < 3
          · have HR : Hid (rdCnt (47 :: r) most pre = (0, 0, 3)) := Lib.hid (rdCnt_few _ _ _ h3)
            go_enter Try.func37, Try.ntmps37
            go_wp2_with fail
            go_ret3
            exact ⟨by rw [HR.out]; rfl, rfl⟩
          · match r, hm with
            | [], hm =>
              have HR : Hid (rdCnt [47] most pre = (0, 0, 4)) := Lib.hid (rdCnt_many _ _ _ h3)
              go_enter Try.func37, Try.ntmps37
              go_wp2_with fail
              go_ret3
              exact ⟨by rw [HR.out]; rfl, rfl⟩
            | d :: t, hm =>
              have HR : Hid (rdCnt (47 :: d :: t) most pre = if d.toNat < 3 then (0, 0, 3) else if most < d.toNat then (0, 0, 3) else ((d.toNat : Int), 2, 0)) := Lib.hid (rdCnt_many _ _ _ h3)
              have hd := d.toNat_lt
              by_cases hd3 : d.toNat < 3
              · have hd3' : (d.toNat : Int) < 3 := by omega
                go_enter Try.func37, Try.ntmps37
                go_wp2_with fail
                go_ret3
                exact ⟨by rw [HR.out, if_pos (by omega)]; rfl, rfl⟩
              · have hd3' : ¬ (d.toNat : Int) < 3 := by omega
                by_cases hmo : most < d.toNat
                · go_enter Try.func37, Try.ntmps37
                  go_wp2_with fail
                  go_ret3
                  exact ⟨by rw [HR.out, if_neg (by omega), if_pos (by omega)]; rfl, rfl⟩
                · go_enter Try.func37, Try.ntmps37
                  go_wp2_with fail
                  go_ret3
                  exact ⟨by rw [HR.out, if_neg (by omega), if_neg (by omega)]; rfl, rfl⟩
        · have n0 : ¬ c.toNat = 0 := fun h => c0 (u8_eq h)
          have n46 : ¬ c.toNat = 46 := fun h => c46 (u8_eq h)
          have n47 : ¬ c.toNat = 47 := fun h => c47 (u8_eq h)
          have e0 : ¬ (c.toNat : Int) = 0 := by omega
          have e46 : ¬ (c.toNat : Int) = 46 := by omega
          have e47 : ¬ (c.toNat : Int) = 47 := by omega
          have HR : Hid (rdCnt (c :: r) most pre = if most < 1 then (0, 0, 3) else (1, 0, 0)) := Lib.hid (by rw [rdCnt, if_neg n0, if_neg n46, if_neg n47])
          by_cases h1 : most < 1
          · go_enter Try.func37, Try.ntmps37
            go_wp2_with fail
            go_ret3
            exact ⟨by rw [HR.out, if_pos (by omega)]; rfl, rfl⟩
          · go_enter Try.func37, Try.ntmps37
            go_wp2_with fail
            go_ret3
            exact ⟨by rw [HR.out, if_neg (by omega)]; rfl, rfl⟩
end Go.Proofs.Ytihfhkpglfobfaa
