/- ReadPath: the walk. -/
import Derived.Test.YtihfhkpglfobfaaRsegA
namespace Go.Proofs.Ytihfhkpglfobfaa
open Go.RowKit
attribute [local go_sem] conv1 conv2 ByteArray.mk_append_mk get_mk cut_mk cut_end

theorem ret_rpath (tmps : Array Value) (w : World) (b : Nat) (c0 c1 c2 : Value) (h2 : tmps.getD 2 undef = .pointer (some ⟨b, 0, none⟩)) (hb : w.heap[b]? = some (.cells #[c0, c1, c2] 45 (0, 0))) :
    (results Try.f27 tmps).run Try.prog w = .ok (.tuple #[.agg #[c0, c1, c2], tmps.getD 3 undef, tmps.getD 4 undef]) w := by
  have e0 : w.cell? ⟨b, 0, none⟩ = some c0 := (cell_of_row w _ 0 _ _ _ hb).trans rfl
  have e1 : w.cell? ⟨b, 1, none⟩ = some c1 := (cell_of_row w _ 1 _ _ _ hb).trans rfl
  have e2 : w.cell? ⟨b, 2, none⟩ = some c2 := (cell_of_row w _ 2 _ _ _ hb).trans rfl
  have h2' : tmps[2]?.getD undef = .pointer (some ⟨b, 0, none⟩) := by rw [← h2]; simp
  simp [results]
  go_simp
theorem rsegment_e (s : List UInt8) (l : List UInt8) (e : Nat) (H : Hid (rdSeg s = (l, e))) (w : World) (hm : s.length ≤ 9223372036854775000) :
    Calls Try.prog 39 #[.string ⟨s.toArray⟩] w fun e' w' => e' = .returned (.tuple #[.string ⟨l.toArray⟩, .int .i64 e]) ∧ Below w.heap.size w w' :=
  (rsegment_any s w hm).mono fun _ _ ⟨he, hw⟩ => ⟨by rw [he, refSeg_eq, H.out]; rfl, hw⟩
theorem rootOf_ne {s : List UInt8} (h : s ≠ []) : ∃ c r, s = c :: r := by
  cases s with
  | nil => exact absurd rfl h
  | cons c r => exact ⟨c, r, rfl⟩
theorem PathAt.below {w w1 w2 : World} {root : Bool} {up : Int} {v : Value} (h : PathAt w w1 root up v) (hb : Below w1.heap.size w1 w2) : PathAt w w2 root up v := by
  have hl := h.lt
  exact ⟨(hb.block _ (by omega)).trans h.1, (hb.block _ (by omega)).trans h.2.1, h.2.2.trans (hb.mono (by omega))⟩
/-- What the switch leaves: the position i and the count v. -/
def SwRel (s : List UInt8) (up pos : Nat) (i v : Value) : Prop :=
  ∃ n m : Nat, v = .int .i64 n ∧ i = .int .i64 ((pos : Int) + m) ∧ pos + m ≤ s.length ∧ n ≤ 255 ∧ Hid (rdCnt (s.drop pos) (32 - up) (decide (0 < pos)) = if 32 < up + n ∨ (n = 0 ∧ pos = 0) then (0, 0, 3) else ((n : Int), (m : Int), 0))
theorem sw_zero {s r : List UInt8} {up pos : Nat} (h32 : ¬ 32 < up) (hd : s.drop pos = 0 :: r) : rdCnt (s.drop pos) (32 - up) (decide (0 < pos)) = if 32 < up + 0 ∨ (0 = 0 ∧ pos = 0) then (0, 0, 3) else (((0 : Nat) : Int), ((1 : Nat) : Int), 0) := by
  rw [hd, rdCnt, if_pos (by decide)]
  by_cases h : pos = 0
  · rw [if_neg (by simp [h]), if_pos (.inr ⟨rfl, h⟩)]
  · rw [if_pos (by simp; omega), if_neg (by omega)]; rfl
theorem sw_two {s r : List UInt8} {up pos : Nat} (hd : s.drop pos = 46 :: r) : rdCnt (s.drop pos) (32 - up) (decide (0 < pos)) = if 32 < up + 2 ∨ (2 = 0 ∧ pos = 0) then (0, 0, 3) else (((2 : Nat) : Int), ((1 : Nat) : Int), 0) := by
  rw [hd, rdCnt, if_neg (by decide), if_pos (by decide)]
  by_cases h : 32 < up + 2
  · rw [if_pos (by omega), if_pos (.inl h)]
  · rw [if_neg (by omega), if_neg (by omega)]; rfl
theorem sw_many {s r : List UInt8} {up pos : Nat} {d : UInt8} (h32 : ¬ 32 < up) (hd : s.drop pos = 47 :: d :: r) (h3 : ¬ d.toNat < 3) : rdCnt (s.drop pos) (32 - up) (decide (0 < pos)) = if 32 < up + d.toNat ∨ (d.toNat = 0 ∧ pos = 0) then (0, 0, 3) else ((d.toNat : Int), ((2 : Nat) : Int), 0) := by
  rw [hd, rdCnt, if_neg (by decide), if_neg (by decide), if_pos (by decide)]
  by_cases h : 32 < up + d.toNat
  · have e : (if 32 < up + d.toNat ∨ (d.toNat = 0 ∧ pos = 0) then ((0, 0, 3) : Int × Int × Int) else ((d.toNat : Int), ((2 : Nat) : Int), 0)) = (0, 0, 3) := if_pos (.inl h)
    rw [e]
    by_cases h5 : (32 : Int) - up < 3
    · rw [if_pos h5]
    · rw [if_neg h5, rdMany, if_neg h3, if_pos (by omega)]
  · rw [if_neg (by omega), if_neg (by omega), rdMany, if_neg h3, if_neg (by omega)]; rfl
theorem sw_one {s r : List UInt8} {up pos : Nat} {c : UInt8} (hd : s.drop pos = c :: r) (h0 : ¬ c.toNat = 0) (h1 : ¬ c.toNat = 46) (h2 : ¬ c.toNat = 47) : rdCnt (s.drop pos) (32 - up) (decide (0 < pos)) = if 32 < up + 1 ∨ (1 = 0 ∧ pos = 0) then (0, 0, 3) else (((1 : Nat) : Int), ((0 : Nat) : Int), 0) := by
  rw [hd, rdCnt, if_neg h0, if_neg h1, if_neg h2]
  by_cases h : 32 < up + 1
  · rw [if_pos (by omega), if_pos (.inl h)]
  · rw [if_neg (by omega), if_neg (by omega)]; rfl
theorem sw_few {s : List UInt8} {root : Bool} {up pos : Nat} {d : UInt8} {r : List UInt8} (h32 : ¬ 32 < up) (hd : s.drop pos = 47 :: d :: r) (h3 : d.toNat < 3) : pathRest s root up pos = badPath 3 := by
  refine rest_bad (a := 0) (b := 0) (c := 3) h32 ?_ (by decide)
  rw [hd, rdCnt, if_neg (by decide), if_neg (by decide), if_pos (by decide)]
  split
  · rfl
  · rw [rdMany, if_pos h3]
theorem sw_end3 {s : List UInt8} {root : Bool} {up pos : Nat} (h32 : ¬ 32 < up) (hd : s.drop pos = [47]) (h3 : 32 < up + 3) : pathRest s root up pos = badPath 3 := by
  refine rest_bad (a := 0) (b := 0) (c := 3) h32 ?_ (by decide)
  rw [hd, rdCnt, if_neg (by decide), if_neg (by decide), if_pos (by decide), if_pos (by omega)]
theorem sw_end4 {s : List UInt8} {root : Bool} {up pos : Nat} (h32 : ¬ 32 < up) (hd : s.drop pos = [47]) (h3 : ¬ 32 < up + 3) : pathRest s root up pos = badPath 4 := by
  refine rest_bad (a := 0) (b := 0) (c := 4) h32 ?_ (by decide)
  rw [hd, rdCnt, if_neg (by decide), if_neg (by decide), if_pos (by decide), if_neg (by omega)]; rfl
set_option maxRecDepth 100000 in
set_option maxHeartbeats 4000000 in
theorem rpath_any (s : List UInt8) (w : World) (hm : s.length ≤ 9223372036854774000) : Calls Try.prog 27 #[.string ⟨s.toArray⟩] w (PathPost w (rdPath s)) := by
  have HR := Lib.hid (rdPath_eq s)
  have hple := posOf_le s
  have hule := upOf_le s (rootOf s)
  have HU : Hid (upOf s (rootOf s) = if rootOf s = true then 0 else carets s) := Lib.hid rfl
  have HQ : Hid (posOf s (rootOf s) = if rootOf s = true then 1 else carets s) := Lib.hid rfl
  have HO : Hid (s ≠ [] → ∀ h : 0 < s.length, rootOf s = ((s[0].toNat : Int) == 92)) := Lib.hid (by
    intro hne h
    obtain ⟨c, r, rfl⟩ := rootOf_ne hne
    show (c == 92) = ((c.toNat : Int) == 92)
    rw [Bool.eq_iff_iff, beq_iff_eq, beq_iff_eq]
    constructor
    · intro h; rw [h]; rfl
    · intro h; exact UInt8.toNat.inj (Int.ofNat.inj h))
  have HO0 : Hid (s = [] → rootOf s = false) := Lib.hid (by rintro rfl; rfl)
  generalize upOf s (rootOf s) = up at *
  generalize posOf s (rootOf s) = pos at *
  generalize rootOf s = root at *
  go_enter Try.func27, Try.ntmps27
  go_upto_region 3 with fail
  go_cut [18] (fun z wx => z = .bool root ∧ Hid (PathAt w wx false 0 (.slice none 0 0)))
  case first =>
    by_cases hne : s = []
    · have h0 := HO0.out hne
      subst hne
      subst h0
      go_wp2_with fail
      go_meet
      exact ⟨rfl, Lib.hid (PathAt.start w)⟩
    · have hpos : 0 < s.length := List.length_pos_iff.2 hne
      have h0 := HO.out hne hpos
      have hie : s.isEmpty = false := by cases s with
        | nil => exact absurd rfl hne
        | cons _ _ => rfl
      have H0 := Lib.hid h0
      clear h0 hne
      go_wp2_with fail
      go_meet
      exact ⟨by rw [H0.out], Lib.hid (PathAt.start w)⟩
  case rest =>
    obtain ⟨rfl, HP⟩ := hcut
    obtain ⟨w1, rfl⟩ : ∃ x : World, x = wc := ⟨_, rfl⟩
    clear HO HO0
    go_upto_if 18 with fail
    go_cut [6] (fun i wx => i = .int .i64 (if root = true then 1 else 0) ∧ Hid (PathAt w wx root 0 (.slice none 0 0)))
    case first =>
      have f0 := HP.out.free 0
      have c0 := HP.out.cells.1
      cases root
      · go_wp2_with fail
        go_meet
        exact ⟨rfl, HP⟩
      · go_wp2_with fail
        go_meet
        exact ⟨rfl, Lib.hid (HP.out.root true)⟩
    case rest =>
      obtain ⟨rfl, HP1⟩ := hcut
      clear HP
      obtain ⟨w2, rfl⟩ : ∃ x : World, x = wc := ⟨_, rfl⟩
      go_upto_block 0 with fail
      go_cut [6] (fun i wx => i = .int .i64 pos ∧ Hid (PathAt w wx root up (.slice none 0 0)))
      case first =>
        cases root
        · have HQ' : Hid (pos = carets s) := HQ
          have HU' : Hid (up = carets s) := HU
          clear HQ HU HR
          go_wp2_with fail
          go_loopw [6] (fun i wr => ∃ k : Nat, i = .int .i64 k ∧ k ≤ s.length ∧ Hid (carets s = k + carets (s.drop k)) ∧ Hid (PathAt w wr false k (.slice none 0 0))) (fun i _ => s.length - (intOf i).toNat)
          case atStart => exact ⟨0, rfl, Nat.zero_le _, Lib.hid (by simp), HP1⟩
          case round =>
            obtain ⟨k, rfl, hk, HC, HP⟩ := hrel
            obtain ⟨c0, c1, c2⟩ := HP.out.cells
            have f1 := HP.out.free 1
            by_cases hl : k < s.length
            · by_cases h94 : s[k].toNat = 94
              · have h94' : (s[k].toNat : Int) = 94 := by omega
                go_wp2_with fail
                go_roundw
                case rel => exact ⟨k + 1, by go_num, by omega, Lib.hid (by rw [HC.out, carets_yes s k hl h94]), Lib.hid (HP.out.up _)⟩
                case measure => simp [intOf]; omega
              · have h94' : ¬ (s[k].toNat : Int) = 94 := by omega
                have HK : Hid (carets s = k) := Lib.hid (by rw [HC.out, carets_no s k hl h94]; omega)
                go_wp2_with fail
                go_meet
                exact ⟨by rw [HQ'.out, HK.out], Lib.hid (by rw [HU'.out, HK.out]; exact HP.out)⟩
            · have HK : Hid (carets s = k) := Lib.hid (by rw [HC.out, List.drop_eq_nil_of_le (by omega)]; rfl)
              go_wp2_with fail
              go_meet
              exact ⟨by rw [HQ'.out, HK.out], Lib.hid (by rw [HU'.out, HK.out]; exact HP.out)⟩
        · have HQ' : Hid (pos = 1) := HQ
          have HU' : Hid (up = 0) := HU
          clear HQ HU HR
          have c0 := HP1.out.cells.1
          go_wp2_with fail
          refine wp_loop_rounds 1 ?_
          rw [rounds_succ]
          go_wp2_with fail
          go_meet
          exact ⟨by rw [HQ'.out]; rfl, Lib.hid (by rw [HU'.out]; exact HP1.out)⟩
      case rest =>
        obtain ⟨rfl, HP⟩ := hcut
        obtain ⟨w3, rfl⟩ : ∃ x : World, x = wc := ⟨_, rfl⟩
        have HZ : Hid ((decide (pos = 0)) = (!root && decide (up = 0))) := Lib.hid (by
          rw [HQ.out, HU.out]
          cases root <;> simp)
        clear HP1 HU HQ
        obtain ⟨c0, c1, c2⟩ := HP.out.cells
        have f2 := HP.out.free 2
        obtain ⟨r0, r1, r2⟩ := HP.out.res
        have g0 := HP.out.resFree 0
        have g1 := HP.out.resFree 1
        have g2 := HP.out.resFree 2
        by_cases h32 : 32 < up
        · have h32' : (32 : Int) < up := by omega
          have HR2 : Hid (rdPath s = badPath 3) := Lib.hid (by rw [HR.out, pathRest, if_pos h32])
          go_wp2_with fail
          exact bodyPost_ret (ret_rpath _ _ _ _ _ _ rfl (HP.out.put _ _ _).1) rfl (bad_post HP.out s 3 HR2.out)
        · have h32' : ¬ (32 : Int) < up := by omega
          by_cases hend : pos = s.length
          · have HR2 : Hid (rdPath s = badPath 4) := Lib.hid (by rw [HR.out, rest_bad (a := 0) (b := 0) (c := 4) h32 (by rw [List.drop_eq_nil_of_le (by omega)]; rfl) (by decide)]; rfl)
            have hend' : ((pos : Int) == s.length) = true := by rw [beq_iff_eq]; omega
            clear hend
            go_wp2_with fail
            exact bodyPost_ret (ret_rpath _ _ _ _ _ _ rfl (HP.out.put _ _ _).1) rfl (bad_post HP.out s 4 HR2.out)
          · have hend' : ((pos : Int) == s.length) = false := by rw [beq_eq_false_iff_ne]; omega
            have hlt : pos < s.length := by omega
            have hdr : Hid (s.drop pos = s[pos] :: s.drop (pos + 1)) := Lib.hid (List.drop_eq_getElem_cons hlt)
            clear hend
            go_upto_block 2 with fail
            go_cut [6, 7] (fun i v wx => SwRel s up pos i v ∧ w3 = wx)
            case first =>
              obtain ⟨c, hc⟩ : ∃ c, s[pos] = c := ⟨_, rfl⟩
              have hcl := c.toNat_lt
              have hci : s[pos]'hlt = c := hc
              have HD : Hid (s.drop pos = c :: s.drop (pos + 1)) := Lib.hid (by rw [hdr.out, hc])
              clear hdr
              by_cases c0 : c.toNat = 0
              · obtain rfl : c = 0 := UInt8.toNat.inj c0
                go_wp2_with fail
                go_meet
                exact ⟨⟨0, 1, rfl, by go_num, by omega, by omega, Lib.hid (sw_zero h32 HD.out)⟩, rfl⟩
              · by_cases c46 : c.toNat = 46
                · obtain rfl : c = 46 := UInt8.toNat.inj c46
                  go_wp2_with fail
                  go_meet
                  exact ⟨⟨2, 1, rfl, by go_num, by omega, by omega, Lib.hid (sw_two HD.out)⟩, rfl⟩
                · by_cases c47 : c.toNat = 47
                  · obtain rfl : c = 47 := UInt8.toNat.inj c47
                    by_cases he : pos + 1 = s.length
                    · have HD2 : Hid (s.drop pos = [47]) := Lib.hid (by rw [HD.out, List.drop_eq_nil_of_le (by omega)])
                      have he' : ((pos : Int) + 1 == s.length) = true := by rw [beq_iff_eq]; omega
                      clear he
                      by_cases h3 : 32 < up + 3
                      · have h3' : (32 : Int) < (up : Int) + 3 := by omega
                        have HR2 : Hid (rdPath s = badPath 3) := Lib.hid (HR.out.trans (sw_end3 h32 HD2.out h3))
                        go_wp2_with fail
                        exact bodyPost_ret (ret_rpath _ _ _ _ _ _ rfl (HP.out.put _ _ _).1) rfl (bad_post HP.out s 3 HR2.out)
                      · have h3' : ¬ (32 : Int) < (up : Int) + 3 := by omega
                        have HR2 : Hid (rdPath s = badPath 4) := Lib.hid (HR.out.trans (sw_end4 h32 HD2.out h3))
                        go_wp2_with fail
                        exact bodyPost_ret (ret_rpath _ _ _ _ _ _ rfl (HP.out.put _ _ _).1) rfl (bad_post HP.out s 4 HR2.out)
                    · have hlt2 : pos + 1 < s.length := by omega
                      have he' : ((pos : Int) + 1 == s.length) = false := by rw [beq_eq_false_iff_ne]; omega
                      clear he
                      obtain ⟨d, hd⟩ : ∃ d, s[pos + 1] = d := ⟨_, rfl⟩
                      have hdl := d.toNat_lt
                      have HD2 : Hid (s.drop pos = 47 :: d :: s.drop (pos + 1 + 1)) := Lib.hid (by rw [HD.out, List.drop_eq_getElem_cons hlt2, hd])
                      by_cases h3 : d.toNat < 3
                      · have h3' : (d.toNat : Int) < 3 := by omega
                        have HR2 : Hid (rdPath s = badPath 3) := Lib.hid (HR.out.trans (sw_few h32 HD2.out h3))
                        go_wp2_with fail
                        exact bodyPost_ret (ret_rpath _ _ _ _ _ _ rfl (HP.out.put _ _ _).1) rfl (bad_post HP.out s 3 HR2.out)
                      · have h3' : ¬ (d.toNat : Int) < 3 := by omega
                        go_wp2_with fail
                        go_meet
                        exact ⟨⟨d.toNat, 2, rfl, by go_num, by omega, by omega, Lib.hid (sw_many h32 HD2.out h3)⟩, rfl⟩
                  · have e0 : ¬ (c.toNat : Int) = 0 := by omega
                    have e46 : ¬ (c.toNat : Int) = 46 := by omega
                    have e47 : ¬ (c.toNat : Int) = 47 := by omega
                    go_wp2_with fail
                    go_meet
                    exact ⟨⟨1, 0, rfl, by go_num, by omega, by omega, Lib.hid (sw_one HD.out c0 c46 c47)⟩, rfl⟩
            case rest =>
              obtain ⟨⟨n, m, rfl, rfl, hpm, hn, HC⟩, rfl⟩ := hcut
              clear hdr hend' hlt g0 g1 g2 r0 r1 r2 f2 c2
              obtain ⟨r0, r1, r2⟩ := HP.out.res
              have g0 := HP.out.resFree 0
              have g1 := HP.out.resFree 1
              have g2 := HP.out.resFree 2
              have HB : Hid (decide (32 < up + n ∨ (n = 0 ∧ pos = 0)) = (decide (32 < up + n) || (decide (n = 0) && (!root && decide (up = 0))))) := Lib.hid (by rw [← HZ.out]; simp)
              clear HZ
              go_upto_region 28 with fail
              go_cut [115] (fun z wx => z = .bool (decide (32 < up + n ∨ (n = 0 ∧ pos = 0))) ∧ w3 = wx)
              case first =>
                by_cases h1 : 32 < up + n
                · have h1' : (32 : Int) < (up : Int) + n := by omega
                  have HB2 : Hid (decide (32 < up + n ∨ (n = 0 ∧ pos = 0)) = true) := Lib.hid (by rw [HB.out, decide_eq_true h1]; rfl)
                  go_wp2_with fail
                  go_meet
                  exact ⟨by rw [HB2.out], rfl⟩
                · have h1' : ¬ (32 : Int) < (up : Int) + n := by omega
                  by_cases hn0 : n = 0
                  · subst hn0
                    cases root
                    · by_cases hu : up = 0
                      · have hu' : ((up : Int) == 0) = true := by rw [beq_iff_eq]; omega
                        have HB2 : Hid (decide (32 < up + 0 ∨ (0 = 0 ∧ pos = 0)) = true) := Lib.hid (by rw [HB.out, decide_eq_true hu]; simp)
                        clear hu
                        go_wp2_with fail
                        go_meet
                        exact ⟨by rw [HB2.out], rfl⟩
                      · have hu' : ((up : Int) == 0) = false := by rw [beq_eq_false_iff_ne]; omega
                        have HB2 : Hid (decide (32 < up + 0 ∨ (0 = 0 ∧ pos = 0)) = false) := Lib.hid (by rw [HB.out, decide_eq_false hu, decide_eq_false h1]; rfl)
                        clear hu
                        go_wp2_with fail
                        go_meet
                        exact ⟨by rw [HB2.out], rfl⟩
                    · have HB2 : Hid (decide (32 < up + 0 ∨ (0 = 0 ∧ pos = 0)) = false) := Lib.hid (by rw [HB.out, decide_eq_false h1]; rfl)
                      go_wp2_with fail
                      go_meet
                      exact ⟨by rw [HB2.out], rfl⟩
                  · have hn0' : ((n : Int) == 0) = false := by rw [beq_eq_false_iff_ne]; omega
                    have HB2 : Hid (decide (32 < up + n ∨ (n = 0 ∧ pos = 0)) = false) := Lib.hid (by rw [HB.out, decide_eq_false h1, decide_eq_false hn0]; rfl)
                    clear hn0
                    go_wp2_with fail
                    go_meet
                    exact ⟨by rw [HB2.out], rfl⟩
              case rest =>
                obtain ⟨rfl, rfl⟩ := hcut
                clear HB
                by_cases hbad : 32 < up + n ∨ (n = 0 ∧ pos = 0)
                · have HR2 : Hid (rdPath s = badPath 3) := Lib.hid (by rw [HR.out, rest_bad h32 (HC.out.trans (if_pos hbad)) (by decide)]; rfl)
                  rw [decide_eq_true hbad]
                  clear hbad
                  go_wp2_with fail
                  exact bodyPost_ret (ret_rpath _ _ _ _ _ _ rfl (HP.out.put _ _ _).1) rfl (bad_post HP.out s 3 HR2.out)
                · have HR2 : Hid _ := Lib.hid (HR.out.trans (rest_ok h32 (HC.out.trans (if_neg hbad))))
                  simp only [Int.toNat_natCast] at HR2
                  rw [decide_eq_false hbad]
                  clear hbad HR HC c0 c1 r0 r1 r2 g0 g1 g2
                  go_wp2_with fail
                  go_loopw [6, 8] (fun i6 i62 wr => SegRel w s root up n (pos + m) i6 i62 wr) (fun _ i _ => n - (intOf i).toNat)
                  case atStart => exact ⟨0, pos + m, [], _, by go_num, rfl, Nat.zero_le _, hpm, rfl, Lib.hid rfl, HP, Lib.hid (World.ownsRow_nil _ _ _ _)⟩
                  case round =>
                    obtain ⟨k, p, acc, v, rfl, rfl, hk, hp, hacc, HG, HP2, HO2⟩ := hrel
                    have HA := Lib.hid hacc
                    have hal : acc.length ≤ n := by omega
                    clear hacc HP
                    by_cases hlt : k < n
                    · obtain ⟨⟨l, e⟩, hsg⟩ : ∃ x, x = rdSeg (s.drop p) := ⟨_, rfl⟩
                      have HS : Hid (rdSeg (s.drop p) = (l, e)) := Lib.hid hsg.symm
                      clear hsg
                      go_wp2_with fail
                      ((with_reducible refine (rsegment_e (s.drop p) l e HS _ (by rw [List.length_drop]; omega)).mono ?_))
                      rintro e' w4 ⟨rfl, hb4⟩
                      have HP : Hid (PathAt w w4 root up v) := Lib.hid (HP2.out.below hb4)
                      have HO : Hid (w4.ownsRow (w.heap.size + 2) 9 1 v acc.length (acc.map strV)) := Lib.hid (own_below HO2.out hb4)
                      clear hb4 HP2 HO2
                      have c2 := HP.out.cells.2.2
                      have f2 := HP.out.free 2
                      obtain ⟨r0, r1, r2⟩ := HP.out.res
                      have g0 := HP.out.resFree 0
                      have g1 := HP.out.resFree 1
                      have g2 := HP.out.resFree 2
                      by_cases he : e = 0
                      · subst he
                        have h4 : p + 4 ≤ s.length := by
                          have := rdSeg_len (s.drop p) (by rw [HS.out])
                          rw [List.length_drop] at this
                          omega
                        obtain ⟨i0, hi, hz0, hz1, hz2⟩ := info_parts Try.info9
                        have hba : w.heap.size + 2 ≤ (w4.alloc (.cells #[.string ⟨l.toArray⟩] 9)).heap.size := by have := HP.out.lt; simp; omega
                        go_wp2_with (at_builtin; refine wpList_append_lies _ rfl _ _ 43 rfl (w.heap.size + 2) 9 i0 _ 1 16 Try.underlying43 hi hz0 hz1 hz2 rfl (by omega) v acc.length _ rfl (HO.out.alloc _) ⟨w4.heap.size, 0, none⟩ 1 1 [.string ⟨l.toArray⟩] rfl rfl (World.news_of_block (heap_alloc_new w4 _)) (by intro u hu; simp at hu; subst hu; rfl) (by omega) (by unfold maxLen; omega) (by omega) hba _ rfl ?_; intro g cap w5 hown hgrow hat hlt5; have H1 := Lib.hid hown; have H2 := Lib.hid hgrow; have HP5 : Hid (PathAt w w5 root up v) := Lib.hid ((HP.out.alloc _).grown hgrow (fun k hk => (HO.out.lt k hk).1)); have f5 := HP5.out.free 2; have c5 := HP5.out.cells.2.2; clear hown hgrow hat hlt5 r0 r1 r2 g0 g1 g2 c2 f2)
                        go_roundw
                        case rel => exact seg_step hlt HA.out HG HP HO HS h4 H1 H2
                        case measure => simp [intOf]; omega
                      · have he' : ((e : Int) != 0) = true := by simpa using he
                        have HR3 : Hid (rdPath s = badPath e) := Lib.hid (by rw [HR2.out, HG.out, show n - k = (n - k - 1) + 1 by omega, segsGo_bad HS.out he, if_neg he])
                        go_wp2_with fail
                        exact bodyPost_ret (ret_rpath _ _ _ _ _ _ rfl (HP.out.put _ _ _).1) rfl (bad_post HP.out s _ HR3.out)
                    · obtain rfl : k = n := by omega
                      have HR3 : Hid (rdPath s = ⟨root, up, acc, p, 0⟩) := Lib.hid (by rw [HR2.out, HG.out, Nat.sub_self]; rfl)
                      obtain ⟨va, vn, vc, rfl⟩ := own_form HO2.out
                      obtain ⟨c0, c1, c2⟩ := HP2.out.cells
                      obtain ⟨r0, r1, r2⟩ := HP2.out.res
                      have g0 := HP2.out.resFree 0
                      have g1 := HP2.out.resFree 1
                      have g2 := HP2.out.resFree 2
                      go_wp2_with fail
                      exact bodyPost_ret (ret_rpath _ _ _ _ _ _ rfl (HP2.out.put _ _ _).1) rfl (good_post HP2.out HO2.out s HR3.out)
end Go.Proofs.Ytihfhkpglfobfaa
