/- Re Rf -/
import Derived.Test.YtoohondkpddmcaaGreatDoorVbg
import Derived.Test.YtoohondkpddmcaaGreatDoorVbh
set_option linter.unusedVariables false
set_option linter.unusedSimpArgs false
namespace Go.Proofs.YtoohondkpddmcaaGreatDoor
section
open Go.RowKit
attribute [local go_sem] ByteArray.mk_append_mk bs_get bs_cut bs_end
theorem splitD_uno {s x : List UInt8} (h : splitD s = [x]) : x = s:=by
 obtain ⟨a,y,h1,h2,h3⟩:=splitD_cut s
 rcases h3 with ⟨rfl,h4⟩ | ⟨t,rfl,h4⟩
 ·rw [h] at h4
  injection h4 with h4 _
  rw [h1,h4,List.append_nil]
 ·rw [h] at h4
  injection h4 with _ h5
  exact absurd h5.symm (splitD_ne t)
theorem splitD_nodot {s : List UInt8} (h : ∀ c ∈ s,c ≠ 46) : splitD s = [s]:=by
 obtain ⟨a,y,h1,h2,h3⟩:=splitD_cut s
 rcases h3 with ⟨rfl,h4⟩ | ⟨t,rfl,h4⟩
 ·rw [h4,h1,List.append_nil]
 ·exact absurd rfl (h 46 (by rw [h1]; simp))
theorem idB_no {c : UInt8} (h : idB c = true) : c ≠ 46 ∧ c ≠ 92 ∧ c ≠ 94:=by
 refine ⟨?_,?_,?_⟩ <;> (rintro rfl; revert h; decide)
theorem singB_seg {s : List UInt8} (h : parOk s = true) : singB s = segB s:=by
 have hv:=h
 unfold parOk at hv
 have hsg:=validB_segs hv
 rw [Bool.eq_iff_iff]
 constructor
 ·intro hs
  unfold singB at hs
  simp only [Bool.and_eq_true,Bool.not_eq_true',decide_eq_true_eq] at hs
  obtain ⟨⟨h1,h2⟩,h3⟩:=hs
  have hr : parRest s = s:=by
   unfold parUp at h2
   rw [h1] at h2
   unfold parRest
   rw [h1]
   simp only [Bool.false_eq_true,if_false] at h2 ⊢
   cases s with
   | nil => rfl
   | cons c q =>
     by_cases hc : (c == 94) = true
     ·rw [List.takeWhile_cons,if_pos hc] at h2; simp at h2
     ·rw [List.dropWhile_cons,if_neg hc]
  unfold parSegs at h3 hsg
  rw [hr] at h3 hsg
  by_cases h0 : s = []
  ·rw [if_pos h0] at h3; simp at h3
  ·rw [if_neg h0] at h3 hsg
   obtain ⟨x,hx⟩:=List.length_eq_one_iff.1 h3
   have:=splitD_uno hx
   subst this
   exact hsg x (by rw [hx]; simp)
 ·intro hs
  cases s with
  | nil => cases hs
  | cons c q =>
    have hall : ∀ d ∈ c :: q,idB d = true:=by
     unfold segB at hs
     simp only [Bool.and_eq_true] at hs
     exact List.all_eq_true.1 hs.1.2
    have hc:=idB_no (hall c (by simp))
    have h92 : parRoot (c :: q) = false:=by
     unfold parRoot
     rw [hasPre_cons,beq_eq_false_iff_ne]
     exact fun e => hc.2.1 e.symm
    have h94 : (c == (94 : UInt8)) = false:=by rw [beq_eq_false_iff_ne]; exact hc.2.2
    have hu : parUp (c :: q) = 0:=by
     unfold parUp
     rw [h92,List.takeWhile_cons,h94]
     rfl
    have hr : parRest (c :: q) = c :: q:=by
     unfold parRest
     rw [h92,List.dropWhile_cons,h94]
     rfl
    unfold singB parSegs
    rw [h92,hu,hr,if_neg (by simp),splitD_nodot (fun d hd => (idB_no (hall d hd)).1)]
    rfl
theorem joinB_splitD : ∀ r : List UInt8,joinB (splitD r) = r
 | [] => by rw [splitD,joinB_one]
 | c :: s => by
   have ih:=joinB_splitD s
   by_cases hc : c = 46
   ·subst hc
    rw [splitD_dot]
    cases hs : splitD s with
    | nil => exact absurd hs (splitD_ne s)
    | cons x q => rw [hs] at ih; rw [joinB_cons,ih]; rfl
   ·cases hs : splitD s with
    | nil => exact absurd hs (splitD_ne s)
    | cons x q =>
      rw [hs] at ih
      rw [splitD_other c s hc x q hs]
      cases q with
      | nil => rw [joinB_one] at ih ⊢; rw [ih]
      | cons y z => rw [joinB_cons] at ih ⊢; rw [List.cons_append,ih]
theorem takeWhile_rep : ∀ s : List UInt8,List.replicate (s.takeWhile (· == 94)).length 94 = s.takeWhile (· == 94)
 | [] => rfl
 | c :: s => by
   by_cases hc : c = 94
   ·subst hc
    rw [List.takeWhile_cons,if_pos (show ((94 : UInt8) == 94) = true from rfl),List.length_cons,List.replicate_succ,takeWhile_rep s]
   ·rw [List.takeWhile_cons,if_neg (by simpa using hc)]; rfl
theorem join_rest (r : List UInt8) : joinB (if r = [] then [] else splitD r) = r:=by
 by_cases h : r = []
 ·rw [if_pos h,h,joinB_nil]
 ·rw [if_neg h,joinB_splitD]
theorem fmt_par {s : List UInt8} (h : parOk s = true) : fmtV (parRoot s) (parUp s) (parSegs s) = s:=by
 unfold fmtV
 rw [if_pos (by exact h)]
 unfold fmtB parSegs
 rw [join_rest]
 cases hr : parRoot s with
 | true =>
   unfold parRest
   rw [hr,if_pos rfl,if_pos rfl]
   cases s with
   | nil => cases hr
   | cons c t =>
     unfold parRoot at hr
     rw [hasPre_cons] at hr
     rw [← beq_iff_eq.1 hr]
     rfl
 | false =>
   unfold parUp parRest
   rw [hr]
   simp only [Bool.false_eq_true,if_false,Int.toNat_natCast]
   rw [takeWhile_rep,List.takeWhile_append_dropWhile]
end
section
open Go.RowKit
attribute [local go_sem] ByteArray.mk_append_mk bs_get bs_cut bs_end
theorem per_110 (op : Int) (w : World) : Calls Tryz.prog 53 #[.int .u8 110,.int .i64 op] w fun e w' => e = .returned (.bool (accB 110 op)) ∧ w = w':=by
 rw [show accB 110 op = (op == 3) from rfl]
 go_enter Tryz.func53,Tryz.ntmps53
 go_wp2_with fail
 all_goals
  go_ret
  exact ⟨by first | (simp [*]; done) | (refine boolOf ?_; rw [Bool.eq_iff_iff]; simp only [Bool.or_eq_true,Bool.and_eq_true,Bool.not_eq_true',Bool.or_eq_false_iff,beq_iff_eq,bne_iff_ne,decide_eq_true_eq,beq_eq_false_iff_ne,ne_eq,Bool.true_eq_false,Bool.false_eq_true,false_and,and_false,true_and,and_true,false_or,or_false,true_or,or_true,iff_true,true_iff,iff_false,false_iff]; omega),rfl⟩
theorem per_115 (op : Int) (w : World) : Calls Tryz.prog 53 #[.int .u8 115,.int .i64 op] w fun e w' => e = .returned (.bool (accB 115 op)) ∧ w = w':=by
 rw [show accB 115 op = (op == 3) from rfl]
 go_enter Tryz.func53,Tryz.ntmps53
 go_wp2_with fail
 all_goals
  go_ret
  exact ⟨by first | (simp [*]; done) | (refine boolOf ?_; rw [Bool.eq_iff_iff]; simp only [Bool.or_eq_true,Bool.and_eq_true,Bool.not_eq_true',Bool.or_eq_false_iff,beq_iff_eq,bne_iff_ne,decide_eq_true_eq,beq_eq_false_iff_ne,ne_eq,Bool.true_eq_false,Bool.false_eq_true,false_and,and_false,true_and,and_true,false_or,or_false,true_or,or_true,iff_true,true_iff,iff_false,false_iff]; omega),rfl⟩
theorem per_105 (op : Int) (w : World) : Calls Tryz.prog 53 #[.int .u8 105,.int .i64 op] w fun e w' => e = .returned (.bool (accB 105 op)) ∧ w = w':=by
 rw [show accB 105 op = (op == 1) from rfl]
 go_enter Tryz.func53,Tryz.ntmps53
 go_wp2_with fail
 all_goals
  go_ret
  exact ⟨by first | (simp [*]; done) | (refine boolOf ?_; rw [Bool.eq_iff_iff]; simp only [Bool.or_eq_true,Bool.and_eq_true,Bool.not_eq_true',Bool.or_eq_false_iff,beq_iff_eq,bne_iff_ne,decide_eq_true_eq,beq_eq_false_iff_ne,ne_eq,Bool.true_eq_false,Bool.false_eq_true,false_and,and_false,true_and,and_true,false_or,or_false,true_or,or_true,iff_true,true_iff,iff_false,false_iff]; omega),rfl⟩
theorem per_73 (op : Int) (w : World) : Calls Tryz.prog 53 #[.int .u8 73,.int .i64 op] w fun e w' => e = .returned (.bool (accB 73 op)) ∧ w = w':=by
 rw [show accB 73 op = (op == 1) from rfl]
 go_enter Tryz.func53,Tryz.ntmps53
 go_wp2_with fail
 all_goals
  go_ret
  exact ⟨by first | (simp [*]; done) | (refine boolOf ?_; rw [Bool.eq_iff_iff]; simp only [Bool.or_eq_true,Bool.and_eq_true,Bool.not_eq_true',Bool.or_eq_false_iff,beq_iff_eq,bne_iff_ne,decide_eq_true_eq,beq_eq_false_iff_ne,ne_eq,Bool.true_eq_false,Bool.false_eq_true,false_and,and_false,true_and,and_true,false_or,or_false,true_or,or_true,iff_true,true_iff,iff_false,false_iff]; omega),rfl⟩
theorem per_100 (op : Int) (w : World) : Calls Tryz.prog 53 #[.int .u8 100,.int .i64 op] w fun e w' => e = .returned (.bool (accB 100 op)) ∧ w = w':=by
 rw [show accB 100 op = (op == 1 || op == 2 || op == 50 || op == 51) from rfl]
 go_enter Tryz.func53,Tryz.ntmps53
 go_wp2_with fail
 all_goals
  go_ret
  exact ⟨by first | (simp [*]; done) | (refine boolOf ?_; rw [Bool.eq_iff_iff]; simp only [Bool.or_eq_true,Bool.and_eq_true,Bool.not_eq_true',Bool.or_eq_false_iff,beq_iff_eq,bne_iff_ne,decide_eq_true_eq,beq_eq_false_iff_ne,ne_eq,Bool.true_eq_false,Bool.false_eq_true,false_and,and_false,true_and,and_true,false_or,or_false,true_or,or_true,iff_true,true_iff,iff_false,false_iff]; omega),rfl⟩
theorem per_80 (op : Int) (w : World) : Calls Tryz.prog 53 #[.int .u8 80,.int .i64 op] w fun e w' => e = .returned (.bool (accB 80 op)) ∧ w = w':=by
 rw [show accB 80 op = ((op == 1 || op == 2 || op == 50 || op == 51) || op == 3) from rfl]
 go_enter Tryz.func53,Tryz.ntmps53
 go_wp2_with fail
 all_goals
  go_ret
  exact ⟨by first | (simp [*]; done) | (refine boolOf ?_; rw [Bool.eq_iff_iff]; simp only [Bool.or_eq_true,Bool.and_eq_true,Bool.not_eq_true',Bool.or_eq_false_iff,beq_iff_eq,bne_iff_ne,decide_eq_true_eq,beq_eq_false_iff_ne,ne_eq,Bool.true_eq_false,Bool.false_eq_true,false_and,and_false,true_and,and_true,false_or,or_false,true_or,or_true,iff_true,true_iff,iff_false,false_iff]; omega),rfl⟩
theorem per_68 (op : Int) (w : World) : Calls Tryz.prog 53 #[.int .u8 68,.int .i64 op] w fun e w' => e = .returned (.bool (accB 68 op)) ∧ w = w':=by
 rw [show accB 68 op = (decide (10 ≤ op) && decide (op ≤ 21) && !(op == 18 || op == 19)) from rfl]
 go_enter Tryz.func53,Tryz.ntmps53
 go_wp2_with fail
 all_goals
  go_ret
  exact ⟨by first | (simp [*]; done) | (refine boolOf ?_; rw [Bool.eq_iff_iff]; simp only [Bool.or_eq_true,Bool.and_eq_true,Bool.not_eq_true',Bool.or_eq_false_iff,beq_iff_eq,bne_iff_ne,decide_eq_true_eq,beq_eq_false_iff_ne,ne_eq,Bool.true_eq_false,Bool.false_eq_true,false_and,and_false,true_and,and_true,false_or,or_false,true_or,or_true,iff_true,true_iff,iff_false,false_iff]; omega),rfl⟩
theorem per_70 (op : Int) (w : World) : Calls Tryz.prog 53 #[.int .u8 70,.int .i64 op] w fun e w' => e = .returned (.bool (accB 70 op)) ∧ w = w':=by
 rw [show accB 70 op = (op == 18 || op == 19) from rfl]
 go_enter Tryz.func53,Tryz.ntmps53
 go_wp2_with fail
 all_goals
  go_ret
  exact ⟨by first | (simp [*]; done) | (refine boolOf ?_; rw [Bool.eq_iff_iff]; simp only [Bool.or_eq_true,Bool.and_eq_true,Bool.not_eq_true',Bool.or_eq_false_iff,beq_iff_eq,bne_iff_ne,decide_eq_true_eq,beq_eq_false_iff_ne,ne_eq,Bool.true_eq_false,Bool.false_eq_true,false_and,and_false,true_and,and_true,false_or,or_false,true_or,or_true,iff_true,true_iff,iff_false,false_iff]; omega),rfl⟩
theorem per_83 (op : Int) (w : World) : Calls Tryz.prog 53 #[.int .u8 83,.int .i64 op] w fun e w' => e = .returned (.bool (accB 83 op)) ∧ w = w':=by
 rw [show accB 83 op = ((decide (30 ≤ op) && decide (op ≤ 42)) || op == 5) from rfl]
 go_enter Tryz.func53,Tryz.ntmps53
 go_wp2_with fail
 all_goals
  go_ret
  exact ⟨by first | (simp [*]; done) | (refine boolOf ?_; rw [Bool.eq_iff_iff]; simp only [Bool.or_eq_true,Bool.and_eq_true,Bool.not_eq_true',Bool.or_eq_false_iff,beq_iff_eq,bne_iff_ne,decide_eq_true_eq,beq_eq_false_iff_ne,ne_eq,Bool.true_eq_false,Bool.false_eq_true,false_and,and_false,true_and,and_true,false_or,or_false,true_or,or_true,iff_true,true_iff,iff_false,false_iff]; omega),rfl⟩
theorem per_116 (op : Int) (w : World) : Calls Tryz.prog 53 #[.int .u8 116,.int .i64 op] w fun e w' => e = .returned (.bool (accB 116 op)) ∧ w = w':=by
 rw [show accB 116 op = (op == 3 || op == 6 || op == 7 || op == 76 || op == 84) from rfl]
 go_enter Tryz.func53,Tryz.ntmps53
 go_wp2_with fail
 all_goals
  go_ret
  exact ⟨by first | (simp [*]; done) | (refine boolOf ?_; rw [Bool.eq_iff_iff]; simp only [Bool.or_eq_true,Bool.and_eq_true,Bool.not_eq_true',Bool.or_eq_false_iff,beq_iff_eq,bne_iff_ne,decide_eq_true_eq,beq_eq_false_iff_ne,ne_eq,Bool.true_eq_false,Bool.false_eq_true,false_and,and_false,true_and,and_true,false_or,or_false,true_or,or_true,iff_true,true_iff,iff_false,false_iff]; omega),rfl⟩
theorem per_101 (op : Int) (w : World) : Calls Tryz.prog 53 #[.int .u8 101,.int .i64 op] w fun e w' => e = .returned (.bool (accB 101 op)) ∧ w = w':=by
 rw [show accB 101 op = (op == 3 || op == 5 || op == 6 || op == 7 || op == 41 || op == 42 || (op == 1 || op == 2 || op == 50 || op == 51) || (decide (60 ≤ op) && decide (op ≤ 88))) from rfl]
 go_enter Tryz.func53,Tryz.ntmps53
 go_wp2_with fail
 all_goals
  go_ret
  exact ⟨by first | (simp [*]; done) | (refine boolOf ?_; rw [Bool.eq_iff_iff]; simp only [Bool.or_eq_true,Bool.and_eq_true,Bool.not_eq_true',Bool.or_eq_false_iff,beq_iff_eq,bne_iff_ne,decide_eq_true_eq,beq_eq_false_iff_ne,ne_eq,Bool.true_eq_false,Bool.false_eq_true,false_and,and_false,true_and,and_true,false_or,or_false,true_or,or_true,iff_true,true_iff,iff_false,false_iff]; omega),rfl⟩
theorem per_none (k : UInt8) (op : Int) (w : World) (h110 : k ≠ 110) (h115 : k ≠ 115) (h105 : k ≠ 105) (h73 : k ≠ 73) (h100 : k ≠ 100) (h80 : k ≠ 80) (h68 : k ≠ 68) (h70 : k ≠ 70) (h83 : k ≠ 83) (h116 : k ≠ 116) (h101 : k ≠ 101) : Calls Tryz.prog 53 #[.int .u8 k.toNat,.int .i64 op] w fun e w' => e = .returned (.bool false) ∧ w = w':=by
 have e110 : ((k.toNat : Int) == 110) = false:=(byte_int k 110).trans (beq_eq_false_iff_ne.2 h110)
 have e115 : ((k.toNat : Int) == 115) = false:=(byte_int k 115).trans (beq_eq_false_iff_ne.2 h115)
 have e105 : ((k.toNat : Int) == 105) = false:=(byte_int k 105).trans (beq_eq_false_iff_ne.2 h105)
 have e73 : ((k.toNat : Int) == 73) = false:=(byte_int k 73).trans (beq_eq_false_iff_ne.2 h73)
 have e100 : ((k.toNat : Int) == 100) = false:=(byte_int k 100).trans (beq_eq_false_iff_ne.2 h100)
 have e80 : ((k.toNat : Int) == 80) = false:=(byte_int k 80).trans (beq_eq_false_iff_ne.2 h80)
 have e68 : ((k.toNat : Int) == 68) = false:=(byte_int k 68).trans (beq_eq_false_iff_ne.2 h68)
 have e70 : ((k.toNat : Int) == 70) = false:=(byte_int k 70).trans (beq_eq_false_iff_ne.2 h70)
 have e83 : ((k.toNat : Int) == 83) = false:=(byte_int k 83).trans (beq_eq_false_iff_ne.2 h83)
 have e116 : ((k.toNat : Int) == 116) = false:=(byte_int k 116).trans (beq_eq_false_iff_ne.2 h116)
 have e101 : ((k.toNat : Int) == 101) = false:=(byte_int k 101).trans (beq_eq_false_iff_ne.2 h101)
 clear h110 h115 h105 h73 h100 h80 h68 h70 h83 h116 h101
 go_enter Tryz.func53,Tryz.ntmps53
 go_wp2_with fail
 all_goals
  go_ret
  exact ⟨rfl,rfl⟩
theorem per_any (k : UInt8) (op : Int) (w : World) : Calls Tryz.prog 53 #[.int .u8 k.toNat,.int .i64 op] w fun e w' => e = .returned (.bool (accB k op)) ∧ w = w':=by
 by_cases h110 : k = 110
 ·subst h110; exact per_110 op w
 by_cases h115 : k = 115
 ·subst h115; exact per_115 op w
 by_cases h105 : k = 105
 ·subst h105; exact per_105 op w
 by_cases h73 : k = 73
 ·subst h73; exact per_73 op w
 by_cases h100 : k = 100
 ·subst h100; exact per_100 op w
 by_cases h80 : k = 80
 ·subst h80; exact per_80 op w
 by_cases h68 : k = 68
 ·subst h68; exact per_68 op w
 by_cases h70 : k = 70
 ·subst h70; exact per_70 op w
 by_cases h83 : k = 83
 ·subst h83; exact per_83 op w
 by_cases h116 : k = 116
 ·subst h116; exact per_116 op w
 by_cases h101 : k = 101
 ·subst h101; exact per_101 op w
 have e : accB k op = false:=by unfold accB; simp only [h110,h115,h105,h73,h100,h80,h68,h70,h83,h116,h101,or_self,if_false]
 rw [e]
 exact per_none k op w h110 h115 h105 h73 h100 h80 h68 h70 h83 h116 h101
theorem per_is (k : UInt8) (op : Int) (b : Bool) (H : Hid (accB k op = b)) (w : World) : Calls Tryz.prog 53 #[.int .u8 k.toNat,.int .i64 op] w fun e w' => e = .returned (.bool b) ∧ w = w':=by
 have:=per_any k op w
 rw [H.out] at this
 exact this
theorem rblk_any (k : UInt8) (w : World) : Calls Tryz.prog 64 #[.int .u8 k.toNat] w fun e w' => e = .returned (.bool (blkR k)) ∧ w = w':=by
 have h1:=byte_int k 68
 have h2:=byte_int k 83
 have h3:=byte_int k 70
 have h4:=byte_int k 73
 have h5:=byte_int k 80
 unfold blkR
 rw [← h1,← h2,← h3,← h4,← h5]
 clear h1 h2 h3 h4 h5
 go_enter Tryz.func64,Tryz.ntmps64
 go_wp2_with fail
 all_goals
  go_ret
  exact ⟨by simp [*],rfl⟩
theorem rblk_is (k : UInt8) (b : Bool) (H : Hid (blkR k = b)) (w : World) : Calls Tryz.prog 64 #[.int .u8 k.toNat] w fun e w' => e = .returned (.bool b) ∧ w = w':=by
 have:=rblk_any k w
 rw [H.out] at this
 exact this
theorem rsingle_is (s : List UInt8) (b : Bool) (H : Hid (segB s = b)) (w : World) (hs : s.length ≤ 9223372036854775000) : Calls Tryz.prog 139 #[.string ⟨s.toArray⟩] w fun e w' => e = .returned (.bool b) ∧ w = w':=by
 have HS:=Lib.hid (segmentB_is s b H w hs)
 go_enter Tryz.func139,Tryz.ntmps139
 go_wp2_with fail
 ((with_reducible refine HS.out.mono ?_))
 rintro e w1 ⟨rfl,rfl⟩
 go_wp2_with fail
 go_ret
 exact ⟨rfl,rfl⟩
end
end Go.Proofs.YtoohondkpddmcaaGreatDoor
