/- Bs Lex Tka -/
import Derived.Test.YtoohondkpddmcaaGreatDoorProg
import Derived.WalkKit
import Derived.WalkLawsBesides
import Derived.WalkSpells
import Derived.WalkSmall
import Derived.OneCell
import Derived.Lib.Hide
import Derived.Deep.QuietTactic
import Derived.BigQuiet
import Derived.Deep.AppendLies
import Derived.Deep.CutBlock
import Derived.Deep.DeepCutAuto
set_option linter.unusedVariables false
set_option linter.unusedSimpArgs false
namespace Go.Proofs.YtoohondkpddmcaaGreatDoor
section
open Go.RowKit
theorem bs_get (l : List UInt8) (i : Nat) (h : i < (ByteArray.mk l.toArray).size) : (ByteArray.mk l.toArray)[i] = l[i]'(by have:=h; simp only [ByteArray.size_mk',List.size_toArray] at this; exact this):=rfl
theorem bs_cut (l : List UInt8) (a b : Nat) : (ByteArray.mk l.toArray).extract a b = ⟨((l.drop a).take (b - a)).toArray⟩:=by
 apply ByteArray.ext
 simp [ByteArray.data_extract]
theorem bs_end (s : List UInt8) (p : Nat) : List.take (s.length - p) (List.drop p s) = List.drop p s:=by rw [← List.length_drop,List.take_length]
theorem bel_new {w w2 : World} {o : Obj} (hb : Below (w.heap.size + 1) (w.alloc o) w2) : w2.heap[w.heap.size]? = some o :=
 (hb.block _ (by omega)).trans (heap_alloc_new w _)
theorem cells3 {w : World} {b t : Nat} {c0 c1 c2 : Value} (h : w.heap[b]? = some (.cells #[c0,c1,c2] t (0,0))) : w.cell? ⟨b,0,none⟩ = some c0 ∧ w.cell? ⟨b,1,none⟩ = some c1 ∧ w.cell? ⟨b,2,none⟩ = some c2 :=
 ⟨(cell_of_row w _ 0 _ _ _ h).trans rfl,(cell_of_row w _ 1 _ _ _ h).trans rfl,(cell_of_row w _ 2 _ _ _ h).trans rfl⟩
theorem own_below {w w' : World} {B e z : Nat} {v : Value} {n : Nat} {xs : List Value} (h : w.ownsRow B e z v n xs) (hb : Below w.heap.size w w') : w'.ownsRow B e z v n xs:=by
 obtain ⟨hl,hv⟩:=h
 refine ⟨hl,?_⟩
 rcases hv with hv | ⟨g,cap,cur,h1,h2,h3,h4⟩
 ·exact .inl hv
 ·exact .inr ⟨g,cap,cur,h1,h2,(hb.block g (lt_of_block h3)).trans h3,h4⟩
theorem own_base {w : World} {B B' e z : Nat} {v : Value} {n : Nat} {xs : List Value} (h : w.ownsRow B e z v n xs) (hB : B' ≤ B) : w.ownsRow B' e z v n xs:=by
 obtain ⟨hl,hv⟩:=h
 refine ⟨hl,?_⟩
 rcases hv with hv | ⟨g,cap,cur,h1,h2,h3,h4⟩
 ·exact .inl hv
 ·exact .inr ⟨g,cap,cur,h1,by omega,h3,h4⟩
theorem own_setCell {w : World} {B e z : Nat} {v : Value} {n : Nat} {xs : List Value} (h : w.ownsRow B e z v n xs) (p : Addr) (u : Value) (hp : p.block < B) : (w.setCell p u).ownsRow B e z v n xs:=by
 obtain ⟨hl,hv⟩:=h
 refine ⟨hl,?_⟩
 rcases hv with hv | ⟨g,cap,cur,h1,h2,h3,h4⟩
 ·exact .inl hv
 ·refine .inr ⟨g,cap,cur,h1,h2,?_,h4⟩
  rw [heap_setCell_other _ _ _ _ (by omega)]
  exact h3
theorem blk_alloc {w : World} {b : Nat} {o : Obj} (h : w.heap[b]? = some o) (o' : Obj) : (w.alloc o').heap[b]? = some o:=(Below.heap_alloc w o' b (lt_of_block h)).trans h
theorem blk_grown {w w' : World} {b : Nat} {o : Obj} {row : Option Nat} (h : w.heap[b]? = some o) (hg : w.grownBy w' row) (hne : some b ≠ row) : w'.heap[b]? = some o:=(hg.block b (lt_of_block h) hne).trans h
theorem blk_below {w w' : World} {b : Nat} {o : Obj} (h : w.heap[b]? = some o) (hb : Below w.heap.size w w') : w'.heap[b]? = some o:=(hb.block b (lt_of_block h)).trans h
theorem blk_other {w : World} {b : Nat} {o : Obj} (h : w.heap[b]? = some o) (p : Addr) (u : Value) (hp : b ≠ p.block) : (w.setCell p u).heap[b]? = some o:=(heap_setCell_other w p b u hp).trans h
theorem free3 {w : World} {b t : Nat} {cs : Array Value} (h : w.heap[b]? = some (.cells cs t (0,0))) (j : Nat) : w.frozen? ⟨b,j,none⟩ = false:=frozen_of_row _ _ _ _ _ h
theorem bel_then {B : Nat} {w w1 w2 : World} (h : Below B w w1) (hB : B ≤ w.heap.size) (k : Below w1.heap.size w1 w2) : Below B w w2:=h.trans (k.mono (Nat.le_trans hB h.size))
theorem cells4 {w : World} {b t : Nat} {c0 c1 c2 c3 : Value} (h : w.heap[b]? = some (.cells #[c0,c1,c2,c3] t (0,0))) : w.cell? ⟨b,0,none⟩ = some c0 ∧ w.cell? ⟨b,1,none⟩ = some c1 ∧ w.cell? ⟨b,2,none⟩ = some c2 ∧ w.cell? ⟨b,3,none⟩ = some c3 :=
 ⟨(cell_of_row w _ 0 _ _ _ h).trans rfl,(cell_of_row w _ 1 _ _ _ h).trans rfl,(cell_of_row w _ 2 _ _ _ h).trans rfl,(cell_of_row w _ 3 _ _ _ h).trans rfl⟩
theorem cell_old {w : World} {a : Addr} {v : Value} (h : w.cell? a = some v) (o : Obj) : (w.alloc o).cell? a = some v :=
 (World.cell?_of_block (w:=w) (Below.heap_alloc w o a.block (World.block_lt_of_cell? w a h))).trans h
theorem put4 {w : World} {b t : Nat} {c0 c1 c2 c3 : Value} (h : w.heap[b]? = some (.cells #[c0,c1,c2,c3] t (0,0))) (a0 a1 a2 a3 : Value) :
  ((((w.setCell ⟨b,0,none⟩ a0).setCell ⟨b,1,none⟩ a1).setCell ⟨b,2,none⟩ a2).setCell ⟨b,3,none⟩ a3).heap[b]? = some (.cells #[a0,a1,a2,a3] t (0,0)):=by
 have e0:=(heap_setCell_same w _ 0 _ _ a0 h)
 have e1:=(heap_setCell_same _ _ 1 _ _ a1 e0)
 have e2:=(heap_setCell_same _ _ 2 _ _ a2 e1)
 exact (heap_setCell_same _ _ 3 _ _ a3 e2).trans rfl
theorem bel4 {B : Nat} {w w1 : World} {b : Nat} (h : Below B w w1) (hb : B ≤ b) (a0 a1 a2 a3 : Value) : Below B w ((((w1.setCell ⟨b,0,none⟩ a0).setCell ⟨b,1,none⟩ a1).setCell ⟨b,2,none⟩ a2).setCell ⟨b,3,none⟩ a3) :=
 (((h.setCell hb _).setCell hb _).setCell hb _).setCell hb _
theorem bel_alloc {w w1 : World} {o : Obj} (h : Below (w.alloc o).heap.size (w.alloc o) w1) : Below w.heap.size w w1 ∧ w1.heap[w.heap.size]? = some o:=by
 have h' : Below (w.heap.size + 1) (w.alloc o) w1:=by simpa using h
 exact ⟨((Below.refl _ _).alloc (Nat.le_refl _) o).trans (h'.mono (by omega)),bel_new h'⟩
theorem own_row {w : World} {B e z : Nat} {v : Value} {n : Nat} {xs : List Value} (h : w.ownsRow B e z v n xs) {k : Nat} (hk : v.ownBlock = some k) : B ≤ k:=by
 rcases h.2 with ⟨rfl,_⟩ | ⟨g,cap,cur,rfl,hg,_⟩
 ·cases hk
 ·injection hk with hk; subst hk; exact hg
theorem own_grown {w w' : World} {B e z : Nat} {v : Value} {n : Nat} {xs : List Value} {row : Option Nat} (h : w.ownsRow B e z v n xs) (hg : w.grownBy w' row) (hp : ∀ g,v.ownBlock = some g → row ≠ some g) : w'.ownsRow B e z v n xs:=by
 refine ⟨h.1,?_⟩
 rcases h.2 with h0 | ⟨g,cap,cur,rfl,hg',hb,h3⟩
 ·exact .inl h0
 ·exact .inr ⟨g,cap,cur,rfl,hg',blk_grown hb hg (fun e => hp g rfl e.symm),h3⟩
theorem own_type {w : World} {B e z : Nat} {v : Value} {n : Nat} {xs : List Value} (h : w.ownsRow B e z v n xs) {g : Nat} (hg : v.ownBlock = some g) : ∃ cur,w.heap[g]? = some (.cells cur e (0,0)):=by
 rcases h.2 with ⟨rfl,_⟩ | ⟨g',cap,cur,rfl,_,hb,_⟩
 ·cases hg
 ·injection hg with hg
  subst hg
  exact ⟨cur,hb⟩
end
section
open Go.RowKit
attribute [local go_sem] ByteArray.mk_append_mk bs_get bs_cut bs_end
def letterB (c : UInt8) : Bool:=decide ((97 ≤ c.toNat ∧ c.toNat ≤ 122) ∨ (65 ≤ c.toNat ∧ c.toNat ≤ 90) ∨ c.toNat = 95)
def digitB (c : UInt8) : Bool:=decide (48 ≤ c.toNat ∧ c.toNat ≤ 57)
def idB (c : UInt8) : Bool:=letterB c || digitB c
def smallB (c : UInt8) : Bool:=decide (97 ≤ c.toNat ∧ c.toNat ≤ 122)
def lowerB (s : List UInt8) : Bool:=s.any smallB
def idEnd (s : List UInt8) (i : Nat) : Nat:=i + ((s.drop i).takeWhile idB).length
def segB : List UInt8 → Bool
 | [] => false
 | c :: r => decide (r.length ≤ 3) && letterB c && (c :: r).all idB && !lowerB (c :: r)
theorem boolOf {a b : Bool} (h : a = b) : Ending.returned (.bool a) = .returned (.bool b):=by rw [h]
theorem letter_any (c : UInt8) (w : World) : Calls Tryz.prog 189 #[.int .u8 c.toNat] w fun e w' => e = .returned (.bool (letterB c)) ∧ w = w':=by
 have hc:=c.toNat_lt
 unfold letterB
 generalize c.toNat = n at *
 by_cases h1 : 97 ≤ n ∧ n ≤ 122
 ·obtain ⟨ha,hb⟩:=h1
  have ha' : (97 : Int) ≤ n:=by omega
  have hb' : (n : Int) ≤ 122:=by omega
  have HR:=Lib.hid (show true = decide ((97 ≤ n ∧ n ≤ 122) ∨ (65 ≤ n ∧ n ≤ 90) ∨ n = 95) by rw [eq_comm,decide_eq_true_eq]; omega)
  generalize decide ((97 ≤ n ∧ n ≤ 122) ∨ (65 ≤ n ∧ n ≤ 90) ∨ n = 95) = R at *
  go_enter Tryz.func189,Tryz.ntmps189
  go_wp2_with fail
  go_ret
  exact ⟨boolOf HR.out,rfl⟩
 ·by_cases h2 : 65 ≤ n ∧ n ≤ 90
  ·obtain ⟨ha,hb⟩:=h2
   have ha' : (65 : Int) ≤ n:=by omega
   have hb' : (n : Int) ≤ 90:=by omega
   have hc' : ¬ (97 : Int) ≤ n:=by omega
   have HR:=Lib.hid (show true = decide ((97 ≤ n ∧ n ≤ 122) ∨ (65 ≤ n ∧ n ≤ 90) ∨ n = 95) by rw [eq_comm,decide_eq_true_eq]; omega)
   generalize decide ((97 ≤ n ∧ n ≤ 122) ∨ (65 ≤ n ∧ n ≤ 90) ∨ n = 95) = R at *
   go_enter Tryz.func189,Tryz.ntmps189
   go_wp2_with fail
   go_ret
   exact ⟨boolOf HR.out,rfl⟩
  ·have HR : Hid (((n : Int) == 95) = decide ((97 ≤ n ∧ n ≤ 122) ∨ (65 ≤ n ∧ n ≤ 90) ∨ n = 95)):=Lib.hid (by
    rw [Bool.eq_iff_iff,beq_iff_eq,decide_eq_true_eq]; omega)
   generalize decide ((97 ≤ n ∧ n ≤ 122) ∨ (65 ≤ n ∧ n ≤ 90) ∨ n = 95) = R at *
   by_cases h3 : 97 ≤ n
   ·have h3' : (97 : Int) ≤ n:=by omega
    have h4' : ¬ (n : Int) ≤ 122:=by omega
    have h5' : ¬ (n : Int) ≤ 90:=by omega
    have h6' : (65 : Int) ≤ n:=by omega
    go_enter Tryz.func189,Tryz.ntmps189
    go_wp2_with fail
    go_ret
    exact ⟨boolOf HR.out,rfl⟩
   ·have h3' : ¬ (97 : Int) ≤ n:=by omega
    by_cases h4 : 65 ≤ n
    ·have h4' : (65 : Int) ≤ n:=by omega
     have h5' : ¬ (n : Int) ≤ 90:=by omega
     go_enter Tryz.func189,Tryz.ntmps189
     go_wp2_with fail
     go_ret
     exact ⟨boolOf HR.out,rfl⟩
    ·have h4' : ¬ (65 : Int) ≤ n:=by omega
     go_enter Tryz.func189,Tryz.ntmps189
     go_wp2_with fail
     go_ret
     exact ⟨boolOf HR.out,rfl⟩
theorem digit_any (c : UInt8) (w : World) : Calls Tryz.prog 197 #[.int .u8 c.toNat] w fun e w' => e = .returned (.bool (digitB c)) ∧ w = w':=by
 have hc:=c.toNat_lt
 unfold digitB
 generalize c.toNat = n at *
 have HR : Hid (decide ((n : Int) ≤ 57) = decide (48 ≤ n ∧ n ≤ 57) ∨ ¬ 48 ≤ n):=Lib.hid (by
  by_cases h : 48 ≤ n
  ·left; rw [Bool.eq_iff_iff,decide_eq_true_eq,decide_eq_true_eq]; omega
  ·right; exact h)
 have HF : Hid (¬ 48 ≤ n → false = decide (48 ≤ n ∧ n ≤ 57)):=Lib.hid (fun h => by rw [eq_comm,decide_eq_false_iff_not]; omega)
 generalize decide (48 ≤ n ∧ n ≤ 57) = R at *
 by_cases h : 48 ≤ n
 ·have h' : (48 : Int) ≤ n:=by omega
  go_enter Tryz.func197,Tryz.ntmps197
  go_wp2_with fail
  go_ret
  exact ⟨boolOf (HR.out.resolve_right (fun x => x h)),rfl⟩
 ·have h' : ¬ (48 : Int) ≤ n:=by omega
  go_enter Tryz.func197,Tryz.ntmps197
  go_wp2_with fail
  go_ret
  exact ⟨boolOf (HF.out h),rfl⟩
theorem idEnd_at (s : List UInt8) (i : Nat) (h : i < s.length) : idEnd s i = if idB s[i] = true then idEnd s (i + 1) else i:=by
 unfold idEnd
 rw [List.drop_eq_getElem_cons h,List.takeWhile_cons]
 split
 ·rw [List.length_cons]; omega
 ·rfl
theorem idEnd_out (s : List UInt8) (i : Nat) (h : s.length ≤ i) : idEnd s i = i:=by
 unfold idEnd
 rw [List.drop_eq_nil_of_le h]; rfl
theorem ident_any (s : List UInt8) (i : Nat) (w : World) (hs : s.length ≤ 9223372036854775000) (hi : i ≤ 9223372036854775000) :
  Calls Tryz.prog 190 #[.string ⟨s.toArray⟩,.int .i64 i] w fun e w' => e = .returned (.int .i64 (idEnd s i : Nat)) ∧ w = w':=by
 go_enter Tryz.func190,Tryz.ntmps190
 go_wp2_with fail
 go_loop [1] (fun v => ∃ k : Nat,v = .int .i64 k ∧ k ≤ 9223372036854775000 ∧ idEnd s i = idEnd s k) (fun v => s.length - (intOf v).toNat)
 case atStart => exact ⟨i,rfl,hi,rfl⟩
 case round =>
  obtain ⟨k,rfl,hk,he⟩:=hrel
  have HE:=Lib.hid he
  clear he
  by_cases hl : k < s.length
  ·have hat:=Lib.hid (idEnd_at s k hl)
   by_cases h1 : letterB s[k] = true
   ·have hid : Hid (idB s[k] = true):=Lib.hid (by unfold idB; rw [h1] <;> rfl)
    go_wp2_with (go_at_call 189; refine (letter_any _ _).mono ?_; rintro e w' ⟨rfl,rfl⟩)
    go_round
    case rel => exact ⟨k + 1,by go_num,by omega,by rw [HE.out,hat.out,if_pos hid.out]⟩
    case measure => simp [intOf]; omega
   ·have h1' : letterB s[k] = false:=by simpa using h1
    clear h1
    by_cases h2 : digitB s[k] = true
    ·have hid : Hid (idB s[k] = true):=Lib.hid (by unfold idB; rw [h2]; simp)
     go_wp2_with (first | (go_at_call 189; refine (letter_any _ _).mono ?_; rintro e w' ⟨rfl,rfl⟩) | (go_at_call 197; refine (digit_any _ _).mono ?_; rintro e w' ⟨rfl,rfl⟩))
     go_round
     case rel => exact ⟨k + 1,by go_num,by omega,by rw [HE.out,hat.out,if_pos hid.out]⟩
     case measure => simp [intOf]; omega
    ·have h2' : digitB s[k] = false:=by simpa using h2
     clear h2
     have hid : Hid (idEnd s i = k):=Lib.hid (by rw [HE.out,hat.out,if_neg (by unfold idB; rw [h1',h2']; decide)])
     go_wp2_with (first | (go_at_call 189; refine (letter_any _ _).mono ?_; rintro e w' ⟨rfl,rfl⟩) | (go_at_call 197; refine (digit_any _ _).mono ?_; rintro e w' ⟨rfl,rfl⟩))
     go_ret
     exact ⟨by rw [hid.out]; rfl,rfl⟩
  ·have hid : Hid (idEnd s i = k):=Lib.hid (by rw [HE.out,idEnd_out s k (by omega)])
   go_wp2_with fail
   go_ret
   exact ⟨by rw [hid.out]; rfl,rfl⟩
theorem ident_0 (s : List UInt8) (w : World) (hs : s.length ≤ 9223372036854775000) :
 Calls Tryz.prog 190 #[.string ⟨s.toArray⟩,.int .i64 0] w fun e w' => e = .returned (.int .i64 (idEnd s 0 : Nat)) ∧ w = w':=ident_any s 0 w hs (Nat.zero_le _)
theorem lower_any (s : List UInt8) (w : World) (hs : s.length ≤ 9223372036854775000) :
  Calls Tryz.prog 191 #[.string ⟨s.toArray⟩] w fun e w' => e = .returned (.bool (lowerB s)) ∧ w = w':=by
 go_enter Tryz.func191,Tryz.ntmps191
 go_wp2_with fail
 go_loop [3] (fun v => ∃ k : Nat,v = .int .i64 k ∧ k ≤ s.length ∧ lowerB s = (s.drop k).any smallB) (fun v => s.length - (intOf v).toNat)
 case atStart => exact ⟨0,rfl,Nat.zero_le _,rfl⟩
 case round =>
  obtain ⟨k,rfl,hk,he⟩:=hrel
  by_cases hl : k < s.length
  ·rw [List.drop_eq_getElem_cons hl,List.any_cons] at he
   have hnl:=s[k].toNat_lt
   by_cases h1 : 97 ≤ s[k].toNat
   ·have h1' : (97 : Int) ≤ s[k].toNat:=by omega
    by_cases h2 : s[k].toNat ≤ 122
    ·have h2' : (s[k].toNat : Int) ≤ 122:=by omega
     have HE : Hid (lowerB s = true):=Lib.hid (by rw [he,show smallB s[k] = true by unfold smallB; rw [decide_eq_true_eq]; exact ⟨h1,h2⟩] <;> rfl)
     clear he
     go_wp2_with fail
     go_ret
     exact ⟨by rw [HE.out]; rfl,rfl⟩
    ·have h2' : ¬ (s[k].toNat : Int) ≤ 122:=by omega
     have HE : Hid (lowerB s = (s.drop (k + 1)).any smallB):=Lib.hid (by rw [he,show smallB s[k] = false by unfold smallB; rw [decide_eq_false_iff_not]; omega] <;> rfl)
     clear he
     go_wp2_with fail
     go_round
     case rel => exact ⟨k + 1,by go_num,by omega,HE.out⟩
     case measure => simp [intOf]; omega
   ·have h1' : ¬ (97 : Int) ≤ s[k].toNat:=by omega
    have HE : Hid (lowerB s = (s.drop (k + 1)).any smallB):=Lib.hid (by rw [he,show smallB s[k] = false by unfold smallB; rw [decide_eq_false_iff_not]; omega] <;> rfl)
    clear he
    go_wp2_with fail
    go_round
    case rel => exact ⟨k + 1,by go_num,by omega,HE.out⟩
    case measure => simp [intOf]; omega
  ·rw [List.drop_eq_nil_of_le (by omega)] at he
   have HE:=Lib.hid he
   clear he
   go_wp2_with fail
   go_ret
   exact ⟨by rw [HE.out]; rfl,rfl⟩
theorem idEnd_all (s : List UInt8) : idEnd s 0 = s.length ↔ s.all idB = true:=by
 unfold idEnd
 rw [List.drop_zero,Nat.zero_add]
 induction s with
 | nil => simp
 | cons c r ih =>
   rw [List.takeWhile_cons,List.all_cons]
   by_cases h : idB c = true
   ·rw [if_pos h,List.length_cons,List.length_cons,h,Bool.true_and,← ih]; omega
   ·rw [if_neg h]
    simp at h
    simp [h]
theorem segB_long {c : UInt8} {r : List UInt8} (h : ¬ r.length ≤ 3) : segB (c :: r) = false:=by
 rw [segB,decide_eq_false h]; rfl
theorem segB_letter {c : UInt8} {r : List UInt8} (h : letterB c = false) : segB (c :: r) = false:=by
 rw [segB,h]; simp
theorem segB_id {c : UInt8} {r : List UInt8} (h : ¬ idEnd (c :: r) 0 = (c :: r).length) : segB (c :: r) = false:=by
 rw [segB]
 rw [idEnd_all] at h
 rw [show (c :: r).all idB = false by simpa using h]; simp
theorem segB_rest {c : UInt8} {r : List UInt8} (h0 : r.length ≤ 3) (h1 : letterB c = true) (h : idEnd (c :: r) 0 = (c :: r).length) : segB (c :: r) = !lowerB (c :: r):=by
 rw [segB]
 rw [idEnd_all] at h
 rw [h,h1,decide_eq_true h0]; rfl
set_option maxHeartbeats 1000000 in
theorem segmentB_any (s : List UInt8) (w : World) (hs : s.length ≤ 9223372036854775000) :
  Calls Tryz.prog 133 #[.string ⟨s.toArray⟩] w fun e w' => e = .returned (.bool (segB s)) ∧ w = w':=by
 match s,hs with
 | [],_ =>
   go_enter Tryz.func133,Tryz.ntmps133
   go_wp2_with fail
   go_ret
   exact ⟨rfl,rfl⟩
 | c :: r,hs =>
   rw [List.length_cons] at hs
   have h1 : ((1 : Int) ≤ (r.length : Int) + 1):=by omega
   by_cases h3 : r.length ≤ 3
   ·have h3' : (r.length : Int) + 1 ≤ 4:=by omega
    by_cases hl : letterB c = true
    ·by_cases hid : idEnd (c :: r) 0 = (c :: r).length
     ·have HR:=Lib.hid (segB_rest h3 hl hid)
      have HID:=Lib.hid hid
      clear hid
      go_enter Tryz.func133,Tryz.ntmps133
      go_wp2_with fail
      ((with_reducible refine (letter_any _ _).mono ?_))
      rintro e w' ⟨rfl,rfl⟩
      rw [hl]
      go_wp2_with fail
      ((with_reducible refine (ident_0 (c :: r) _ (by rw [List.length_cons]; omega)).mono ?_))
      rintro e w' ⟨rfl,rfl⟩
      rw [HID.out]
      go_wp2_with fail
      ((with_reducible refine (lower_any (c :: r) _ (by rw [List.length_cons]; omega)).mono ?_))
      rintro e w' ⟨rfl,rfl⟩
      go_wp2_with fail
      go_ret
      exact ⟨boolOf HR.out.symm,rfl⟩
     ·have HR:=Lib.hid (segB_id hid)
      have hne : ((idEnd (c :: r) 0 : Int) == (r.length : Int) + 1) = false:=by rw [beq_eq_false_iff_ne]; rw [List.length_cons] at hid; omega
      clear hid
      go_enter Tryz.func133,Tryz.ntmps133
      go_wp2_with fail
      ((with_reducible refine (letter_any _ _).mono ?_))
      rintro e w' ⟨rfl,rfl⟩
      rw [hl]
      go_wp2_with fail
      ((with_reducible refine (ident_0 (c :: r) _ (by rw [List.length_cons]; omega)).mono ?_))
      rintro e w' ⟨rfl,rfl⟩
      go_wp2_with fail
      go_ret
      exact ⟨boolOf HR.out.symm,rfl⟩
    ·have hl' : letterB c = false:=by simpa using hl
     have HR:=Lib.hid (segB_letter (r:=r) hl')
     clear hl
     go_enter Tryz.func133,Tryz.ntmps133
     go_wp2_with fail
     ((with_reducible refine (letter_any _ _).mono ?_))
     rintro e w' ⟨rfl,rfl⟩
     rw [hl']
     go_wp2_with fail
     go_ret
     exact ⟨boolOf HR.out.symm,rfl⟩
   ·have h3' : ¬ (r.length : Int) + 1 ≤ 4:=by omega
    have HR:=Lib.hid (segB_long (c:=c) h3)
    go_enter Tryz.func133,Tryz.ntmps133
    go_wp2_with fail
    go_ret
    exact ⟨boolOf HR.out.symm,rfl⟩
theorem segmentB_is (s : List UInt8) (b : Bool) (H : Hid (segB s = b)) (w : World) (hs : s.length ≤ 9223372036854775000) :
  Calls Tryz.prog 133 #[.string ⟨s.toArray⟩] w fun e w' => e = .returned (.bool b) ∧ w = w' :=
 (segmentB_any s w hs).mono fun _ _ ⟨he,hw⟩ => ⟨by rw [he,H.out],hw⟩
end
section
open Go.RowKit
def wordN (s : List UInt8) : Nat:=(s.takeWhile idB).length
def caretN (s : List UInt8) : Nat:=(s.takeWhile (· == 94)).length
def preN : List UInt8 → Nat
 | 92 :: _ => 1
 | s => caretN s
def segsN : Nat → List UInt8 → Option Nat
 | 0,_ => none
 | _ + 1,[] => none
 | f + 1, c :: r => if letterB c = false then none else if segB ((c :: r).take (wordN (c :: r))) = false then none else
     match (c :: r).drop (wordN (c :: r)) with
     | 46 :: t => (segsN f t).map (wordN (c :: r) + 1 + ·)
     | _ => some (wordN (c :: r))
def nameN (s : List UInt8) : Option Nat :=
 match s.drop (preN s) with
 | [] => if 0 < preN s then some (preN s) else none
 | c :: r => if letterB c = true then (segsN (c :: r).length (c :: r)).map (preN s + ·) else if 0 < preN s then some (preN s) else none
def hexV (c : UInt8) : Option Nat :=
 if digitB c = true then some (c.toNat - 48) else if 97 ≤ c.toNat ∧ c.toNat ≤ 102 then some (c.toNat - 87) else if 65 ≤ c.toNat ∧ c.toNat ≤ 70 then some (c.toNat - 55) else none
def hexF : List UInt8 → Nat → Option Nat
 | [],v => some v
 | c :: r,v => match hexV c with
   | some d => hexF r (v * 16 + d)
   | none => none
def decF : List UInt8 → Nat → Option Nat
 | [],v => some v
 | c :: r,v => if digitB c = true then (if (18446744073709551615 - (c.toNat - 48)) / 10 < v then none else decF r (v * 10 + (c.toNat - 48))) else none
def intV : List UInt8 → Option Nat
 | 48 :: 120 :: d => if d = [] ∨ 16 < d.length then none else hexF d 0
 | [48] => some 0
 | 48 :: _ => none
 | s => decF s 0
def textF : List UInt8 → List UInt8 → Option (List UInt8 × List UInt8)
 | [],_ => none
 | 34 :: r,v => if 255 < v.length then none else some (v,r)
 | 92 :: 34 :: r,v => textF r (v ++ [34])
 | 92 :: 92 :: r,v => textF r (v ++ [92])
 | 92 :: 120 :: h :: l :: r,v => match hexV h,hexV l with
   | some a,some b => textF r (v ++ [UInt8.ofNat (a * 16 + b)])
   | _,_ => none
 | 92 :: _,_ => none
 | c :: r,v => if 32 ≤ c.toNat ∧ c.toNat ≤ 126 then textF r (v ++ [c]) else none
def closeL : List UInt8 → Option (List UInt8)
 | [] => none
 | 42 :: 47 :: r => some r
 | _ :: r => closeL r
def blankB (c : UInt8) : Bool:=c == 32 || c == 9 || c == 13 || c == 10
theorem closeL_len : ∀ (s r : List UInt8),closeL s = some r → r.length + 2 ≤ s.length
 | [],r,h => by simp [closeL] at h
 | 42 :: 47 :: t,r,h => by
   rw [closeL] at h
   injection h with h
   subst h
   simp
 | c :: t,r,h => by
   unfold closeL at h
   split at h
   ·cases h
   ·next heq =>
    injection heq with h1 h2
    subst h1 h2
    injection h with h
    subst h
    simp
   ·next heq =>
    injection heq with h1 h2
    subst h1 h2
    have:=closeL_len _ r h
    simp; omega
def skipF : Nat → List UInt8 → List UInt8 × Bool
 | 0,s => (s,true)
 | f + 1,s => match s with
   | [] => ([],true)
   | 47 :: 47 :: r => skipF f ((47 :: 47 :: r).dropWhile (· != 10))
   | 47 :: 42 :: r => match closeL r with
     | some t => skipF f t
     | none => (47 :: 42 :: r,false)
   | c :: r => if blankB c = true then skipF f r else (c :: r,true)
theorem dropLine_len (r : List UInt8) : ((47 :: 47 :: r : List UInt8).dropWhile (· != 10)).length ≤ r.length:=by
 have h1 : (47 :: 47 :: r : List UInt8).dropWhile (· != 10) = r.dropWhile (· != 10):=by simp
 rw [h1]
 exact (List.dropWhile_sublist _).length_le
theorem skipF_fuel : ∀ (f g : Nat) (s : List UInt8),s.length < f → s.length < g → skipF f s = skipF g s
 | 0,_,_,h,_ => absurd h (by omega)
 | _ + 1,0,_,_,h => absurd h (by omega)
 | f + 1,g + 1,s,h1,h2 => by
   unfold skipF
   split
   ·rfl
   ·next r =>
    have:=dropLine_len r
    simp only [List.length_cons] at h1 h2
    exact skipF_fuel f g _ (by omega) (by omega)
   ·next r =>
    simp only [List.length_cons] at h1 h2
    split
    ·next t ht =>
     have:=closeL_len r t ht
     exact skipF_fuel f g _ (by omega) (by omega)
    ·rfl
   ·next c r _ _ =>
    simp only [List.length_cons] at h1 h2
    split
    ·exact skipF_fuel f g _ (by omega) (by omega)
    ·rfl
def skipL (s : List UInt8) : List UInt8 × Bool:=skipF (s.length + 1) s
theorem skipL_line (r : List UInt8) : skipL (47 :: 47 :: r) = skipL ((47 :: 47 :: r : List UInt8).dropWhile (· != 10)):=by
 have:=dropLine_len r
 unfold skipL
 rw [skipF]
 exact skipF_fuel _ _ _ (by simp only [List.length_cons]; omega) (by omega)
theorem skipL_block {r t : List UInt8} (h : closeL r = some t) : skipL (47 :: 42 :: r) = skipL t:=by
 have:=closeL_len r t h
 unfold skipL
 rw [skipF]
 simp only [h]
 exact skipF_fuel _ _ _ (by simp only [List.length_cons]; omega) (by omega)
theorem skipL_open {r : List UInt8} (h : closeL r = none) : skipL (47 :: 42 :: r) = (47 :: 42 :: r,false):=by
 unfold skipL
 rw [skipF]
 simp only [h]
theorem skipL_blank {c : UInt8} {r : List UInt8} (h : blankB c = true) : skipL (c :: r) = skipL r:=by
 have hc : c ≠ 47:=by rintro rfl; cases h
 unfold skipL
 rw [skipF]
 ·rw [if_pos h]
  exact skipF_fuel _ _ _ (by simp) (by omega)
 ·intro x e _; exact hc e
 ·intro x e _; exact hc e
theorem skipL_stop {c : UInt8} {r : List UInt8} (h : blankB c = false) (h2 : c = 47 → ∀ t,r ≠ 47 :: t ∧ r ≠ 42 :: t) : skipL (c :: r) = (c :: r,true):=by
 unfold skipL
 rw [skipF]
 ·rw [if_neg (by rw [h]; decide)]
 ·intro x e1 e2; exact (h2 e1 x).1 e2
 ·intro x e1 e2; exact (h2 e1 x).2 e2
structure Tok where
 kind : Nat
 num : Nat
 str : List UInt8
 pos : Nat
deriving DecidableEq
def punctK (c : UInt8) : Nat:=if c = 40 then 5 else if c = 41 then 6 else if c = 123 then 7 else if c = 125 then 8 else if c = 44 then 9 else 0
def itemL : List UInt8 → Option (Nat × Nat × List UInt8 × Nat)
 | [] => none
 | c :: r =>
   if digitB c = true then (intV ((c :: r).take (wordN (c :: r)))).map fun v => (3,v,[],wordN (c :: r))
   else if letterB c = true then
    (if lowerB ((c :: r).take (wordN (c :: r))) = true then (if wordN (c :: r) ≤ 32 then some (2,0,(c :: r).take (wordN (c :: r)),wordN (c :: r)) else none)
     else (nameN (c :: r)).map fun m => (1,0,(c :: r).take m,m))
   else if c = 92 ∨ c = 94 then (nameN (c :: r)).map fun m => (1,0,(c :: r).take m,m)
   else if c = 34 then (textF r []).map fun p => (4,0,p.1,(c :: r).length - p.2.length)
   else if punctK c = 0 then none else some (punctK c,0,[],1)
def scanF (s : List UInt8) : Nat → Nat → List Tok → List Tok × Nat × Nat
 | 0,_,acc => (acc,0,0)
 | f + 1,p,acc =>
   if (skipL (s.drop p)).2 = false then ([],s.length - (skipL (s.drop p)).1.length,2)
   else if (skipL (s.drop p)).1 = [] then (acc,0,0)
   else match itemL (skipL (s.drop p)).1 with
    | none => ([],s.length - (skipL (s.drop p)).1.length,2)
    | some (k,v,t,n) => scanF s f (s.length - (skipL (s.drop p)).1.length + n) (acc ++ [⟨k,v,t,s.length - (skipL (s.drop p)).1.length⟩])
def scanL (s : List UInt8) : List Tok × Nat × Nat:=if 65536 < s.length then ([],0,11) else scanF s (s.length + 1) 0 []
end
end Go.Proofs.YtoohondkpddmcaaGreatDoor
