/- Tlk Fub Tll -/
import Derived.Test.YtoohondkpddmcaaGreatDoorVao
import Derived.Test.YtoohondkpddmcaaGreatDoorVbc
import Derived.Test.YtoohondkpddmcaaGreatDoorVam
import Derived.Test.YtoohondkpddmcaaGreatDoorVaf
set_option linter.unusedVariables false
set_option linter.unusedSimpArgs false
namespace Go.Proofs.YtoohondkpddmcaaGreatDoor
section
open Go.RowKit
attribute [local go_sem] ByteArray.mk_append_mk bs_get bs_cut bs_end
theorem start_is (c : UInt8) (b : Bool) (H : letterB c = b) (w : World) : Calls Tryz.prog 34 #[.int .u8 c.toNat] w fun e w' => e = .returned (.bool b) ∧ w = w':=by
 rw [← H]; exact tIsStart_any c w
theorem tvalid_name (n d : Int) (s : List UInt8) (w : World) (hs : s.length ≤ 9223372036854770000) : Calls Tryz.prog 14 #[tokV 1 n s d] w fun e w' => e = .returned (.bool (nmB s)) ∧ Below w.heap.size w w':=by
 have HB : Hid (∀ o,Below w.heap.size w (w.alloc o)):=Lib.hid fun o => (Below.refl _ _).alloc (Nat.le_refl _) o
 have KN:=Lib.hid (fun w => tName_any s w (by omega))
 obtain ⟨o,ho⟩ : ∃ o,nameN s = o:=⟨_,rfl⟩
 have e : nmB s = decide (o = some s.length):=by unfold nmB; rw [ho]
 rw [e]
 rw [ho] at KN
 clear e ho
 unfold tokV
 cases o with
 | none =>
   go_enter Tryz.func14,Tryz.ntmps14
   go_wp2_with fail
   ((with_reducible refine (KN.out _).mono ?_))
   rintro e w2 ⟨rfl,rfl⟩
   unfold namePair
   simp only [Option.getD_none,Option.isSome_none]
   go_wp2_with fail
   go_ret
   exact ⟨rfl,HB.out _⟩
 | some m =>
   have hm : ((m : Int) == (s.length : Int)) = decide (some m = some s.length):=by
    rw [Bool.eq_iff_iff,beq_iff_eq,decide_eq_true_eq,Option.some.injEq]; omega
   obtain ⟨b,hb⟩ : ∃ b,decide (some m = some s.length) = b:=⟨_,rfl⟩
   rw [hb] at hm ⊢
   clear hb
   go_enter Tryz.func14,Tryz.ntmps14
   go_wp2_with fail
   ((with_reducible refine (KN.out _).mono ?_))
   rintro e w2 ⟨rfl,rfl⟩
   unfold namePair
   simp only [Option.getD_some,Option.isSome_some]
   go_wp2_with fail
   go_ret
   exact ⟨rfl,HB.out _⟩
theorem tvalid_word (n d : Int) (s : List UInt8) (w : World) (hs : s.length ≤ 9223372036854770000) : Calls Tryz.prog 14 #[tokV 2 n s d] w fun e w' => e = .returned (.bool (kwB s)) ∧ Below w.heap.size w w':=by
 have HB : Hid (∀ o,Below w.heap.size w (w.alloc o)):=Lib.hid fun o => (Below.refl _ _).alloc (Nat.le_refl _) o
 unfold tokV
 cases s with
 | nil =>
   rw [show kwB [] = false from rfl]
   go_enter Tryz.func14,Tryz.ntmps14
   go_wp2_with fail
   go_ret
   exact ⟨rfl,HB.out _⟩
 | cons c r =>
   have KI:=Lib.hid (fun w => tWord_any (c :: r) w (by omega))
   have KL:=Lib.hid (fun w => tLower_any (c :: r) w (by omega))
   obtain ⟨N,hN⟩ : ∃ N,wordN (c :: r) = N:=⟨_,rfl⟩
   obtain ⟨lw,hlw⟩ : ∃ b,lowerB (c :: r) = b:=⟨_,rfl⟩
   have e : kwB (c :: r) = (decide (r.length + 1 ≤ 32) && (letterB c && (decide (N = r.length + 1) && lw))):=by rw [← hN,← hlw]; rfl
   rw [e]
   rw [hN] at KI
   rw [hlw] at KL
   clear e hN hlw
   by_cases h32 : (r.length : Int) + 1 ≤ 32
   ·rw [show decide (r.length + 1 ≤ 32) = true from decide_eq_true (by omega)]
    cases hl' : letterB c with
    | false =>
      have KS:=Lib.hid (fun w => start_is c false hl' w)
      clear hl'
      go_enter Tryz.func14,Tryz.ntmps14
      go_wp2_with fail
      ((with_reducible refine (KS.out _).mono ?_))
      rintro e w2 ⟨rfl,rfl⟩
      go_wp2_with fail
      go_ret
      exact ⟨rfl,HB.out _⟩
    | true =>
      have KS:=Lib.hid (fun w => start_is c true hl' w)
      clear hl'
      have gN : ((N : Int) == (r.length : Int) + 1) = decide (N = r.length + 1):=by rw [Bool.eq_iff_iff,beq_iff_eq,decide_eq_true_eq]; omega
      obtain ⟨b,hb⟩ : ∃ b,decide (N = r.length + 1) = b:=⟨_,rfl⟩
      rw [hb] at gN ⊢
      clear hb
      cases b
      ·go_enter Tryz.func14,Tryz.ntmps14
       go_wp2_with fail
       ((with_reducible refine (KS.out _).mono ?_))
       rintro e w2 ⟨rfl,rfl⟩
       go_wp2_with fail
       ((with_reducible refine (KI.out _).mono ?_))
       rintro e w2 ⟨rfl,rfl⟩
       go_wp2_with fail
       go_ret
       exact ⟨rfl,HB.out _⟩
      ·go_enter Tryz.func14,Tryz.ntmps14
       go_wp2_with fail
       ((with_reducible refine (KS.out _).mono ?_))
       rintro e w2 ⟨rfl,rfl⟩
       go_wp2_with fail
       ((with_reducible refine (KI.out _).mono ?_))
       rintro e w2 ⟨rfl,rfl⟩
       go_wp2_with fail
       ((with_reducible refine (KL.out _).mono ?_))
       rintro e w2 ⟨rfl,rfl⟩
       go_wp2_with fail
       go_ret
       exact ⟨rfl,HB.out _⟩
   ·rw [show decide (r.length + 1 ≤ 32) = false from decide_eq_false (by omega)]
    go_enter Tryz.func14,Tryz.ntmps14
    go_wp2_with fail
    go_ret
    exact ⟨rfl,HB.out _⟩
theorem tvalid_str (n d : Int) (s : List UInt8) (w : World) (hs : s.length ≤ 9223372036854770000) : Calls Tryz.prog 14 #[tokV 4 n s d] w fun e w' => e = .returned (.bool (decide (s.length ≤ 255))) ∧ Below w.heap.size w w':=by
 have HB : Hid (∀ o,Below w.heap.size w (w.alloc o)):=Lib.hid fun o => (Below.refl _ _).alloc (Nat.le_refl _) o
 have e : decide (s.length ≤ 255) = decide ((s.length : Int) ≤ 255):=by rw [decide_eq_decide]; omega
 rw [e]
 unfold tokV
 go_enter Tryz.func14,Tryz.ntmps14
 go_wp2_with fail
 go_ret
 exact ⟨rfl,HB.out _⟩
theorem tvalid_yes (k n d : Int) (s : List UInt8) (w : World) (h : k = 3 ∨ k = 5 ∨ k = 6 ∨ k = 7 ∨ k = 8 ∨ k = 9) : Calls Tryz.prog 14 #[tokV k n s d] w fun e w' => e = .returned (.bool true) ∧ Below w.heap.size w w':=by
 have HB : Hid (∀ o,Below w.heap.size w (w.alloc o)):=Lib.hid fun o => (Below.refl _ _).alloc (Nat.le_refl _) o
 unfold tokV
 rcases h with rfl | rfl | rfl | rfl | rfl | rfl
 all_goals
  go_enter Tryz.func14,Tryz.ntmps14
  go_wp2_with fail
  go_ret
  exact ⟨rfl,HB.out _⟩
theorem tvalid_no (k n d : Int) (s : List UInt8) (w : World) (h1 : k ≠ 1) (h2 : k ≠ 2) (h4 : k ≠ 4) (h : ¬ (k = 3 ∨ (5 ≤ k ∧ k ≤ 9))) : Calls Tryz.prog 14 #[tokV k n s d] w fun e w' => e = .returned (.bool false) ∧ Below w.heap.size w w':=by
 have HB : Hid (∀ o,Below w.heap.size w (w.alloc o)):=Lib.hid fun o => (Below.refl _ _).alloc (Nat.le_refl _) o
 have b1 : (k == 1) = false:=beq_eq_false_iff_ne.2 h1
 have b2 : (k == 2) = false:=beq_eq_false_iff_ne.2 h2
 have b3 : (k == 3) = false:=beq_eq_false_iff_ne.2 (by omega)
 have b4 : (k == 4) = false:=beq_eq_false_iff_ne.2 h4
 have b5 : (k == 5) = false:=beq_eq_false_iff_ne.2 (by omega)
 have b6 : (k == 6) = false:=beq_eq_false_iff_ne.2 (by omega)
 have b7 : (k == 7) = false:=beq_eq_false_iff_ne.2 (by omega)
 have b8 : (k == 8) = false:=beq_eq_false_iff_ne.2 (by omega)
 have b9 : (k == 9) = false:=beq_eq_false_iff_ne.2 (by omega)
 clear h1 h2 h4 h
 unfold tokV
 go_enter Tryz.func14,Tryz.ntmps14
 go_wp2_with fail
 go_ret
 exact ⟨rfl,HB.out _⟩
theorem tvalid_any (t : TokI) (w : World) (hs : t.str.length ≤ 9223372036854770000) : Calls Tryz.prog 14 #[t.val] w fun e w' => e = .returned (.bool (validT t)) ∧ Below w.heap.size w w':=by
 obtain ⟨k,n,s,d⟩:=t
 unfold validT TokI.val
 simp only
 by_cases h1 : k = 1
 ·subst h1; rw [if_pos rfl]; exact tvalid_name n d s w hs
 ·rw [if_neg h1]
  by_cases h2 : k = 2
  ·subst h2; rw [if_pos rfl]; exact tvalid_word n d s w hs
  ·rw [if_neg h2]
   by_cases h4 : k = 4
   ·subst h4; rw [if_pos rfl]; exact tvalid_str n d s w hs
   ·rw [if_neg h4]
    by_cases h : k = 3 ∨ (5 ≤ k ∧ k ≤ 9)
    ·rw [decide_eq_true h]; exact tvalid_yes k n d s w (by omega)
    ·rw [decide_eq_false h]; exact tvalid_no k n d s w h1 h2 h4 h
end
section
open Go.RowKit
attribute [local go_sem] ByteArray.mk_append_mk bs_get bs_cut bs_end
def Tz16 (w : World) : Prop:=w.cell? ⟨9,15,none⟩ = some (.int .u8 4)
theorem pow16_any (w : World) : Calls Tryz.prog 222 #[.int .i64 16] w fun e w' => e = .returned (.bool true) ∧ w = w':=by
 have h : bits .and .i64 16 15 = 0:=by decide
 go_enter Tryz.func222,Tryz.ntmps222
 go_wp2_with fail
 go_ret
 exact ⟨rfl,rfl⟩
theorem tz16_any (w : World) (hT : Tz16 w) : Calls Tryz.prog 239 #[.int .u64 16] w fun e w' => e = .returned (.int .i64 4) ∧ w = w':=by
 unfold Tz16 at hT
 have hk : IntKind.u64.wrap (bits .and .u64 16 (IntKind.u64.wrap (-16)) * 285870213051353865) / 288230376151711744 = 15:=by decide +kernel
 go_enter Tryz.func239,Tryz.ntmps239
 go_wp2_with fail
 go_ret
 exact ⟨rfl,rfl⟩
theorem tz_any (w : World) (hT : Tz16 w) : Calls Tryz.prog 223 #[.int .u64 16] w fun e w' => e = .returned (.int .i64 4) ∧ w = w':=by
 have K:=Lib.hid (fun w h => tz16_any w h)
 go_enter Tryz.func223,Tryz.ntmps223
 go_wp2_with fail
 ((with_reducible refine (K.out _ hT).mono ?_))
 rintro e w2 ⟨rfl,rfl⟩
 go_wp2_with fail
 go_ret
 exact ⟨rfl,rfl⟩
def lowTab : List UInt8:=[48,49,50,51,52,53,54,55,56,57,97,98,99,100,101,102,103,104,105,106,107,108,109,110,111,112,113,114,115,116,117,118,119,120,121,122]
def lowC (c : UInt8) : UInt8:=if 65 ≤ c.toNat ∧ c.toNat ≤ 70 then UInt8.ofNat (c.toNat + 32) else c
def hexLo (v : Nat) : List UInt8:=(hexU v).map lowC
theorem low_at (d : Nat) (h : d < 16) : lowTab.getD d 0 = lowC (hexC d):=by
 have : ∀ d : Fin 16,lowTab.getD d.val 0 = lowC (hexC d.val):=by decide +kernel
 exact this ⟨d,h⟩
theorem low_idx (d : Nat) (h : d < 16) (w : World) : (Instr.index 9 (.string ⟨#[48,49,50,51,52,53,54,55,56,57,97,98,99,100,101,102,103,104,105,106,107,108,109,110,111,112,113,114,115,116,117,118,119,120,121,122]⟩) (.int .u64 d)).run Tryz.prog w = .ok (.int .u8 (lowC (hexC d)).toNat) w:=by
 have e:=low_at d h
 have hl : d < lowTab.length:=by show d < 36; omega
 have e2 : lowTab.getD d 0 = lowTab[d]:=by simp [List.getD,hl]
 rw [← e,e2,run_index_string _ _ _ _ _ Tryz.underlying9,dif_pos ⟨by omega,by show (d : Int) < 36; omega⟩]
 rfl
theorem hexU_small {v : Nat} (h : v < 16) : hexU v = [hexC v]:=by unfold hexU; rw [show v / 16 = 0 by omega,hexP_zero,show v % 16 = v by omega]; rfl
theorem hexU_big {v : Nat} (h : 16 ≤ v) : hexU v = hexU (v / 16) ++ [hexC (v % 16)]:=by
 conv => lhs; unfold hexU
 rw [hexP_pos (by omega)]
 rfl
def Arr (w : World) (b i : Nat) (x : List UInt8) : Prop:=∃ cs : Array Value,w.heap[b]? = some (.cells cs 214 (0,0)) ∧ cs.size = 65 ∧ cs.toList.drop i = byV x
theorem Arr.put {w : World} {b i : Nat} {x : List UInt8} (h : Arr w b (i + 1) x) (hi : i < 65) (c : UInt8) : Arr (w.setCell ⟨b,i,none⟩ (.int .u8 c.toNat)) b i (c :: x):=by
 obtain ⟨cs,h1,h2,h3⟩:=h
 refine ⟨cs.setIfInBounds i (.int .u8 c.toNat),heap_setCell_same w _ i _ _ _ h1,by simp [h2],?_⟩
 have hlt : i < (cs.setIfInBounds i (Value.int .u8 c.toNat)).toList.length:=by simp [h2]; omega
 rw [List.drop_eq_getElem_cons hlt]
 simp only [Array.toList_setIfInBounds,List.getElem_set_self,List.drop_set_of_lt (show i < i + 1 by omega)]
 rw [h3]
 rfl
theorem Arr.cell {w : World} {b i : Nat} {x : List UInt8} (h : Arr w b i x) (j : Nat) (hj : j < 65) : ∃ v,w.cell? ⟨b,j,none⟩ = some v:=by
 obtain ⟨cs,h1,h2,h3⟩:=h
 refine ⟨cs[j]'(by omega),?_⟩
 rw [cell_of_row w b j cs _ (0,0) h1]
 simp [h2,hj]
theorem Arr.free {w : World} {b i : Nat} {x : List UInt8} (h : Arr w b i x) (j : Nat) : w.frozen? ⟨b,j,none⟩ = false:=by
 obtain ⟨cs,h1,h2,h3⟩:=h
 exact free3 h1 j
theorem Arr.conv {w : World} {b i : Nat} {x : List UInt8} (h : Arr w b i x) (c : Nat) (n : Nat) (hn : x.length = n) : Sem.run Tryz.prog (convert 48 9 (.slice (some ⟨b,i,none⟩) n c)) w = .ok (.string ⟨x.toArray⟩) w:=by
 obtain ⟨cs,h1,h2,h3⟩:=h
 refine by_conv w _ _ _ x hn fun j v hj => ?_
 have e : (⟨b,i,none⟩ : Addr).add j = ⟨b,i + j,none⟩:=by by_cases h : j = 0 <;> simp [Addr.add,h]
 rw [e,cell_of_row w b (i + j) cs _ (0,0) h1]
 rw [← h3,List.getElem?_drop] at hj
 simpa using hj
theorem slice65 (b J : Nat) (hJ : J < 65) (w : World) : (Instr.sliceAt 214 (.pointer (some ⟨b,0,none⟩)) (some (.int .i64 J)) none none).run Tryz.prog w = .ok (.slice (some ⟨b,J,none⟩) (65 - J) (65 - J)) w:=by
 have hal : Tryz.prog.arrayLen 214 = 65:=by kernel_rfl
 have hel : Tryz.prog.elem 214 = 5:=by kernel_rfl
 have hso:=Tryz.sizeOf5
 rw [run_sliceAt_array_l w 214 ⟨b,0,none⟩ (by kernel_rfl) .i64 (J : Int) (by omega) (by rw [hal]; omega),hal,hel]
 rw [hso w]
 simp only [Result.andThen,Int.toNat_natCast,slicedAt]
 rw [if_neg (show ¬ 65 = J by omega)]
 by_cases h0 : J = 0
 ·subst h0; simp [Addr.add]
 ·simp [Addr.add,h0]
set_option maxRecDepth 100000 in
set_option maxHeartbeats 4000000 in
theorem fbits_any (v : Nat) (w : World) (hv : Hid (v ≤ 18446744073709551615)) (hT : Tz16 w) :
  Calls Tryz.prog 177 #[.slice none 0 0,.int .u64 v,.int .i64 16,.bool false,.bool false] w fun e w' => e = .returned (.tuple #[.slice none 0 0,.string ⟨(hexLo v).toArray⟩]) ∧ Below w.heap.size w w':=by
 have KP:=Lib.hid (fun w => pow16_any w)
 have KT:=Lib.hid (fun w h => tz_any w h)
 have HT:=Lib.hid hT
 obtain ⟨X,hX⟩ : ∃ X,Hid (hexLo v = X):=⟨_,Lib.hid rfl⟩
 rw [hX.out]
 clear hT
 go_enter Tryz.func177,Tryz.ntmps177
 go_wp2_with fail
 ((with_reducible refine (KP.out _).mono ?_))
 rintro e w2 ⟨rfl,rfl⟩
 go_wp2_with fail
 ((with_reducible refine (KT.out _ (by have h:=HT.out; unfold Tz16 at h ⊢; exact cell_old h _)).mono ?_))
 rintro e w2 ⟨rfl,rfl⟩
 clear KP KT HT
 go_wp2_with fail
 go_loopw [1,13] (fun z i wr => ∃ (n I : Nat) (x : List UInt8),z = .int .u64 n ∧ i = .int .i64 I ∧ I + x.length = 65 ∧ x.length ≤ 15 ∧ Hid (n < 16 ^ (16 - x.length)) ∧ Hid (X = hexLo n ++ x) ∧ Hid (Arr wr w.heap.size I x) ∧ Hid (Below w.heap.size w wr)) (fun z _ _ => (intOf z).toNat)
 case atStart =>
  refine ⟨v,65,[],rfl,rfl,by simp,by simp,Lib.hid ?_,Lib.hid (by rw [← hX.out]; simp),Lib.hid ⟨_,heap_alloc_new w _,rfl,rfl⟩,Lib.hid ((Below.refl _ _).alloc (Nat.le_refl _) _)⟩
  have:=hv.out
  have e : (16 : Nat) ^ 16 = 18446744073709551616:=by decide
  simp only [List.length_nil]
  omega
 case round =>
  obtain ⟨n,I,x,rfl,rfl,hI,hx,HN,HX,HA,HB⟩:=hrel
  obtain ⟨w1,rfl⟩ : ∃ y : World,y = wr:=⟨_,rfl⟩
  obtain ⟨J,rfl⟩ : ∃ J,I = J + 1:=⟨I - 1,by omega⟩
  obtain ⟨z0,c0⟩:=HA.out.cell J (by omega)
  have f0:=HA.out.free J
  obtain ⟨d,hd⟩ : ∃ d,n % 16 = d:=⟨_,rfl⟩
  have hd16 : d < 16:=by omega
  have HNB : Hid (n ≤ 18446744073709551615):=Lib.hid (by
   have:=HN.out
   have h1 : (16 : Nat) ^ (16 - x.length) ≤ 16 ^ 16:=Nat.pow_le_pow_right (by omega) (by omega)
   have e : (16 : Nat) ^ 16 = 18446744073709551616:=by decide
   omega)
  have hand:=and15 n HNB.out
  rw [hd] at hand
  have hidx:=low_idx d hd16
  have HP:=Lib.hid (HA.out.put (i:=J) (by omega) (lowC (hexC d)))
  by_cases h16 : (16 : Int) ≤ (n : Int)
  ·have HX2 : Hid (X = hexLo (n / 16) ++ (lowC (hexC d) :: x)):=Lib.hid (by
    rw [HX.out]; unfold hexLo; rw [hexU_big (v:=n) (by omega),hd,List.map_append,List.append_assoc] <;> rfl)
   have hxl : x.length < 15:=by
    refine Classical.byContradiction fun h => ?_
    have h15 : x.length = 15:=by omega
    have:=HN.out
    rw [h15] at this
    simp at this
    omega
   have HN2 : Hid (n / 16 < 16 ^ (16 - (lowC (hexC d) :: x).length)):=Lib.hid (by
    have:=HN.out
    rw [List.length_cons]
    rw [show 16 - x.length = (16 - (x.length + 1)) + 1 by omega,Nat.pow_succ] at this
    omega)
   obtain ⟨C,hC⟩ : ∃ C,lowC (hexC d) = C:=⟨_,rfl⟩
   rw [hC] at hidx HP HX2 HN2
   clear hd hC HX HN HNB
   go_wp2_with fail
   go_roundw
   case rel => exact ⟨n / 16,J,C :: x,by simp,by go_num,by simp; omega,by simp; omega,HN2,HX2,HP,Lib.hid (HB.out.setCell (Nat.le_refl _) _)⟩
   case measure => simp [intOf]; omega
  ·have hdn : d = n:=by omega
   have HX2 : Hid (X = lowC (hexC d) :: x):=Lib.hid (by
    rw [HX.out]; unfold hexLo; rw [hexU_small (v:=n) (by omega),hdn] <;> rfl)
   obtain ⟨C,hC⟩ : ∃ C,lowC (hexC d) = C:=⟨_,rfl⟩
   rw [hC] at hidx HP HX2
   subst hdn
   clear hd hC HX HN HNB hand
   have hcv:=HP.out.conv (65 - J) (65 - J) (by simp; omega)
   have hsl:=slice65 w.heap.size J (by omega)
   go_wp2_with fail
   refine bodyPost_ret (results_tmp2 rfl _ _ _) rfl ?_
   exact ⟨by rw [HX2.out]; rfl,HB.out.setCell (Nat.le_refl _) _⟩
set_option maxRecDepth 100000 in
theorem fmt16i_any (v : Nat) (w : World) (hv : Hid (v ≤ 18446744073709551615)) (hT : Tz16 w) :
  Calls Tryz.prog 123 #[.int .u64 v,.int .i64 16] w fun e w' => e = .returned (.string ⟨(hexLo v).toArray⟩) ∧ Below w.heap.size w w':=by
 have KB:=Lib.hid (fbits_any v w hv hT)
 go_enter Tryz.func123,Tryz.ntmps123
 go_wp2_with fail
 ((with_reducible refine KB.out.mono ?_))
 rintro e w2 ⟨rfl,hb⟩
 have HB:=Lib.hid hb
 clear hb
 go_wp2_with fail
 go_ret
 exact ⟨rfl,HB.out⟩
theorem fmt16_any (v : Nat) (w : World) (hv : Hid (v ≤ 18446744073709551615)) (hT : Tz16 w) :
  Calls Tryz.prog 79 #[.int .u64 v,.int .i64 16] w fun e w' => e = .returned (.string ⟨(hexLo v).toArray⟩) ∧ Below w.heap.size w w':=by
 have KB:=Lib.hid (fmt16i_any v w hv hT)
 go_enter Tryz.func79,Tryz.ntmps79
 go_wp2_with fail
 ((with_reducible refine KB.out.mono ?_))
 rintro e w2 ⟨rfl,hb⟩
 have HB:=Lib.hid hb
 clear hb
 go_wp2_with fail
 go_ret
 exact ⟨rfl,HB.out⟩
end
section
open Go.RowKit
attribute [local go_sem] ByteArray.mk_append_mk bs_get bs_cut bs_end
theorem hex_lit (d : Nat) (h : d < ([48,49,50,51,52,53,54,55,56,57,65,66,67,68,69,70] : List UInt8).length) : ([48,49,50,51,52,53,54,55,56,57,65,66,67,68,69,70] : List UInt8)[d] = hexC d:=by
 have hl : d < hexTab.length:=h
 unfold hexC
 simp [List.getD,hl]
 rfl
theorem and15b (c : UInt8) : bits .and .u8 (c.toNat : Int) 15 = ((c.toNat % 16 : Nat) : Int):=by
 have : ∀ k : Fin 256,bits .and .u8 ((k.val : Nat) : Int) 15 = ((k.val % 16 : Nat) : Int):=by decide +kernel
 exact this ⟨c.toNat,c.toNat_lt⟩
theorem quoC_hex {c : UInt8} (h1 : c ≠ 34) (h2 : c ≠ 92) (h3 : ¬ (32 ≤ c.toNat ∧ c.toNat ≤ 126)) : quoC c = [92,120,hexC (c.toNat / 16),hexC (c.toNat % 16)]:=by
 have hc:=c.toNat_lt
 unfold quoC
 rw [if_neg (by rintro (h | h); exact h1 h; exact h2 h),if_neg h3]
 by_cases h16 : c.toNat < 16
 ·rw [if_pos h16,hexU_small h16,show c.toNat / 16 = 0 by omega,show c.toNat % 16 = c.toNat by omega]; rfl
 ·rw [if_neg h16,hexU_big (by omega),hexU_small (by omega)]; rfl
def WrPost (w : World) (B b : Nat) (l : List UInt8) (e : Ending) (w' : World) : Prop:=e = .returned (.tuple #[]) ∧ BldK w' B b l ∧ Below B w w' ∧ KeptK b w w'
theorem bel_next {B : Nat} {w w' w'' : World} (h : Below B w w') (h' : Below B w' w'') : Below B w w'':=h.trans h'
set_option maxRecDepth 100000 in
set_option maxHeartbeats 4000000 in
theorem wstr_any (B b : Nat) (l s : List UInt8) (w : World) (h : BldK w B b l) (hl : l.length ≤ 1000000000) (hs : s.length ≤ 1000000) :
  Calls Tryz.prog 80 #[.pointer (some ⟨b,0,none⟩),.string ⟨s.toArray⟩] w (WrPost w B b (l ++ quoL s)):=by
 have H:=Lib.hid h
 have HL:=Lib.hid hl
 clear h hl
 go_enter Tryz.func80,Tryz.ntmps80
 go_wp2_with fail
 ((with_reducible refine (blk_lit B b l 34 34 rfl _ H.out (by have:=HL.out; omega)).mono ?_))
 rintro e w2 ⟨rfl,hb,hw,hk⟩
 have HB:=Lib.hid hb
 have HW:=Lib.hid hw
 have HK:=Lib.hid hk
 clear hb hw hk
 go_wp2_with fail
 go_loopw [10] (fun i wr => ∃ (k : Nat) (x : List UInt8),i = .int .i64 k ∧ k ≤ s.length ∧ Hid (x = l ++ quoK s k) ∧ Hid (x.length ≤ 1000000001 + 4 * k) ∧ Hid (BldK wr B b x) ∧ Hid (Below B w wr) ∧ Hid (KeptK b w wr)) (fun i _ => s.length - (intOf i).toNat)
 case atStart => exact ⟨0,l ++ [34],rfl,by omega,Lib.hid rfl,Lib.hid (by rw [List.length_append]; have:=HL.out; simp; omega),HB,HW,HK⟩
 case round =>
  clear HB HW HK
  obtain ⟨k,x,rfl,hk,HX,HXL,HB,HW,HK⟩:=hrel
  obtain ⟨w3,rfl⟩ : ∃ y : World,y = wr:=⟨_,rfl⟩
  by_cases hlt : k < s.length
  ·have HX2 : Hid (l ++ quoK s (k + 1) = x ++ quoC s[k]):=Lib.hid (by rw [quoK_succ hlt,HX.out,List.append_assoc])
   have HQL:=Lib.hid (quoC_len4 s[k])
   have HQ1 : Hid ((s[k] = 34 ∨ s[k] = 92) → quoC s[k] = [92] ++ [s[k]]):=Lib.hid (fun h => by unfold quoC; rw [if_pos h] <;> rfl)
   have HQ2 : Hid (s[k] ≠ 34 → s[k] ≠ 92 → 32 ≤ s[k].toNat ∧ s[k].toNat ≤ 126 → quoC s[k] = [s[k]]):=Lib.hid (fun h1 h2 h3 => by unfold quoC; rw [if_neg (by rintro (h | h); exact h1 h; exact h2 h),if_pos h3])
   have HQ3 : Hid (s[k] ≠ 34 → s[k] ≠ 92 → ¬ (32 ≤ s[k].toNat ∧ s[k].toNat ≤ 126) → quoC s[k] = [92,120] ++ [hexC (s[k].toNat / 16)] ++ [hexC (s[k].toNat % 16)]):=Lib.hid (fun h1 h2 h3 => quoC_hex h1 h2 h3)
   have H34:=Lib.hid (byte_cases' s[k] 34 34 rfl)
   have H92:=Lib.hid (byte_cases' s[k] 92 92 rfl)
   by_cases hqq : s[k] = 34 ∨ s[k] = 92
   ·have HQ:=Lib.hid (HQ1.out hqq)
    have HT : Hid (((s[k].toNat : Int) == 34) = true ∨ (((s[k].toNat : Int) == 34) = false ∧ ((s[k].toNat : Int) == 92) = true)):=Lib.hid (by
     rcases H34.out with ⟨_,h⟩ | ⟨h0,h⟩
     ·exact .inl h
     ·rcases H92.out with ⟨_,h'⟩ | ⟨h1,h'⟩
      ·exact .inr ⟨h,h'⟩
      ·rcases hqq with h2 | h2
       ·exact absurd h2 h0
       ·exact absurd h2 h1)
    clear hqq HQ1 HQ2 HQ3 H34 H92
    rcases HT.out with h34 | ⟨h34,h92⟩
    all_goals
     go_wp2_with fail
     ((with_reducible refine (blk_lit B b x 92 92 rfl _ HB.out (by have:=HXL.out; omega)).mono ?_))
     rintro e w4 ⟨rfl,hb,hw,hkk⟩
     have HB4:=Lib.hid hb
     have HW4:=Lib.hid (bel_next HW.out hw)
     have HK4:=Lib.hid (HK.out.trans hkk)
     clear hb hw hkk
     go_wp2_with fail
     ((with_reducible refine (blk_byte B b (x ++ [92]) s[k] _ HB4.out (by rw [List.length_append]; have:=HXL.out; simp; omega)).mono ?_))
     rintro e w5 ⟨rfl,hb,hw,hkk⟩
     have HB5:=Lib.hid hb
     have HW5:=Lib.hid (bel_next HW4.out hw)
     have HK5:=Lib.hid (HK4.out.trans hkk)
     clear hb hw hkk
     go_wp2_with fail
     go_roundw
     case rel => exact ⟨k + 1,x ++ [92] ++ [s[k]],by go_num,by omega,Lib.hid (by rw [HX2.out,HQ.out,List.append_assoc]),Lib.hid (by have:=HXL.out; simp only [List.length_append,List.length_cons,List.length_nil]; omega),HB5,HW5,HK5⟩
     case measure => simp [intOf]; omega
   ·have e1 : s[k] ≠ 34:=fun h => hqq (.inl h)
    have e2 : s[k] ≠ 92:=fun h => hqq (.inr h)
    have h34:=(H34.out.resolve_left fun h => e1 h.1).2
    have h92:=(H92.out.resolve_left fun h => e2 h.1).2
    have HQ2':=Lib.hid (HQ2.out e1 e2)
    have HQ3':=Lib.hid (HQ3.out e1 e2)
    clear hqq e1 e2 HQ1 HQ2 HQ3 H34 H92
    have hc:=s[k].toNat_lt
    by_cases h3 : (32 : Int) ≤ (s[k].toNat : Int) ∧ (s[k].toNat : Int) ≤ 126
    ·obtain ⟨h3,h4⟩:=h3
     have HQ:=Lib.hid (HQ2'.out ⟨by omega,by omega⟩)
     clear HQ2' HQ3'
     go_wp2_with fail
     ((with_reducible refine (blk_byte B b x s[k] _ HB.out (by have:=HXL.out; omega)).mono ?_))
     rintro e w4 ⟨rfl,hb,hw,hkk⟩
     have HB4:=Lib.hid hb
     have HW4:=Lib.hid (bel_next HW.out hw)
     have HK4:=Lib.hid (HK.out.trans hkk)
     clear hb hw hkk
     go_wp2_with fail
     go_roundw
     case rel => exact ⟨k + 1,x ++ [s[k]],by go_num,by omega,Lib.hid (by rw [HX2.out,HQ.out]),Lib.hid (by have:=HXL.out; simp only [List.length_append,List.length_cons,List.length_nil]; omega),HB4,HW4,HK4⟩
     case measure => simp [intOf]; omega
    ·have HQ:=Lib.hid (HQ3'.out (by omega))
     have HP : Hid ((32 : Int) ≤ (s[k].toNat : Int) → ¬ (s[k].toNat : Int) ≤ 126):=Lib.hid (fun a b => h3 ⟨a,b⟩)
     have hand:=and15b s[k]
     have l1 : s[k].toNat / 16 < ([48,49,50,51,52,53,54,55,56,57,65,66,67,68,69,70] : List UInt8).length:=by show _ < 16; omega
     have l2 : s[k].toNat % 16 < ([48,49,50,51,52,53,54,55,56,57,65,66,67,68,69,70] : List UInt8).length:=by show _ < 16; omega
     rw [← hex_lit _ l1,← hex_lit _ l2] at HQ
     clear HQ2' HQ3' h3
     have HZ : Hid (¬ (32 : Int) ≤ (s[k].toNat : Int) ∨ ((32 : Int) ≤ (s[k].toNat : Int) ∧ ¬ (s[k].toNat : Int) ≤ 126)):=Lib.hid (by
      by_cases h : (32 : Int) ≤ (s[k].toNat : Int)
      ·exact .inr ⟨h,HP.out h⟩
      ·exact .inl h)
     clear HP
     rcases HZ.out with h5 | ⟨h5,h6⟩
     all_goals
      go_wp2_with fail
      ((with_reducible refine (blk_str B b x [92,120] _ HB.out (by have:=HXL.out; simp only [List.length_cons,List.length_nil]; omega)).mono ?_))
      rintro e w4 ⟨rfl,hb,hw,hkk⟩
      have HB4:=Lib.hid hb
      have HW4:=Lib.hid (bel_next HW.out hw)
      have HK4:=Lib.hid (HK.out.trans hkk)
      clear hb hw hkk
      go_wp2_with fail
      ((with_reducible refine (blk_byte B b (x ++ [92,120]) _ _ HB4.out (by rw [List.length_append]; have:=HXL.out; simp; omega)).mono ?_))
      rintro e w5 ⟨rfl,hb,hw,hkk⟩
      have HB5:=Lib.hid hb
      have HW5:=Lib.hid (bel_next HW4.out hw)
      have HK5:=Lib.hid (HK4.out.trans hkk)
      clear hb hw hkk
      go_wp2_with fail
      ((with_reducible refine (blk_byte B b (x ++ [92,120] ++ [_]) _ _ HB5.out (by rw [List.length_append,List.length_append]; have:=HXL.out; simp; omega)).mono ?_))
      rintro e w6 ⟨rfl,hb,hw,hkk⟩
      have HB6:=Lib.hid hb
      have HW6:=Lib.hid (bel_next HW5.out hw)
      have HK6:=Lib.hid (HK5.out.trans hkk)
      clear hb hw hkk
      go_wp2_with fail
      go_roundw
      case rel => exact ⟨k + 1,x ++ [92,120] ++ [_] ++ [_],by go_num,by omega,Lib.hid (by rw [HX2.out,HQ.out]; simp only [List.append_assoc]),Lib.hid (by have:=HXL.out; simp only [List.length_append,List.length_cons,List.length_nil]; omega),HB6,HW6,HK6⟩
      case measure => simp [intOf]; omega
  ·have hkl : k = s.length:=by omega
   have HX2 : Hid (x ++ [34] = l ++ quoL s):=Lib.hid (by unfold quoL; rw [HX.out,hkl,List.append_assoc])
   clear hkl
   go_wp2_with fail
   ((with_reducible refine (blk_lit B b x 34 34 rfl _ HB.out (by have:=HXL.out; omega)).mono ?_))
   rintro e w4 ⟨rfl,hb,hw,hkk⟩
   have HB4:=Lib.hid hb
   have HW4:=Lib.hid (bel_next HW.out hw)
   have HK4:=Lib.hid (HK.out.trans hkk)
   clear hb hw hkk
   go_wp2_with fail
   go_end0
   exact ⟨rfl,by rw [← HX2.out]; exact HB4.out,HW4.out,HK4.out⟩
end
end Go.Proofs.YtoohondkpddmcaaGreatDoor
