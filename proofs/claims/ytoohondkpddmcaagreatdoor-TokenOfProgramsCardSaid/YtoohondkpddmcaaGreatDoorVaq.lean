/- Nsv -/
import Derived.Test.YtoohondkpddmcaaGreatDoorVaa
import Derived.Test.YtoohondkpddmcaaGreatDoorVap
set_option linter.unusedVariables false
set_option linter.unusedSimpArgs false
namespace Go.Proofs.YtoohondkpddmcaaGreatDoor
open Go.RowKit
attribute [local go_sem] ByteArray.mk_append_mk bs_get bs_cut bs_end
theorem segB_len (s : List UInt8) (h : s.length < 1 ∨ 4 < s.length) : segB s = false:=by
 match s with
 | [] => rfl
 | c :: r => rw [List.length_cons] at h; exact segB_long (by omega)
theorem segB_size {s : List UInt8} (h : segB s = true) : 1 ≤ s.length ∧ s.length ≤ 4:=by
 by_cases h1 : s.length < 1 ∨ 4 < s.length
 ·rw [segB_len s h1] at h; cases h
 ·omega
def preB (root : Bool) (up : Int) (n : Nat) : Bool:=decide (0 ≤ up ∧ up ≤ 32 ∧ (root = true → up = 0) ∧ (n : Int) ≤ 32 - up ∧ (root = true ∨ 0 < up ∨ 0 < n))
def validB (root : Bool) (up : Int) (l : List (List UInt8)) : Bool:=preB root up l.length && l.all segB
theorem validB_pre {root : Bool} {up : Int} {l : List (List UInt8)} (h : preB root up l.length = false) : validB root up l = false:=by unfold validB; rw [h]; rfl
theorem validB_seg {root : Bool} {up : Int} {l : List (List UInt8)} (k : Nat) (hk : k < l.length) (h : segB l[k] = false) : validB root up l = false:=by
 unfold validB
 have : l.all segB = false:=by rw [List.all_eq_false]; exact ⟨l[k],List.getElem_mem hk,by rw [h]; decide⟩
 rw [this,Bool.and_false]
theorem validB_yes {root : Bool} {up : Int} {l : List (List UInt8)} (h : preB root up l.length = true) (h2 : ∀ k (hk : k < l.length),segB l[k] = true) : validB root up l = true:=by
 unfold validB
 rw [h,Bool.true_and,List.all_eq_true]
 intro x hx
 obtain ⟨i,hi,rfl⟩:=List.mem_iff_getElem.1 hx
 exact h2 i hi
theorem preB_no {root : Bool} {up : Int} {n : Nat} (h : up < 0 ∨ 32 < up ∨ (root = true ∧ ¬ up = 0) ∨ 32 - up < n ∨ (root = false ∧ up ≤ 0 ∧ n = 0)) : preB root up n = false:=by
 unfold preB
 rw [decide_eq_false_iff_not]
 rintro ⟨a,b,c,d,e⟩
 rcases h with h | h | ⟨h1,h2⟩ | h | ⟨h1,h2,h3⟩
 ·omega
 ·omega
 ·exact h2 (c h1)
 ·omega
 ·rcases e with e | e | e
  ·rw [h1] at e; cases e
  ·omega
  ·omega
theorem preB_yes {root : Bool} {up : Int} {n : Nat} (h : 0 ≤ up ∧ up ≤ 32 ∧ (root = true → up = 0) ∧ (n : Int) ≤ 32 - up ∧ (root = true ∨ 0 < up ∨ 0 < n)) : preB root up n = true:=by unfold preB; exact decide_eq_true h
theorem cell_at {w : World} {a : Option Addr} {n cap : Nat} {l : List (List UInt8)} (h : StrsAt w (.slice a n cap) l) (k : Nat) (hk : k < l.length) : ∃ b off,a = some ⟨b,off,none⟩ ∧ w.cell? ⟨b,off + k,none⟩ = some (.string ⟨l[k].toArray⟩):=by
 obtain ⟨a',cap',he,_,_,hc⟩:=h
 cases he
 have hne : l ≠ []:=by rintro rfl; simp at hk
 obtain ⟨b,off,rfl,hcc⟩:=hc hne
 exact ⟨b,off,rfl,hcc k hk⟩
set_option maxHeartbeats 2000000 in
theorem validPath_any (p : Value) (root : Bool) (up : Int) (l : List (List UInt8)) (w : World) (hp : PathV w p root up l) (hx : ∀ x ∈ l,x.length ≤ 9223372036854775000) :
  Calls Tryz.prog 134 #[p] w fun e w' => e = .returned (.bool (validB root up l)) ∧ Below w.heap.size w w':=by
 obtain ⟨v,rfl,hs⟩:=hp
 have HB : Hid (BoxAt w (w.alloc (.cells #[.bool root,.int .i64 up,v] 128)) root up v l):=Lib.hid (BoxAt.start hs)
 obtain ⟨a,cap,rfl,hl,_⟩:=hs
 have HX:=Lib.hid hx
 clear hx
 obtain ⟨p0,p1,p2⟩:=cells3 HB.out.1
 go_enter Tryz.func134,Tryz.ntmps134
 go_upto_region 1 with fail
 go_cut [45] (fun z wx => z = .bool (!preB root up l.length) ∧ w.alloc (.cells #[.bool root,.int .i64 up,.slice a l.length cap] 128) = wx)
 case first =>
  by_cases c1 : up < 0
  ·have HP:=Lib.hid (preB_no (root:=root) (up:=up) (n:=l.length) (.inl c1))
   go_wp2_with fail
   go_meet
   exact ⟨by rw [HP.out]; rfl,rfl⟩
  ·by_cases c2 : 32 < up
   ·have HP:=Lib.hid (preB_no (root:=root) (up:=up) (n:=l.length) (.inr (.inl c2)))
    go_wp2_with fail
    go_meet
    exact ⟨by rw [HP.out]; rfl,rfl⟩
   ·cases root
    ·by_cases c4 : 32 - up < l.length
     ·have HP:=Lib.hid (preB_no (root:=false) (up:=up) (n:=l.length) (.inr (.inr (.inr (.inl c4)))))
      go_wp2_with fail
      go_meet
      exact ⟨by rw [HP.out]; rfl,rfl⟩
     ·by_cases c5 : up = 0
      ·have c5' : (up == 0) = true:=by rw [beq_iff_eq]; exact c5
       by_cases c6 : l.length = 0
       ·have HP:=Lib.hid (preB_no (root:=false) (up:=up) (n:=l.length) (.inr (.inr (.inr (.inr ⟨rfl,by omega,c6⟩)))))
        have c6' : ((l.length : Int) == 0) = true:=by rw [beq_iff_eq]; omega
        clear c5 c6
        go_wp2_with fail
        go_meet
        exact ⟨by rw [HP.out]; rfl,rfl⟩
       ·have HP:=Lib.hid (preB_yes (root:=false) (up:=up) (n:=l.length) ⟨by omega,by omega,(fun h => by cases h),by omega,.inr (.inr (by omega))⟩)
        have c6' : ((l.length : Int) == 0) = false:=by rw [beq_eq_false_iff_ne]; omega
        clear c5 c6
        go_wp2_with fail
        go_meet
        exact ⟨by rw [HP.out]; rfl,rfl⟩
      ·have c5' : (up == 0) = false:=by rw [beq_eq_false_iff_ne]; exact c5
       have HP:=Lib.hid (preB_yes (root:=false) (up:=up) (n:=l.length) ⟨by omega,by omega,(fun h => by cases h),by omega,.inr (.inl (by omega))⟩)
       clear c5
       go_wp2_with fail
       go_meet
       exact ⟨by rw [HP.out]; rfl,rfl⟩
    ·by_cases c3 : 0 < up
     ·have HP:=Lib.hid (preB_no (root:=true) (up:=up) (n:=l.length) (.inr (.inr (.inl ⟨rfl,by omega⟩))))
      go_wp2_with fail
      go_meet
      exact ⟨by rw [HP.out]; rfl,rfl⟩
     ·by_cases c4 : 32 - up < l.length
      ·have HP:=Lib.hid (preB_no (root:=true) (up:=up) (n:=l.length) (.inr (.inr (.inr (.inl c4)))))
       go_wp2_with fail
       go_meet
       exact ⟨by rw [HP.out]; rfl,rfl⟩
      ·have HP:=Lib.hid (preB_yes (root:=true) (up:=up) (n:=l.length) ⟨by omega,by omega,(fun _ => by omega),by omega,.inl rfl⟩)
       go_wp2_with fail
       go_meet
       exact ⟨by rw [HP.out]; rfl,rfl⟩
 case rest =>
  obtain ⟨rfl,rfl⟩:=hcut
  by_cases hpre : preB root up l.length = true
  ·have HPR:=Lib.hid hpre
   rw [show (!preB root up l.length) = false by rw [hpre]; rfl]
   clear hpre
   go_wp2_with fail
   go_loop [3] (fun i => ∃ k : Nat,i = .int .i64 k ∧ k ≤ l.length ∧ Hid (∀ j (hj : j < l.length),j < k → segB l[j] = true)) (fun i => l.length - (intOf i).toNat)
   case atStart => exact ⟨0,rfl,Nat.zero_le _,Lib.hid (fun j _ h => absurd h (by omega))⟩
   case round =>
    obtain ⟨k,rfl,hk,HO⟩:=hrel
    by_cases hlt : k < l.length
    ·obtain ⟨b,off,rfl,hcell⟩:=cell_at HB.out.2.1 k hlt
     have hxl:=HX.out _ (List.getElem_mem hlt)
     have hlt' : (k : Int) < l.length:=by omega
     by_cases hsg : segB l[k] = true
     ·have HO2 : Hid (∀ j (hj : j < l.length),j < k + 1 → segB l[j] = true):=Lib.hid (fun j hj h => by
       rcases Nat.lt_or_ge j k with h0 | h0
       ·exact HO.out j hj h0
       ·obtain rfl : j = k:=by omega
        exact hsg)
      have HSG:=Lib.hid hsg
      clear hsg
      generalize l[k] = x at *
      go_wp2_with fail
      ((with_reducible refine (segmentB_is x true HSG _ hxl).mono ?_))
      rintro e w' ⟨rfl,rfl⟩
      go_wp2_with fail
      go_round
      case rel => first | exact ⟨k + 1,by go_num,by omega,HO2⟩ | ((repeat apply Exists.intro); exact ⟨⟨k + 1,by go_num,by omega,HO2⟩,rfl⟩)
      case measure => simp [intOf]; omega
     ·have HR : Hid (validB root up l = false):=Lib.hid (validB_seg k hlt (by simpa using hsg))
      have HSG : Hid (segB l[k] = false):=Lib.hid (by simpa using hsg)
      clear hsg
      generalize l[k] = x at *
      go_wp2_with fail
      ((with_reducible refine (segmentB_is x false HSG _ hxl).mono ?_))
      rintro e w' ⟨rfl,rfl⟩
      go_wp2_with fail
      go_ret
      exact ⟨by rw [HR.out]; rfl,HB.out.2.2⟩
    ·have hlt' : ¬ (k : Int) < l.length:=by omega
     have HR : Hid (validB root up l = true):=Lib.hid (validB_yes HPR.out (fun j hj => HO.out j hj (by omega)))
     go_wp2_with fail
     go_ret
     exact ⟨by rw [HR.out]; rfl,HB.out.2.2⟩
  ·have hpre' : preB root up l.length = false:=by simpa using hpre
   have HR:=Lib.hid (validB_pre hpre')
   rw [show (!preB root up l.length) = true by rw [hpre']; rfl]
   clear hpre hpre'
   go_wp2_with fail
   go_ret
   exact ⟨by rw [HR.out]; rfl,HB.out.2.2⟩
end Go.Proofs.YtoohondkpddmcaaGreatDoor
