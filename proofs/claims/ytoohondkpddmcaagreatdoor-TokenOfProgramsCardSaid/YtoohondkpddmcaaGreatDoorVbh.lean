/- Ntr -/
import Derived.Test.YtoohondkpddmcaaGreatDoorVar
set_option linter.unusedVariables false
set_option linter.unusedSimpArgs false
namespace Go.Proofs.YtoohondkpddmcaaGreatDoor
open Go.RowKit
attribute [local go_sem] ByteArray.mk_append_mk bs_get bs_cut bs_end
theorem newBox (w : World) (o : Obj) : Below w.heap.size w (w.alloc o) ∧ (w.alloc o).heap[w.heap.size]? = some o :=
 ⟨(Below.refl _ _).alloc (Nat.le_refl _) _,heap_alloc_new _ _⟩
theorem StrsAt.one {w : World} {b : Nat} {x : List UInt8} (h : w.heap[b]? = some (.cells #[strV x] 9 (0,0))) : StrsAt w (.slice (some ⟨b,0,none⟩) 1 1) [x]:=by
 refine ⟨_,1,rfl,by simp,⟨(fun h => by cases h),by simp⟩,fun _ => ⟨b,0,rfl,fun k hk => ?_⟩⟩
 simp only [List.length_cons,List.length_nil] at hk
 obtain rfl : k = 0:=by omega
 exact (cell_of_row w b 0 _ _ _ h).trans rfl
theorem own_form {w : World} {B e z : Nat} {v : Value} {n : Nat} {xs : List Value} (h : w.ownsRow B e z v n xs) : ∃ (a : Option Addr) (c : Nat),v = .slice a n c:=by
 rcases h.2 with ⟨h1,rfl⟩ | ⟨g,cap,cur,h1,_⟩
 ·exact ⟨_,_,h1⟩
 ·exact ⟨_,_,h1⟩
theorem segB_small {x : List UInt8} (h : segB x = true) : x.length ≤ 4:=by
 cases x with
 | nil => simp
 | cons c r =>
   unfold segB at h
   simp only [Bool.and_eq_true,decide_eq_true_eq] at h
   simp only [List.length_cons]
   omega
def SameAt (W : World) (a : Addr) (x : World) : Prop:=x.cell? a = W.cell? a
theorem SameAt.some (W : World) (a : Addr) : (∃ x,SameAt W a x) = True:=by simp only [eq_iff_iff,iff_true]; exact ⟨W,rfl⟩
theorem SameAt.all (W : World) (a : Addr) (p : Prop) : (∀ x,SameAt W a x → p) = p:=by
 apply propext
 exact ⟨fun h => h W rfl,fun h _ _ => h⟩
attribute [local go_sem] SameAt.some SameAt.all
theorem splitD_cut : ∀ (r : List UInt8),∃ x y,r = x ++ y ∧ (∀ c ∈ x,c ≠ 46) ∧ ((y = [] ∧ splitD r = [x]) ∨ ∃ t,y = 46 :: t ∧ splitD r = x :: splitD t)
 | [] => ⟨[],[],rfl,by simp,.inl ⟨rfl,rfl⟩⟩
 | c :: r => by
   by_cases hc : c = 46
   ·subst hc
    exact ⟨[],46 :: r,rfl,by simp,.inr ⟨r,rfl,splitD_dot r⟩⟩
   ·obtain ⟨x,y,h1,h2,h3⟩:=splitD_cut r
    refine ⟨c :: x,y,by rw [h1]; rfl,?_,?_⟩
    ·intro d hd
     rcases List.mem_cons.1 hd with rfl | hd
     ·exact hc
     ·exact h2 d hd
    ·rcases h3 with ⟨h3,h4⟩ | ⟨t,h3,h4⟩
     ·exact .inl ⟨h3,splitD_other c r hc x [] h4⟩
     ·exact .inr ⟨t,h3,splitD_other c r hc x _ h4⟩
theorem ret_rparse (tmps : Array Value) (w : World) (b : Nat) (c0 c1 c2 : Value) (h2 : tmps.getD 2 undef = .pointer (some ⟨b,0,none⟩)) (hb : w.heap[b]? = some (.cells #[c0,c1,c2] 128 (0,0))) :
  (results Tryz.f91 tmps).run Tryz.prog w = .ok (.tuple #[.agg #[c0,c1,c2],tmps.getD 3 undef]) w:=by
 obtain ⟨e0,e1,e2⟩:=cells3 hb
 have h2' : tmps[2]?.getD undef = .pointer (some ⟨b,0,none⟩):=by rw [← h2]; simp
 simp [results]
 go_simp
theorem QAt.bel {w wr : World} {root : Bool} {up : Int} {v : Value} (h : QAt w wr root up v) : Below w.heap.size w wr:=h.2.2
theorem QAt.grown {w wr w2 : World} {root : Bool} {up : Int} {v : Value} {row : Option Nat} (h : QAt w wr root up v) (hg : wr.grownBy w2 row) (hr : ∀ g,row = some g → w.heap.size + 2 ≤ g) : QAt w w2 root up v :=
 ⟨blk_grown h.1 hg (fun e => by have:=hr _ e.symm; omega),blk_grown h.2.1 hg (fun e => by have:=hr _ e.symm; omega),h.2.2.grown hg h.2.2.size (fun k e => by have:=hr k e; omega)⟩
theorem QAt.lt {w wr : World} {root : Bool} {up : Int} {v : Value} (h : QAt w wr root up v) : w.heap.size + 2 ≤ wr.heap.size:=lt_of_block h.2.1
theorem byte_eqN (c : UInt8) (d : UInt8) : ((c.toNat : Int) == (d.toNat : Int)) = (d == c):=by
 rw [Bool.eq_iff_iff,beq_iff_eq,beq_iff_eq]
 constructor
 ·intro h; exact (UInt8.toNat_inj.1 (by omega)).symm
 ·rintro rfl; rfl
theorem hasPre_consN (c d : UInt8) (t : List UInt8) : Lib.hasPrefix (c :: t) [d] = (d == c):=by simp [Lib.hasPrefix,List.isPrefixOf]
theorem validB_bad {root : Bool} {up : Int} {l : List (List UInt8)} {x : List UInt8} (hx : x ∈ l) (h : segB x = false) : validB root up l = false:=by
 cases hv : validB root up l
 ·rfl
 ·rw [validB_segs hv x hx] at h; cases h
def SegJ (s : List UInt8) (st i : Nat) (dn : List (List UInt8)) : Prop :=
 (∀ x ∈ dn,segB x = true) ∧ 2 * dn.length ≤ i ∧ st ≤ i ∧ i ≤ s.length + 1 ∧ ((i < s.length ∧ splitD (parRest s) = dn ++ splitD (s.drop i) ∧ (st < i → s[i - 1]? = some 46)) ∨ (s.length ≤ i ∧ parSegs s = dn))
set_option maxRecDepth 100000 in
set_option maxHeartbeats 4000000 in
theorem rparse_any (s : List UInt8) (w : World) (hs : s.length ≤ 1048576) :
  Calls Tryz.prog 91 #[.string ⟨s.toArray⟩] w (parPost w s):=by
 have HQ:=Lib.hid (QAt.start w)
 obtain ⟨root,hroot⟩ : ∃ b,Hid (parRoot s = b):=⟨_,Lib.hid rfl⟩
 obtain ⟨N,hN⟩ : ∃ b,Hid (parUp s = b):=⟨_,Lib.hid rfl⟩
 obtain ⟨R,hR⟩ : ∃ b,Hid (parRest s = b):=⟨_,Lib.hid rfl⟩
 obtain ⟨bs,hbs⟩ : ∃ b : Nat,Hid ((if root = true then 1 else 0) = b):=⟨_,Lib.hid rfl⟩
 have hbsl : bs ≤ s.length:=by
  rw [← hbs.out]
  split
  ·next h => 
   have:=hroot.out
   rw [h] at this
   unfold parRoot at this
   cases s with
   | nil => cases this
   | cons => simp
  ·omega
 have HJ : Hid (CarJ root N R 0 (s.drop bs)):=Lib.hid (by
  rw [← hN.out,← hR.out,← hbs.out,← hroot.out]
  refine ⟨fun h => ?_,fun h => ?_⟩
  ·refine ⟨by unfold parUp; rw [if_pos h],?_⟩
   unfold parRest; rw [if_pos h,if_pos h]
  ·have e1 : parUp s = (s.takeWhile (· == 94)).length:=by unfold parUp; rw [h]; rfl
   have e2 : parRest s = s.dropWhile (· == 94):=by unfold parRest; rw [h]; rfl
   rw [e1,e2,if_neg (by rw [h]; decide),List.drop_zero]
   exact ⟨by omega,rfl⟩)
 go_enter Tryz.func91,Tryz.ntmps91
 go_upto_region 3 with fail
 obtain ⟨w0,hw0⟩ : ∃ x,((w.alloc (.cells #[.bool false,.int .i64 0,.slice none 0 0] 128)).alloc (.cells #[.bool false,.int .i64 0,.slice none 0 0] 128)) = x:=⟨_,rfl⟩
 rw [hw0] at HQ ⊢
 clear hw0
 go_cut [15] (fun z wx => z = .bool root ∧ w0 = wx)
 case first =>
  cases s with
  | nil =>
    have hr0 : root = false:=hroot.out.symm
    subst hr0
    go_wp2_with fail
    go_meet
    exact ⟨rfl,rfl⟩
  | cons c t =>
    have hcc : ((c.toNat : Int) == 92) = root:=by
     rw [← hroot.out,show (92 : Int) = ((92 : UInt8).toNat : Int) from rfl,byte_eqN]
     exact (hasPre_consN c 92 t).symm
    go_wp2_with fail
    go_meet
    exact ⟨rfl,rfl⟩
 case rest =>
  obtain ⟨rfl,rfl⟩:=hcut
  obtain ⟨w1,rfl⟩ : ∃ x : World,x = w0:=⟨_,rfl⟩
  go_upto_if 15 with fail
  go_cut [5] (fun z wx => z = .int .i64 bs ∧ Hid (QAt w wx root 0 (.slice none 0 0)))
  case first =>
   have hn:=HQ.out.2.1
   obtain ⟨c0,c1,c2⟩:=cells3 hn
   have f0:=free3 hn 0
   clear hn
   have HQ1:=Lib.hid (HQ.out.root true)
   cases root
   ·have hb0 : bs = 0:=hbs.out.symm
    subst hb0
    go_wp2_with fail
    go_meet
    exact ⟨rfl,HQ⟩
   ·have hb0 : bs = 1:=hbs.out.symm
    subst hb0
    go_wp2_with fail
    go_meet
    exact ⟨rfl,HQ1⟩
  case rest =>
   obtain ⟨rfl,HQ1⟩:=hcut
   obtain ⟨w2,rfl⟩ : ∃ x : World,x = wc:=⟨_,rfl⟩
   clear HQ
   go_wp2_with fail
   go_loopw [5] (fun z wr => ∃ k : Nat,z = .int .i64 (bs + k : Nat) ∧ bs + k ≤ s.length ∧ Hid (CarJ root N R k (s.drop (bs + k))) ∧ Hid (QAt w wr root k (.slice none 0 0))) (fun z _ => s.length - (intOf z).toNat)
   case atStart => exact ⟨0,by simp,by omega,by simpa using HJ,by simpa using HQ1⟩
   case round =>
    clear HQ1 HJ
    obtain ⟨k,rfl,hk,HJ,HQ⟩:=hrel
    obtain ⟨w3,rfl⟩ : ∃ x : World,x = wr:=⟨_,rfl⟩
    obtain ⟨i,hi⟩ : ∃ i,bs + k = i:=⟨_,rfl⟩
    rw [hi] at HJ hk ⊢
    have hn:=HQ.out.2.1
    obtain ⟨c0,c1,c2⟩:=cells3 hn
    have f1:=free3 hn 1
    clear hn
    go_upto_region 5 with fail
    go_cut [31] (fun z wx => z = .bool (!root && Lib.hasPrefix (s.drop i) [94]) ∧ w3 = wx)
    case first =>
     cases root
     ·by_cases hlt : i < s.length
      ·have hcc : ((s[i].toNat : Int) == 94) = Lib.hasPrefix (s.drop i) [94]:=by
        rw [List.drop_eq_getElem_cons hlt,show (94 : Int) = ((94 : UInt8).toNat : Int) from rfl,byte_eqN,hasPre_consN]
       go_wp2_with fail
       go_meet
       exact ⟨rfl,rfl⟩
      ·have hdn : s.drop i = []:=List.drop_eq_nil_of_le (by omega)
       have hdn2 : Hid (Lib.hasPrefix (s.drop i) [94] = false):=Lib.hid (by rw [hdn]; rfl)
       clear hdn
       go_wp2_with fail
       go_meet
       exact ⟨by rw [hdn2.out]; rfl,rfl⟩
     ·go_wp2_with fail
      go_meet
      exact ⟨rfl,rfl⟩
    case rest =>
     obtain ⟨rfl,rfl⟩:=hcut
     cases hb : (!root && Lib.hasPrefix (s.drop i) [94])
     ·obtain ⟨rfl,rfl⟩:=HJ.out.last hb
      clear hb HJ c0 c1 c2 f1
      obtain ⟨w4,rfl⟩ : ∃ x : World,x = w3:=⟨_,rfl⟩
      have HS0 : Hid (SegJ s i i []):=Lib.hid (by
       refine ⟨by simp,by simp,Nat.le_refl _,by omega,?_⟩
       by_cases hlt : i < s.length
       ·exact .inl ⟨hlt,by rw [hR.out]; rfl,fun h => absurd h (by omega)⟩
       ·refine .inr ⟨by omega,?_⟩
        unfold parSegs
        rw [hR.out,if_pos (List.drop_eq_nil_of_le (by omega))])
      clear hk
      go_wp2_with fail
      go_loopw [5] (fun z wr => ∃ (n : Nat) (dn : List (List UInt8)) (a : Option Addr) (c : Nat),z = .int .i64 n ∧ Hid (SegJ s i n dn) ∧ Hid (QAt w wr root k (.slice a dn.length c)) ∧ Hid (wr.ownsRow (w.heap.size + 2) 9 1 (.slice a dn.length c) dn.length (dn.map strV))) (fun z _ => s.length + 1 - (intOf z).toNat)
      case atStart => exact ⟨i,[],none,0,rfl,HS0,HQ,Lib.hid (own_nil _ _)⟩
      case round =>
       clear HS0 HQ
       obtain ⟨n,dn,a,c,rfl,HS,HQ,HO⟩:=hrel
       obtain ⟨w5,rfl⟩ : ∃ x : World,x = wr:=⟨_,rfl⟩
       by_cases hlt : n < s.length
       ·obtain ⟨j1,j2,j3,j4,j5⟩:=HS.out
        have j6 : splitD (parRest s) = dn ++ splitD (s.drop n) ∧ (i < n → s[n - 1]? = some 46):=by
         rcases j5 with ⟨_,h⟩ | ⟨h,_⟩
         ·exact h
         ·omega
        obtain ⟨j7,j8⟩:=j6
        have hne : parRest s ≠ []:=by
         intro e
         have h1:=j7
         rw [e] at h1
         have h2:=congrArg List.length h1
         rw [List.length_append,splitD_length (s.drop n)] at h2
         have hd0 : dn = []:=List.eq_nil_of_length_eq_zero (by simp [splitD] at h2; omega)
         rw [hd0] at h1
         have h3:=hR.out
         rw [e] at h3
         have h4:=congrArg List.length h3
         simp at h4
         omega
        have HNE:=Lib.hid hne
        have HSPL:=Lib.hid j7
        have HSP : Hid (parSegs s = dn ++ splitD (s.drop n)):=Lib.hid (by unfold parSegs; rw [if_neg hne,j7])
        obtain ⟨x,y,e1,e2,e3⟩:=splitD_cut (s.drop n)
        have hlen : n + x.length + y.length = s.length:=by
         have:=congrArg List.length e1
         simp at this
         omega
        have HXC : Hid (∀ j (hj : j < x.length),∃ h : n + j < s.length,s[n + j] = x[j] ∧ x[j] ≠ 46):=Lib.hid (by
         intro j hj
         refine ⟨by omega,?_,e2 _ (List.getElem_mem hj)⟩
         have h1 : (s.drop n)[j]? = some x[j]:=by rw [e1,List.getElem?_append_left hj,List.getElem?_eq_getElem hj]
         rw [List.getElem?_drop,List.getElem?_eq_getElem (by omega)] at h1
         exact Option.some.inj h1)
        have HCUT : Hid (List.take x.length (List.drop n s) = x):=Lib.hid (by rw [e1]; simp)
        have HJ1:=Lib.hid j1
        have HJ8:=Lib.hid j8
        have HE3 : Hid (y = [] ∧ splitD (s.drop n) = [x] ∨ ∃ t,y = 46 :: t ∧ splitD (s.drop n) = x :: splitD t):=Lib.hid e3
        have HY : Hid (List.drop (n + x.length) s = y):=Lib.hid (by rw [← List.drop_drop,e1]; simp)
        clear j1 j5 j7 j8 e1 e2 e3 hne HS
        go_upto_block 4 with fail
        go_cut [7] (fun z wx => z = .int .i64 (n + x.length : Nat) ∧ w5 = wx)
        case first =>
         go_wp2_with fail
         go_loopw [7] (fun z wr => ∃ j : Nat,z = .int .i64 (n + j : Nat) ∧ j ≤ x.length ∧ w5 = wr) (fun z _ => n + x.length - (intOf z).toNat)
         case atStart => exact ⟨0,by simp,by omega,rfl⟩
         case round =>
          obtain ⟨j,rfl,hj,rfl⟩:=hrel
          by_cases hj2 : j < x.length
          ·obtain ⟨q0,q1,q2⟩:=HXC.out j hj2
           have hcc : ((s[n + j].toNat : Int) != 46) = true:=by
            rw [q1,bne,show (46 : Int) = ((46 : UInt8).toNat : Int) from rfl,byte_eqN]
            simpa using fun e => q2 e.symm
           clear q1 q2
           go_wp2_with fail
           go_roundw
           case rel => exact ⟨j + 1,by go_num,by omega,by trivial⟩
           case measure => simp [intOf]; omega
          ·obtain rfl : j = x.length:=by omega
           rcases HE3.out with ⟨rfl,_⟩ | ⟨t,rfl,_⟩
           ·simp at hlen
            go_wp2_with fail
            go_meet
            exact ⟨by rw [hlen],rfl⟩
           ·have hq : n + x.length < s.length:=by simp at hlen; omega
            have hq2 : s[n + x.length] = 46:=by
             have h1:=HY.out
             rw [List.drop_eq_getElem_cons hq] at h1
             injection h1
            have hcc : ((s[n + x.length].toNat : Int) != 46) = false:=by rw [hq2]; rfl
            clear hq2
            go_wp2_with fail
            go_meet
            exact ⟨rfl,rfl⟩
        case rest =>
         obtain ⟨rfl,rfl⟩:=hcut
         obtain ⟨w6,rfl⟩ : ∃ x : World,x = w5:=⟨_,rfl⟩
         obtain ⟨K,hK⟩ : ∃ K,n + x.length = K:=⟨_,rfl⟩
         rw [hK]
         have hxl : K - n = x.length:=by omega
         obtain ⟨b,HB⟩ : ∃ b,Hid (segB x = b):=⟨_,Lib.hid rfl⟩
         have HXL : Hid (x.length ≤ 9223372036854775000):=Lib.hid (by omega)
         go_upto_region 14 with fail
         go_cut [82] (fun z wx => z = .bool (!b || decide (K + 1 = s.length)) ∧ w6 = wx)
         case first =>
          have HSEG:=Lib.hid (segmentB_is x b HB w6 HXL.out)
          by_cases hin : i < n
          ·have hq0 : n - 1 < s.length:=by omega
           have hq1 : s[n - 1] = 46:=by
            have:=HJ8.out hin
            rw [List.getElem?_eq_getElem hq0] at this
            exact Option.some.inj this
           have hcc : ((s[n - 1].toNat : Int) != 46) = false:=by rw [hq1]; rfl
           have hn1 : ((n : Int) - 1).toNat = n - 1:=by omega
           clear hq1
           go_wp2_with fail
           rw [HCUT.out]
           ((with_reducible refine HSEG.out.mono ?_))
           rintro e w7 ⟨rfl,rfl⟩
           cases b
           ·go_wp2_with fail
            go_meet
            exact ⟨rfl,rfl⟩
           ·by_cases hkl : K + 1 = s.length
            ·have hkb : ((K : Int) + 1 == (s.length : Int)) = true:=by rw [beq_iff_eq]; omega
             go_wp2_with fail
             go_meet
             exact ⟨by rw [decide_eq_true hkl]; rfl,rfl⟩
            ·have hkb : ((K : Int) + 1 == (s.length : Int)) = false:=by rw [beq_eq_false_iff_ne]; omega
             go_wp2_with fail
             go_meet
             exact ⟨by rw [decide_eq_false hkl]; rfl,rfl⟩
          ·go_wp2_with fail
           rw [HCUT.out]
           ((with_reducible refine HSEG.out.mono ?_))
           rintro e w7 ⟨rfl,rfl⟩
           cases b
           ·go_wp2_with fail
            go_meet
            exact ⟨rfl,rfl⟩
           ·by_cases hkl : K + 1 = s.length
            ·have hkb : ((K : Int) + 1 == (s.length : Int)) = true:=by rw [beq_iff_eq]; omega
             go_wp2_with fail
             go_meet
             exact ⟨by rw [decide_eq_true hkl]; rfl,rfl⟩
            ·have hkb : ((K : Int) + 1 == (s.length : Int)) = false:=by rw [beq_eq_false_iff_ne]; omega
             go_wp2_with fail
             go_meet
             exact ⟨by rw [decide_eq_false hkl]; rfl,rfl⟩
         case rest =>
          obtain ⟨rfl,rfl⟩:=hcut
          obtain ⟨w7,rfl⟩ : ∃ x : World,x = w6:=⟨_,rfl⟩
          cases hbad : (!b || decide (K + 1 = s.length))
          ·have hb1 : b = true ∧ K + 1 ≠ s.length:=by simpa using hbad
           obtain ⟨rfl,hK1⟩:=hb1
           clear hbad
           have hx1 : 1 ≤ x.length:=by
            by_cases h0 : x.length < 1
            ·have:=HB.out
             rw [segB_len x (.inl h0)] at this
             cases this
            ·omega
           have HS2 : Hid (SegJ s i (K + 1) (dn ++ [x])):=Lib.hid (by
            refine ⟨?_,by simp; omega,by omega,by omega,?_⟩
            ·intro z hz
             rcases List.mem_append.1 hz with hz | hz
             ·exact HJ1.out z hz
             ·rw [List.mem_singleton.1 hz]; exact HB.out
            ·rcases HE3.out with ⟨h1,h2⟩ | ⟨t,h1,h2⟩
             ·refine .inr ⟨by rw [h1] at hlen; simp at hlen; omega,?_⟩
              rw [HSP.out,h2]
             ·have hlt3 : K + 1 < s.length:=by rw [h1] at hlen; simp at hlen; omega
              have hdr : s.drop K = 46 :: t:=by rw [← hK,HY.out,h1]
              refine .inl ⟨hlt3,?_,fun _ => ?_⟩
              ·have : s.drop (K + 1) = t:=by rw [← List.drop_drop,hdr]; rfl
               rw [HSPL.out,h2,this]
               simp
              ·rw [show K + 1 - 1 = K from rfl]
               have hlt4 : K < s.length:=by omega
               rw [List.drop_eq_getElem_cons hlt4] at hdr
               injection hdr with h5 _
               rw [List.getElem?_eq_getElem hlt4,h5])
           have HCUT2 : Hid (List.take (K - n) (List.drop n s) = x):=Lib.hid (by rw [hxl]; exact HCUT.out)
           go_upto_region 16 with fail
           obtain ⟨d0,d1,d2⟩:=cells3 HQ.out.2.1
           have hS0 : ∀ z,SameAt w7 ⟨w.heap.size + 1,2,none⟩ z → z.cell? ⟨w.heap.size + 1,2,none⟩ = some (.slice a dn.length c):=fun z hz => hz.trans d2
           refine wp_region_plan (SameAt w7 ⟨w.heap.size + 1,2,none⟩) 7 [.reads [0,1,2,3,4,5],.act 6,.act 7,.act 8,.act 9] (by kernel_rfl) (by kernel_rfl) (by kernel_rfl) (by kernel_rfl) (by kernel_rfl) (fun _ _ d _ _ h => by cases d <;> exact h) rfl ?_
           refine wpPlan_reads ?_
           simp only [pickOps,List.drop_succ_cons,List.drop_zero,List.take_succ_cons,List.take_zero,List.cons_append,List.nil_append]
           repeat (go_big_quiet_step (first | (intro hb; rw [hS0 _ hb]; exact ⟨rfl,rfl⟩)))
           refine wpQuiet_nil ?_
           rw [HCUT.out]
           have HZ : Hid (w.heap.size + 2 ≤ w7.heap.size):=Lib.hid HQ.out.lt
           obtain ⟨k1,k2⟩:=newBox w7.drew (.cells #[.string ⟨x.toArray⟩] 9)
           have HQ8:=Lib.hid ((HQ.out.below (Grows.self w7)).below k1)
           have HO8:=Lib.hid (own_below (own_below HO.out (Grows.self w7)) k1)
           have H1:=Lib.hid (StrsAt.one (x:=x) k2)
           have HZ8 : Hid (w.heap.size + 2 ≤ (w7.drew.alloc (.cells #[.string ⟨x.toArray⟩] 9)).heap.size):=Lib.hid (Nat.le_trans HZ.out k1.size)
           clear k1 k2 HQ HO
           refine wpPlan_act rfl ?_
           simp only [pickOps,List.drop_succ_cons,List.drop_zero,List.take_succ_cons,List.take_zero,List.cons_append,List.nil_append]
           go_wp2_with fail
           refine ⟨fun _ => ?_,?_⟩
           ·exact (cells3 HQ8.out.2.1).2.2.trans d2.symm
           refine wpPlan_act rfl ?_
           simp only [pickOps,List.drop_succ_cons,List.drop_zero,List.take_succ_cons,List.take_zero,List.cons_append,List.nil_append]
           go_wp2_with (at_builtin; refine wpList_append_strs rfl _ _ rfl (w.heap.size + 2) _ dn rfl HO8.out (.slice (some ⟨w7.drew.heap.size,0,none⟩) 1 1) [x] rfl H1.out (by simp; omega) HZ8.out ?_; intro v9 w9 ho hg; obtain ⟨a9,c9,rfl⟩:=own_form ho; have HO9:=Lib.hid ho; have HQ9:=Lib.hid (HQ8.out.grown hg (fun g h => own_row HO8.out h)); clear ho hg HQ8 HO8 H1 HZ8)
           refine ⟨fun h => absurd h (by decide),?_⟩
           refine wpPlan_act rfl ?_
           simp only [pickOps,List.drop_succ_cons,List.drop_zero,List.take_succ_cons,List.take_zero,List.cons_append,List.nil_append]
           go_wp2_with fail
           refine ⟨fun h => absurd h (by decide),?_⟩
           clear hS0 d0 d1 d2
           obtain ⟨d0,d1,d2⟩:=cells3 HQ9.out.2.1
           have g2:=free3 HQ9.out.2.1 2
           have HQ10:=Lib.hid (HQ9.out.segs (.slice a9 (dn ++ [x]).length c9))
           have HO10:=Lib.hid (own_setCell HO9.out ⟨w.heap.size + 1,2,none⟩ (.slice a9 (dn ++ [x]).length c9) (by show w.heap.size + 1 < w.heap.size + 2; omega))
           clear HO9
           obtain ⟨D2,hD2⟩ : ∃ D,dn ++ [x] = D:=⟨_,rfl⟩
           have hD2l : D2.length = dn.length + 1:=by rw [← hD2]; simp
           rw [hD2] at HQ10 HO10 HS2
           rw [hD2l] at HQ10 HO10
           refine wpPlan_act rfl ?_
           simp only [pickOps,List.drop_succ_cons,List.drop_zero,List.take_succ_cons,List.take_zero,List.cons_append,List.nil_append]
           go_wp2_with fail
           refine ⟨fun h => absurd h (by decide),wpPlan_nil ?_⟩
           clear d0 d1 d2 g2 HQ9
           generalize (w9.setCell ⟨w.heap.size + 1,2,none⟩ (.slice a9 (dn.length + 1) c9)) = w10 at *
           go_wp2_with fail
           go_roundw
           case rel => exact ⟨K + 1,D2,a9,c9,by go_num,HS2,by rw [hD2l]; exact HQ10,by rw [hD2l]; exact HO10⟩
           case measure => simp [intOf]; omega
          ·have HBAD : Hid (parOk s = false):=Lib.hid (by
            unfold parOk
            rw [HSP.out]
            have hbb : b = false ∨ K + 1 = s.length:=by simpa using hbad
            rcases HE3.out with ⟨h1,h2⟩ | ⟨t,h1,h2⟩
            ·rw [h2]
             rcases hbb with rfl | hK1
             ·exact validB_bad (x:=x) (by simp) HB.out
             ·rw [h1] at hlen; simp at hlen; omega
            ·rw [h2]
             rcases hbb with rfl | hK1
             ·exact validB_bad (x:=x) (by simp) HB.out
             ·obtain rfl : t = []:=List.eq_nil_of_length_eq_zero (by rw [h1] at hlen; simp at hlen; omega)
              exact validB_bad (x:=[]) (by simp [splitD]) rfl)
           clear hbad
           obtain ⟨e0,e1,e2⟩:=cells3 HQ.out.1
           have i0:=free3 HQ.out.1 0
           have i1:=free3 HQ.out.1 1
           have i2:=free3 HQ.out.1 2
           go_wp2_with fail
           exact bodyPost_ret (ret_rparse _ _ _ _ _ _ rfl (put3 HQ.out.1 _ _ _)) rfl (parPost_no HBAD.out (bel3 HQ.out.2.2 (Nat.le_refl _) _ _ _))
       ·obtain ⟨j1,j2,j3,j4,j5⟩:=HS.out
        have hsg : parSegs s = dn:=by
         rcases j5 with ⟨h,_⟩ | ⟨_,h⟩
         ·exact absurd h hlt
         ·exact h
        have HX : Hid (∀ x ∈ dn,x.length ≤ 9223372036854775000):=Lib.hid (fun x hx => Nat.le_trans (segB_small (j1 x hx)) (by omega))
        have HSG:=Lib.hid hsg
        have HOK : Hid (parOk s = validB root k dn):=Lib.hid (by unfold parOk; rw [hsg,hroot.out,hN.out])
        have HV:=Lib.hid (validPath_any (.agg #[.bool root,.int .i64 k,.slice a dn.length c]) root k dn w5 (PathV.mk (StrsAt.of_own HO.out (by omega))) HX.out)
        have HZ : Hid (w.heap.size + 2 ≤ w5.heap.size):=Lib.hid HQ.out.lt
        clear j1 j3 j5 hsg
        obtain ⟨d0,d1,d2⟩:=cells3 HQ.out.2.1
        cases hv : validB root k dn
        all_goals
         rw [hv] at HOK
         rw [hv] at HV
         clear hv
         go_wp2_with fail
         ((with_reducible refine HV.out.mono ?_))
         rintro e w6 ⟨rfl,hb⟩
         have HQ6:=Lib.hid (HQ.out.below hb)
         have HO6:=Lib.hid (own_below HO.out hb)
         clear hb HV HQ HO d0 d1 d2
         obtain ⟨d0,d1,d2⟩:=cells3 HQ6.out.2.1
         obtain ⟨e0,e1,e2⟩:=cells3 HQ6.out.1
         have i0:=free3 HQ6.out.1 0
         have i1:=free3 HQ6.out.1 1
         have i2:=free3 HQ6.out.1 2
         go_wp2_with fail
        ·exact bodyPost_ret (ret_rparse _ _ _ _ _ _ rfl (put3 HQ6.out.1 _ _ _)) rfl (parPost_no HOK.out (bel3 HQ6.out.2.2 (Nat.le_refl _) _ _ _))
        ·refine bodyPost_ret (ret_rparse _ _ _ _ _ _ rfl (put3 HQ6.out.1 _ _ _)) rfl ?_
         have:=parPost_yes (v:=.slice a dn.length c) HOK.out (by rw [HSG.out]; exact own_base (own_set3 HO6.out w.heap.size (.bool root) (.int .i64 k) (.slice a dn.length c) (by omega)) (by omega)) (bel3 HQ6.out.2.2 (Nat.le_refl _) (.bool root) (.int .i64 k) (.slice a dn.length c))
         rw [hroot.out,hN.out] at this
         exact this
     ·obtain rfl : root = false:=by cases root with
       | false => rfl
       | true => cases hb
      obtain ⟨t,ht⟩:=hasPre_caret (s.drop i) (by simpa using hb)
      have hlt : i < s.length:=by
       have:=congrArg List.length ht
       simp at this
       omega
      have HJ3 : Hid (CarJ false N R (k + 1) (s.drop (i + 1))):=Lib.hid (by
       have h1:=HJ.out
       rw [ht] at h1
       have h2:=h1.step
       have h3 : s.drop (i + 1) = t:=by
        have : s.drop (i + 1) = (s.drop i).drop 1:=by rw [List.drop_drop]
        rw [this,ht]; rfl
       rw [h3]
       exact h2)
      have HQ3:=Lib.hid (HQ.out.up ((k : Int) + 1))
      clear hb HJ HQ ht
      go_wp2_with fail
      go_roundw
      case rel => exact ⟨k + 1,by rw [← hi]; go_num,by omega,by rw [← Nat.add_assoc,hi]; exact HJ3,Lib.hid (by have:=HQ3.out; exact_mod_cast this)⟩
      case measure => simp [intOf]; omega
end Go.Proofs.YtoohondkpddmcaaGreatDoor
