/- Tki Tkj -/
import Derived.Test.YtnicnfchkdmieaaGreatDoorXad
set_option linter.unusedVariables false
set_option linter.unusedSimpArgs false
namespace Go.Proofs.YtnicnfchkdmieaaGreatDoor
section
open Go.RowKit
attribute [local go_sem] ByteArray.mk_append_mk bs_get bs_cut bs_end
def escL : List UInt8 → Option (UInt8 × Nat)
 | _ :: 34 :: _ => some (34,2)
 | _ :: 92 :: _ => some (92,2)
 | _ :: 120 :: h :: l :: _ => match hexV h,hexV l with
   | some a,some b => some (UInt8.ofNat (a * 16 + b),4)
   | _,_ => none
 | _ => none
theorem textF_esc (r v : List UInt8) : textF (92 :: r) v = match escL (92 :: r) with
  | some (b,n) => textF ((92 :: r).drop n) (v ++ [b])
  | none => none:=by
 generalize hE : escL (92 :: r) = E
 unfold escL at hE
 split at hE
 ·next heq => injection heq with _ h; subst h hE; rw [textF]; rfl
 ·next heq => injection heq with _ h; subst h hE; rw [textF]; rfl
 ·next h l t heq =>
  injection heq with _ h'; subst h' hE
  rw [textF]
  cases hexV h with
  | none => rfl
  | some x => cases hexV l with
    | none => rfl
    | some y => rfl
 ·next h1 h2 h3 =>
  subst hE
  rw [textF]
  ·intro t h; subst h; exact h1 _ _ rfl
  ·intro t h; subst h; exact h2 _ _ rfl
  ·intro a b t h; subst h; exact h3 _ _ _ _ rfl
theorem textF_plain {c : UInt8} {r v : List UInt8} (h1 : c ≠ 34) (h2 : c ≠ 92) : textF (c :: r) v = if 32 ≤ c.toNat ∧ c.toNat ≤ 126 then textF r (v ++ [c]) else none:=by
 rw [textF]
 ·intro h; exact h1 h
 all_goals (intros; simp_all)
theorem textF_quote (r v : List UInt8) : textF (34 :: r) v = if 255 < v.length then none else some (v,r):=by rw [textF]
theorem textF_long : ∀ (n : Nat) (s v : List UInt8),s.length ≤ n → 255 < v.length → textF s v = none
 | 0,s,v,hs,hv => by
   have : s = []:=List.eq_nil_of_length_eq_zero (by omega)
   subst this; rfl
 | n + 1,[],v,hs,hv => rfl
 | n + 1,c :: r,v,hs,hv => by
   simp only [List.length_cons] at hs
   by_cases h1 : c = 34
   ·subst h1; rw [textF_quote,if_pos hv]
   ·by_cases h2 : c = 92
    ·subst h2
     rw [textF_esc]
     split
     ·next b m he =>
      have hm : 1 ≤ m:=by
       unfold escL at he
       split at he
       ·injection he with he; injection he with _ he; omega
       ·injection he with he; injection he with _ he; omega
       ·split at he
        ·injection he with he; injection he with _ he; omega
        ·cases he
       ·cases he
      exact textF_long n _ _ (by rw [List.length_drop,List.length_cons]; omega) (by rw [List.length_append]; omega)
     ·rfl
    ·rw [textF_plain h1 h2]
     split
     ·exact textF_long n _ _ (by omega) (by rw [List.length_append]; omega)
     ·rfl
def EscPost (o : Option (UInt8 × Nat)) (w : World) (e : Ending) (w' : World) : Prop:=(∃ (b : UInt8) (n : Nat),e = .returned (.tuple #[.int .u8 b.toNat,.int .i64 n,.bool o.isSome]) ∧ ∀ x,o = some x → x = (b,n)) ∧ w = w'
theorem or16b (a b : Nat) (ha : a < 16) (hb : b < 16) : bits .or .u8 ((a : Int) * 16) (b : Int) = ((UInt8.ofNat (a * 16 + b)).toNat : Int):=by
 have : ∀ a : Fin 16,∀ b : Fin 16,bits .or .u8 (((a : Nat) : Int) * 16) ((b : Nat) : Int) = ((UInt8.ofNat ((a : Nat) * 16 + (b : Nat))).toNat : Int):=by decide +kernel
 exact this ⟨a,ha⟩ ⟨b,hb⟩
theorem byte_cases (b d : UInt8) (n : Int) (hn : (d.toNat : Int) = n) : (b = d ∧ ((b.toNat : Int) == n) = true) ∨ (b ≠ d ∧ ((b.toNat : Int) == n) = false):=by
 subst hn
 by_cases h : b = d
 ·left; subst h; exact ⟨rfl,by simp⟩
 ·right; exact ⟨h,by rw [byte_eq,beq_eq_false_iff_ne]; exact fun h' => h h'.symm⟩
def escP (o1 o2 : Option Nat) : Option (UInt8 × Nat):=match o1,o2 with
 | some x,some y => some (UInt8.ofNat (x * 16 + y),4)
 | _,_ => none
theorem hex_is (c : UInt8) (o : Option Nat) (H : hexV c = o) (w : World) : Calls Tryz.prog 138 #[.int .u8 c.toNat] w fun e w' => e = .returned (.tuple #[.int .u8 (o.getD 0 : Nat),.bool o.isSome]) ∧ w = w':=by
 rw [← H]; exact tHex_any c w
theorem escL_other {a b : UInt8} {r : List UInt8} (h1 : b ≠ 34) (h2 : b ≠ 92) (h3 : b ≠ 120) : escL (a :: b :: r) = none:=by
 unfold escL
 split
 ·next heq => injection heq with _ h; injection h with h _; exact absurd h h1
 ·next heq => injection heq with _ h; injection h with h _; exact absurd h h2
 ·next heq => injection heq with _ h; injection h with h _; exact absurd h h3
 ·rfl
theorem escL_short {a : UInt8} {r : List UInt8} (h : r.length < 2) : escL (a :: 120 :: r) = none:=by
 unfold escL
 split
 ·next heq => injection heq with _ h; injection h with h _; cases h
 ·next heq => injection heq with _ h; injection h with h _; cases h
 ·next heq => injection heq with _ h'; injection h' with _ h'; subst h'; simp only [List.length_cons] at h; omega
 ·rfl
theorem escL_hex (a h l : UInt8) (r : List UInt8) : escL (a :: 120 :: h :: l :: r) = escP (hexV h) (hexV l):=rfl
set_option maxRecDepth 100000 in
set_option maxHeartbeats 4000000 in
theorem tEsc_any (s : List UInt8) (w : World) (hs : s.length ≤ 9223372036854775000) (h1 : 1 ≤ s.length) :
  Calls Tryz.prog 141 #[.string ⟨s.toArray⟩] w (EscPost (escL s) w):=by
 match s,h1 with
 | [a],_ =>
   go_enter Tryz.func141,Tryz.ntmps141
   go_wp2_with fail
   go_ret3
   exact ⟨⟨0,0,rfl,fun x h => by cases h⟩,rfl⟩
 | a :: b :: r,_ =>
   have H34:=Lib.hid (byte_cases b 34 34 rfl)
   have H92:=Lib.hid (byte_cases b 92 92 rfl)
   have H120:=Lib.hid (byte_cases b 120 120 rfl)
   obtain ⟨X,hX⟩ : ∃ X,Hid (escL (a :: b :: r) = X):=⟨_,Lib.hid rfl⟩
   rw [hX.out]
   go_enter Tryz.func141,Tryz.ntmps141
   rcases H34.out with ⟨e1,h34⟩ | ⟨e1,h34⟩
   ·have HX : Hid (X = some (b,2)):=Lib.hid (by rw [← hX.out,e1] <;> rfl)
    clear e1
    go_wp2_with fail
    go_ret3
    exact ⟨⟨b,2,by rw [HX.out]; rfl,fun x h => by rw [HX.out] at h; injection h with h; exact h.symm⟩,rfl⟩
   rcases H92.out with ⟨e2,h92⟩ | ⟨e2,h92⟩
   ·have HX : Hid (X = some (b,2)):=Lib.hid (by rw [← hX.out,e2] <;> rfl)
    clear e1 e2
    go_wp2_with fail
    go_ret3
    exact ⟨⟨b,2,by rw [HX.out]; rfl,fun x h => by rw [HX.out] at h; injection h with h; exact h.symm⟩,rfl⟩
   rcases H120.out with ⟨e3,h120⟩ | ⟨e3,h120⟩
   ·match r with
    | [] =>
      have HX : Hid (X = none):=Lib.hid (by rw [← hX.out,e3] <;> rfl)
      clear e1 e2 e3
      go_wp2_with fail
      go_ret3
      exact ⟨⟨0,0,by rw [HX.out]; rfl,fun x h => by rw [HX.out] at h; cases h⟩,rfl⟩
    | [h] =>
      have HX : Hid (X = none):=Lib.hid (by rw [← hX.out,e3] <;> rfl)
      clear e1 e2 e3
      go_wp2_with fail
      go_ret3
      exact ⟨⟨0,0,by rw [HX.out]; rfl,fun x h => by rw [HX.out] at h; cases h⟩,rfl⟩
    | h :: l :: r =>
      obtain ⟨o1,ho1⟩ : ∃ o,hexV h = o:=⟨_,rfl⟩
      obtain ⟨o2,ho2⟩ : ∃ o,hexV l = o:=⟨_,rfl⟩
      have HX : Hid (X = escP o1 o2):=Lib.hid (by rw [← hX.out,e3,escL_hex,ho1,ho2])
      have K1:=Lib.hid (hex_is h o1 ho1 w)
      have K2:=Lib.hid (hex_is l o2 ho2 w)
      have hx1 : Hid (o1.getD 0 < 16):=Lib.hid (by cases o1 with
       | none => decide
       | some x => exact hexV_lt ho1)
      have hx2 : Hid (o2.getD 0 < 16):=Lib.hid (by cases o2 with
       | none => decide
       | some x => exact hexV_lt ho2)
      have HO:=Lib.hid (or16b _ _ hx1.out hx2.out)
      clear e1 e2 e3 ho1 ho2 hX
      obtain ⟨n1,hn1⟩ : ∃ n,Hid (o1.getD 0 = n):=⟨_,Lib.hid rfl⟩
      obtain ⟨n2,hn2⟩ : ∃ n,Hid (o2.getD 0 = n):=⟨_,Lib.hid rfl⟩
      obtain ⟨s1,hs1⟩ : ∃ n,Hid (o1.isSome = n):=⟨_,Lib.hid rfl⟩
      obtain ⟨s2,hs2⟩ : ∃ n,Hid (o2.isSome = n):=⟨_,Lib.hid rfl⟩
      rw [hn1.out,hs1.out] at K1
      rw [hn2.out,hs2.out] at K2
      rw [hn1.out,hn2.out] at HO
      rw [hn1.out] at hx1
      rw [hn2.out] at hx2
      have hlt1:=hx1.out
      have hlt2:=hx2.out
      obtain ⟨B,hB⟩ : ∃ B,Hid (UInt8.ofNat (n1 * 16 + n2) = B):=⟨_,Lib.hid rfl⟩
      have ho:=HO.out
      rw [hB.out] at ho
      have HF : Hid (X.isSome = (s1 && s2) ∧ ∀ x,X = some x → x = (B,4)):=Lib.hid (by
       rw [HX.out,← hs1.out,← hs2.out,← hB.out,← hn1.out,← hn2.out]
       cases o1 with
       | none => exact ⟨rfl,fun x h => by cases h⟩
       | some p => cases o2 with
         | none => exact ⟨rfl,fun x h => by cases h⟩
         | some q => exact ⟨rfl,fun x h => by injection h with h; exact h.symm⟩)
      clear HO hn1 hn2 hs1 hs2 hB HX
      go_wp2_with fail
      ((with_reducible refine K1.out.mono ?_))
      rintro e w2 ⟨rfl,rfl⟩
      go_wp2_with fail
      ((with_reducible refine K2.out.mono ?_))
      rintro e w2 ⟨rfl,rfl⟩
      clear K1 K2
      cases s1
      ·go_wp2_with fail
       go_ret3
       exact ⟨⟨B,4,by rw [HF.out.1]; simp [ho],HF.out.2⟩,rfl⟩
      ·go_wp2_with fail
       go_ret3
       exact ⟨⟨B,4,by rw [HF.out.1]; simp [ho],HF.out.2⟩,rfl⟩
   ·have HX : Hid (X = none):=Lib.hid (by rw [← hX.out]; exact escL_other e1 e2 e3)
    clear e1 e2 e3
    go_wp2_with fail
    go_ret3
    exact ⟨⟨0,0,by rw [HX.out]; rfl,fun x h => by rw [HX.out] at h; cases h⟩,rfl⟩
end
section
open Go.RowKit
attribute [local go_sem] ByteArray.mk_append_mk bs_get bs_cut bs_end
theorem Bytes.alloc {w : World} {B : Nat} {v : Value} {l : List UInt8} (h : Bytes w B v l) (o : Obj) : Bytes (w.alloc o) B v l:=h.below ((Below.refl _ _).alloc (Nat.le_refl _) o)
theorem escL_le {s : List UInt8} {b : UInt8} {n : Nat} (h : escL s = some (b,n)) : 1 ≤ n ∧ n ≤ s.length:=by
 unfold escL at h
 split at h
 ·injection h with h; injection h with _ h; subst h; simp
 ·injection h with h; injection h with _ h; subst h; simp
 ·split at h
  ·injection h with h; injection h with _ h; subst h; simp
  ·cases h
 ·cases h
def escGo (o : Option (UInt8 × Nat)) (s l : List UInt8) : Option (List UInt8 × List UInt8):=match o with
 | some (b,n) => textF (s.drop n) (l ++ [b])
 | none => none
theorem textF_escGo (r v : List UInt8) : textF (92 :: r) v = escGo (escL (92 :: r)) (92 :: r) v:=textF_esc r v
def textTup (o : Option (List UInt8 × List UInt8)) (n : Nat) : Value:=match o with
 | some (v,r) => .tuple #[.string ⟨v.toArray⟩,.int .i64 ((n - r.length : Nat) : Int),.bool true]
 | none => .tuple #[.string ⟨#[]⟩,.int .i64 0,.bool false]
theorem textF_end {s v : List UInt8} {p : Nat} (h : s.length ≤ p) : textF (s.drop p) v = none:=by
 rw [List.drop_eq_nil_of_le h]; rfl
theorem textF_at {s : List UInt8} {p : Nat} (h : p < s.length) (v : List UInt8) : textF (s.drop p) v = textF (s[p] :: s.drop (p + 1)) v:=by
 rw [List.drop_eq_getElem_cons h]
set_option maxRecDepth 100000 in
set_option maxHeartbeats 4000000 in
theorem tText_any (s : List UInt8) (p0 : Nat) (w : World) (hs : s.length ≤ 9223372036854770000) (h1 : p0 < s.length) :
  Calls Tryz.prog 98 #[.string ⟨s.toArray⟩,.int .i64 p0] w fun e w' => e = .returned (textTup (textF (s.drop (p0 + 1)) []) s.length) ∧ Below w.heap.size w w':=by
 obtain ⟨X,hX⟩ : ∃ X,Hid (textF (s.drop (p0 + 1)) [] = X):=⟨_,Lib.hid rfl⟩
 rw [hX.out]
 go_enter Tryz.func98,Tryz.ntmps98
 go_wp2_with fail
 go_loopw [1,7] (fun i v wr => ∃ (p : Nat) (l : List UInt8),i = .int .i64 p ∧ p ≤ s.length ∧ l.length ≤ 256 ∧ Hid (X = textF (s.drop p) l) ∧ Hid (Bytes wr w.heap.size v l) ∧ Hid (Below w.heap.size w wr)) (fun i _ _ => s.length - (intOf i).toNat)
 case atStart => exact ⟨p0 + 1,[],by go_num,by omega,by simp,Lib.hid hX.out.symm,Lib.hid (Bytes.nil _ _),Lib.hid (Below.refl _ _)⟩
 case round =>
  obtain ⟨p,l,rfl,hp,hl,HX,HO,HB⟩:=hrel
  obtain ⟨av,cv,hv⟩:=HO.out.form
  subst hv
  obtain ⟨w1,rfl⟩ : ∃ x : World,x = wr:=⟨_,rfl⟩
  by_cases hlt : p < s.length
  ·by_cases h255 : (l.length : Int) ≤ 255
   ·have HT:=Lib.hid (textF_at hlt l)
    have H34:=Lib.hid (byte_cases s[p] 34 34 rfl)
    have H92:=Lib.hid (byte_cases s[p] 92 92 rfl)
    have HC:=Lib.hid (fun (h1 : s[p] ≠ 34) (h2 : s[p] ≠ 92) => (textF_plain (r:=s.drop (p + 1)) (v:=l) h1 h2))
    rcases H34.out with ⟨e1,h34⟩ | ⟨e1,h34⟩
    ·have HX2 : Hid (X = some (l,s.drop (p + 1))):=Lib.hid (by rw [HX.out,HT.out,e1,textF_quote,if_neg (by omega)])
     have hcv:=HO.out.conv
     clear e1 H34 H92 HC HT
     go_wp2_with fail
     go_ret3
     refine ⟨?_,HB.out⟩
     rw [HX2.out]
     unfold textTup
     simp only [List.length_drop]
     rw [show s.length - (s.length - (p + 1)) = p + 1 by omega]
     rfl
    rcases H92.out with ⟨e2,h92⟩ | ⟨e2,h92⟩
    ·have HE:=Lib.hid (tEsc_any (s.drop p) w1 (by rw [List.length_drop]; omega) (by rw [List.length_drop]; omega))
     obtain ⟨o,ho⟩ : ∃ o,Hid (escL (s.drop p) = o):=⟨_,Lib.hid rfl⟩
     have HX2 : Hid (X = escGo o (s.drop p) l):=Lib.hid (by
      have e : s.drop p = 92 :: s.drop (p + 1):=by rw [List.drop_eq_getElem_cons hlt,e2]
      rw [HX.out,← ho.out,e,textF_escGo])
     rw [ho.out] at HE
     clear e1 e2 H34 H92 HC HT
     go_wp2_with fail
     ((with_reducible refine HE.out.mono ?_))
     rintro e w2 ⟨⟨b,n,rfl,HN⟩,rfl⟩
     cases o with
     | none =>
       simp only [Option.isSome_none]
       go_wp2_with fail
       go_ret3
       exact ⟨by rw [HX2.out]; rfl,HB.out⟩
     | some x =>
       obtain rfl:=HN _ rfl
       obtain ⟨hn1,hn2⟩:=escL_le ho.out
       rw [List.length_drop] at hn2
       have HX3 : Hid (X = textF (s.drop (p + n)) (l ++ [b])):=Lib.hid (by rw [HX2.out]; unfold escGo; simp only [List.drop_drop])
       clear HN HX2 ho HE
       simp only [Option.isSome_some]
       go_wp2_with (at_builtin; refine wpList_append_byte rfl _ _ rfl w.heap.size _ l rfl (HO.out.alloc _) b _ rfl (heap_alloc_new _ _) (by omega) (HB.out.alloc HB.out.size _).size ?_; intro v3 w3 ho hg; have HO3:=Lib.hid ho; have HB3:=Lib.hid (Bytes.kept (HO.out.alloc _) (HB.out.alloc HB.out.size _) hg (HB.out.alloc HB.out.size _).size (Nat.le_refl _)); clear ho hg)
       go_roundw
       case rel => exact ⟨p + n,l ++ [b],by go_num,by omega,by rw [List.length_append]; simp; omega,HX3,HO3,HB3⟩
       case measure => simp [intOf]; omega
    ·have HX2:=Lib.hid (HC.out e1 e2)
     clear e1 e2 H34 H92 HC
     have hc:=s[p].toNat_lt
     by_cases h3 : (32 : Int) ≤ (s[p].toNat : Int)
     ·by_cases h4 : (s[p].toNat : Int) ≤ 126
      ·have HX3 : Hid (X = textF (s.drop (p + 1)) (l ++ [s[p]])):=Lib.hid (by rw [HX.out,HT.out,HX2.out,if_pos (by omega)])
       clear HT HX HX2
       go_wp2_with (at_builtin; refine wpList_append_byte rfl _ _ rfl w.heap.size _ l rfl (HO.out.alloc _) s[p] _ rfl (heap_alloc_new _ _) (by omega) (HB.out.alloc HB.out.size _).size ?_; intro v3 w3 ho hg; have HO3:=Lib.hid ho; have HB3:=Lib.hid (Bytes.kept (HO.out.alloc _) (HB.out.alloc HB.out.size _) hg (HB.out.alloc HB.out.size _).size (Nat.le_refl _)); clear ho hg)
       go_roundw
       case rel => exact ⟨p + 1,l ++ [s[p]],by go_num,by omega,by rw [List.length_append]; simp; omega,HX3,HO3,HB3⟩
       case measure => simp [intOf]; omega
      ·have HX3 : Hid (X = none):=Lib.hid (by rw [HX.out,HT.out,HX2.out,if_neg (by omega)])
       clear HT HX HX2
       go_wp2_with fail
       go_ret3
       exact ⟨by rw [HX3.out]; rfl,HB.out⟩
     ·have HX3 : Hid (X = none):=Lib.hid (by rw [HX.out,HT.out,HX2.out,if_neg (by omega)])
      clear HT HX HX2
      go_wp2_with fail
      go_ret3
      exact ⟨by rw [HX3.out]; rfl,HB.out⟩
   ·have HX3 : Hid (X = none):=Lib.hid (by rw [HX.out]; exact textF_long _ _ _ (Nat.le_refl _) (by omega))
    clear HX
    go_wp2_with fail
    go_ret3
    exact ⟨by rw [HX3.out]; rfl,HB.out⟩
  ·have HX3 : Hid (X = none):=Lib.hid (by rw [HX.out]; exact textF_end (by omega))
   clear HX
   go_wp2_with fail
   go_ret3
   exact ⟨by rw [HX3.out]; rfl,HB.out⟩
end
end Go.Proofs.YtnicnfchkdmieaaGreatDoor
