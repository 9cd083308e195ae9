/- Tkj -/
import Derived.Test.YtoohondkpddmcaaGreatDoorVaf
set_option linter.unusedVariables false
set_option linter.unusedSimpArgs false
namespace Go.Proofs.YtoohondkpddmcaaGreatDoor
open Go.RowKit
attribute [local go_sem] ByteArray.mk_append_mk bs_get bs_cut bs_end
theorem Bytes.alloc {w : World} {B : Nat} {v : Value} {l : List UInt8} (h : Bytes w B v l) (o : Obj) : Bytes (w.alloc o) B v l:=h.below ((Below.refl _ _).alloc (Nat.le_refl _) o)
theorem escL_le {s : List UInt8} {b : UInt8} {n : Nat} (h : escL s = some (b,n)) : 1 ≤ n ∧ n ≤ s.length:=by
 unfold escL at h
 split at h
 ·injection h with h; injection h with _ h; subst h; simp
 ·injection h with h; injection h with _ h; subst h; simp
 ·split at h
  ·injection h with h; injection h with _ h; subst h; simp
  ·cases h
 ·cases h
def escGo (o : Option (UInt8 × Nat)) (s l : List UInt8) : Option (List UInt8 × List UInt8):=match o with
 | some (b,n) => textF (s.drop n) (l ++ [b])
 | none => none
theorem textF_escGo (r v : List UInt8) : textF (92 :: r) v = escGo (escL (92 :: r)) (92 :: r) v:=textF_esc r v
def textTup (o : Option (List UInt8 × List UInt8)) (n : Nat) : Value:=match o with
 | some (v,r) => .tuple #[.string ⟨v.toArray⟩,.int .i64 ((n - r.length : Nat) : Int),.bool true]
 | none => .tuple #[.string ⟨#[]⟩,.int .i64 0,.bool false]
theorem textF_end {s v : List UInt8} {p : Nat} (h : s.length ≤ p) : textF (s.drop p) v = none:=by
 rw [List.drop_eq_nil_of_le h]; rfl
theorem textF_at {s : List UInt8} {p : Nat} (h : p < s.length) (v : List UInt8) : textF (s.drop p) v = textF (s[p] :: s.drop (p + 1)) v:=by
 rw [List.drop_eq_getElem_cons h]
set_option maxRecDepth 100000 in
set_option maxHeartbeats 4000000 in
theorem tText_any (s : List UInt8) (p0 : Nat) (w : World) (hs : s.length ≤ 9223372036854770000) (h1 : p0 < s.length) :
  Calls Tryz.prog 72 #[.string ⟨s.toArray⟩,.int .i64 p0] w fun e w' => e = .returned (textTup (textF (s.drop (p0 + 1)) []) s.length) ∧ Below w.heap.size w w':=by
 obtain ⟨X,hX⟩ : ∃ X,Hid (textF (s.drop (p0 + 1)) [] = X):=⟨_,Lib.hid rfl⟩
 rw [hX.out]
 go_enter Tryz.func72,Tryz.ntmps72
 go_wp2_with fail
 go_loopw [1,7] (fun i v wr => ∃ (p : Nat) (l : List UInt8),i = .int .i64 p ∧ p ≤ s.length ∧ l.length ≤ 256 ∧ Hid (X = textF (s.drop p) l) ∧ Hid (Bytes wr w.heap.size v l) ∧ Hid (Below w.heap.size w wr)) (fun i _ _ => s.length - (intOf i).toNat)
 case atStart => exact ⟨p0 + 1,[],by go_num,by omega,by simp,Lib.hid hX.out.symm,Lib.hid (Bytes.nil _ _),Lib.hid (Below.refl _ _)⟩
 case round =>
  obtain ⟨p,l,rfl,hp,hl,HX,HO,HB⟩:=hrel
  obtain ⟨av,cv,hv⟩:=HO.out.form
  subst hv
  obtain ⟨w1,rfl⟩ : ∃ x : World,x = wr:=⟨_,rfl⟩
  by_cases hlt : p < s.length
  ·by_cases h255 : (l.length : Int) ≤ 255
   ·have HT:=Lib.hid (textF_at hlt l)
    have H34:=Lib.hid (byte_cases s[p] 34 34 rfl)
    have H92:=Lib.hid (byte_cases s[p] 92 92 rfl)
    have HC:=Lib.hid (fun (h1 : s[p] ≠ 34) (h2 : s[p] ≠ 92) => (textF_plain (r:=s.drop (p + 1)) (v:=l) h1 h2))
    rcases H34.out with ⟨e1,h34⟩ | ⟨e1,h34⟩
    ·have HX2 : Hid (X = some (l,s.drop (p + 1))):=Lib.hid (by rw [HX.out,HT.out,e1,textF_quote,if_neg (by omega)])
     have hcv:=HO.out.conv
     clear e1 H34 H92 HC HT
     go_wp2_with fail
     go_ret3
     refine ⟨?_,HB.out⟩
     rw [HX2.out]
     unfold textTup
     simp only [List.length_drop]
     rw [show s.length - (s.length - (p + 1)) = p + 1 by omega]
     rfl
    rcases H92.out with ⟨e2,h92⟩ | ⟨e2,h92⟩
    ·have HE:=Lib.hid (tEsc_any (s.drop p) w1 (by rw [List.length_drop]; omega) (by rw [List.length_drop]; omega))
     obtain ⟨o,ho⟩ : ∃ o,Hid (escL (s.drop p) = o):=⟨_,Lib.hid rfl⟩
     have HX2 : Hid (X = escGo o (s.drop p) l):=Lib.hid (by
      have e : s.drop p = 92 :: s.drop (p + 1):=by rw [List.drop_eq_getElem_cons hlt,e2]
      rw [HX.out,← ho.out,e,textF_escGo])
     rw [ho.out] at HE
     clear e1 e2 H34 H92 HC HT
     go_wp2_with fail
     ((with_reducible refine HE.out.mono ?_))
     rintro e w2 ⟨⟨b,n,rfl,HN⟩,rfl⟩
     cases o with
     | none =>
       simp only [Option.isSome_none]
       go_wp2_with fail
       go_ret3
       exact ⟨by rw [HX2.out]; rfl,HB.out⟩
     | some x =>
       obtain rfl:=HN _ rfl
       obtain ⟨hn1,hn2⟩:=escL_le ho.out
       rw [List.length_drop] at hn2
       have HX3 : Hid (X = textF (s.drop (p + n)) (l ++ [b])):=Lib.hid (by rw [HX2.out]; unfold escGo; simp only [List.drop_drop])
       clear HN HX2 ho HE
       simp only [Option.isSome_some]
       go_wp2_with (at_builtin; refine wpList_append_byte rfl _ _ rfl w.heap.size _ l rfl (HO.out.alloc _) b _ rfl (heap_alloc_new _ _) (by omega) (HB.out.alloc HB.out.size _).size ?_; intro v3 w3 ho hg; have HO3:=Lib.hid ho; have HB3:=Lib.hid (Bytes.kept (HO.out.alloc _) (HB.out.alloc HB.out.size _) hg (HB.out.alloc HB.out.size _).size (Nat.le_refl _)); clear ho hg)
       go_roundw
       case rel => exact ⟨p + n,l ++ [b],by go_num,by omega,by rw [List.length_append]; simp; omega,HX3,HO3,HB3⟩
       case measure => simp [intOf]; omega
    ·have HX2:=Lib.hid (HC.out e1 e2)
     clear e1 e2 H34 H92 HC
     have hc:=s[p].toNat_lt
     by_cases h3 : (32 : Int) ≤ (s[p].toNat : Int)
     ·by_cases h4 : (s[p].toNat : Int) ≤ 126
      ·have HX3 : Hid (X = textF (s.drop (p + 1)) (l ++ [s[p]])):=Lib.hid (by rw [HX.out,HT.out,HX2.out,if_pos (by omega)])
       clear HT HX HX2
       go_wp2_with (at_builtin; refine wpList_append_byte rfl _ _ rfl w.heap.size _ l rfl (HO.out.alloc _) s[p] _ rfl (heap_alloc_new _ _) (by omega) (HB.out.alloc HB.out.size _).size ?_; intro v3 w3 ho hg; have HO3:=Lib.hid ho; have HB3:=Lib.hid (Bytes.kept (HO.out.alloc _) (HB.out.alloc HB.out.size _) hg (HB.out.alloc HB.out.size _).size (Nat.le_refl _)); clear ho hg)
       go_roundw
       case rel => exact ⟨p + 1,l ++ [s[p]],by go_num,by omega,by rw [List.length_append]; simp; omega,HX3,HO3,HB3⟩
       case measure => simp [intOf]; omega
      ·have HX3 : Hid (X = none):=Lib.hid (by rw [HX.out,HT.out,HX2.out,if_neg (by omega)])
       clear HT HX HX2
       go_wp2_with fail
       go_ret3
       exact ⟨by rw [HX3.out]; rfl,HB.out⟩
     ·have HX3 : Hid (X = none):=Lib.hid (by rw [HX.out,HT.out,HX2.out,if_neg (by omega)])
      clear HT HX HX2
      go_wp2_with fail
      go_ret3
      exact ⟨by rw [HX3.out]; rfl,HB.out⟩
   ·have HX3 : Hid (X = none):=Lib.hid (by rw [HX.out]; exact textF_long _ _ _ (Nat.le_refl _) (by omega))
    clear HX
    go_wp2_with fail
    go_ret3
    exact ⟨by rw [HX3.out]; rfl,HB.out⟩
  ·have HX3 : Hid (X = none):=Lib.hid (by rw [HX.out]; exact textF_end (by omega))
   clear HX
   go_wp2_with fail
   go_ret3
   exact ⟨by rw [HX3.out]; rfl,HB.out⟩
end Go.Proofs.YtoohondkpddmcaaGreatDoor
