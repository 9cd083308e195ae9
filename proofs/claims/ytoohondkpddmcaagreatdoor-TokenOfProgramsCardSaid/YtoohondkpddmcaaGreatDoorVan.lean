/- Tlb Tlc Tld Tlf Tlg Tkv -/
import Derived.Test.YtoohondkpddmcaaGreatDoorVam
import Derived.Test.YtoohondkpddmcaaGreatDoorVal
set_option linter.unusedVariables false
set_option linter.unusedSimpArgs false
namespace Go.Proofs.YtoohondkpddmcaaGreatDoor
section
open Go.RowKit
attribute [local go_sem] ByteArray.mk_append_mk bs_get bs_cut bs_end
structure TokI where
 kind : Int
 num : Int
 str : List UInt8
 pos : Int
deriving DecidableEq
def TokI.val (t : TokI) : Value:=tokV t.kind t.num t.str t.pos
def Tok.toI (t : Tok) : TokI:=⟨t.kind,t.num,t.str,t.pos⟩
abbrev tObj (a b : Int) (c : List UInt8) (d : Int) : Obj:=.cells #[.int .i64 a,.int .u64 b,.string ⟨c.toArray⟩,.int .i64 d] 34 (0,0)
def bareT (t : TokI) : TokI:=if t.kind = 1 ∨ t.kind = 2 ∨ t.kind = 4 then ⟨t.kind,0,t.str,0⟩ else if t.kind = 3 then ⟨t.kind,t.num,[],0⟩ else ⟨t.kind,0,[],0⟩
set_option maxRecDepth 100000 in
set_option maxHeartbeats 4000000 in
theorem bare_any (k n d : Int) (s : List UInt8) (w : World) : Calls Tryz.prog 40 #[tokV k n s d] w fun e w' => e = .returned (bareT ⟨k,n,s,d⟩).val ∧ Below w.heap.size w w':=by
 obtain ⟨X,hX⟩ : ∃ X,Hid (bareT ⟨k,n,s,d⟩ = X):=⟨_,Lib.hid rfl⟩
 rw [hX.out]
 have HX : Hid (X = if k = 1 ∨ k = 2 ∨ k = 4 then ⟨k,0,s,0⟩ else if k = 3 then ⟨k,n,[],0⟩ else ⟨k,0,[],0⟩):=Lib.hid hX.out.symm
 have HB : Hid (∀ o o',Below w.heap.size w ((w.alloc o).alloc o')):=Lib.hid fun o o' => ((Below.refl w.heap.size w).alloc (Nat.le_refl _) o).alloc (by simp) o'
 clear hX
 unfold tokV
 by_cases h1 : k = 1
 ·subst h1
  obtain rfl : X = ⟨1,0,s,0⟩:=by rw [HX.out]; rfl
  clear HX
  go_enter Tryz.func40,Tryz.ntmps40
  go_wp2_with fail
  exact bodyPost_ret (v:=TokI.val ⟨1,0,s,0⟩) (by simp [results,Tryz.results40,go_sem,TokI.val,tokV]) rfl ⟨rfl,HB.out _ _⟩
 by_cases h2 : k = 2
 ·subst h2
  obtain rfl : X = ⟨2,0,s,0⟩:=by rw [HX.out]; rfl
  clear HX
  go_enter Tryz.func40,Tryz.ntmps40
  go_wp2_with fail
  exact bodyPost_ret (v:=TokI.val ⟨2,0,s,0⟩) (by simp [results,Tryz.results40,go_sem,TokI.val,tokV]) rfl ⟨rfl,HB.out _ _⟩
 by_cases h4 : k = 4
 ·subst h4
  obtain rfl : X = ⟨4,0,s,0⟩:=by rw [HX.out]; rfl
  clear HX
  go_enter Tryz.func40,Tryz.ntmps40
  go_wp2_with fail
  exact bodyPost_ret (v:=TokI.val ⟨4,0,s,0⟩) (by simp [results,Tryz.results40,go_sem,TokI.val,tokV]) rfl ⟨rfl,HB.out _ _⟩
 by_cases h3 : k = 3
 ·subst h3
  obtain rfl : X = ⟨3,n,[],0⟩:=by rw [HX.out]; rfl
  clear HX
  go_enter Tryz.func40,Tryz.ntmps40
  go_wp2_with fail
  exact bodyPost_ret (v:=TokI.val ⟨3,n,[],0⟩) (by simp [results,Tryz.results40,go_sem,TokI.val,tokV]) rfl ⟨rfl,HB.out _ _⟩
 ·have b1 : (k == 1) = false:=beq_eq_false_iff_ne.2 h1
  have b2 : (k == 2) = false:=beq_eq_false_iff_ne.2 h2
  have b3 : (k == 3) = false:=beq_eq_false_iff_ne.2 h3
  have b4 : (k == 4) = false:=beq_eq_false_iff_ne.2 h4
  obtain rfl : X = ⟨k,0,[],0⟩:=by rw [HX.out]; simp [h1,h2,h3,h4]
  clear HX h1 h2 h3 h4
  go_enter Tryz.func40,Tryz.ntmps40
  go_wp2_with fail
  exact bodyPost_ret (v:=TokI.val ⟨k,0,[],0⟩) (by simp [results,Tryz.results40,go_sem,TokI.val,tokV]) rfl ⟨rfl,HB.out _ _⟩
end
section
open Go.RowKit
attribute [local go_sem] ByteArray.mk_append_mk bs_get bs_cut bs_end
end
section
open Go.RowKit
attribute [local go_sem] ByteArray.mk_append_mk bs_get bs_cut bs_end
def TAtK (w : World) (b off : Nat) (t : TokI) : Prop:=w.cell? ⟨b,off,none⟩ = some (.int .i64 t.kind) ∧ w.cell? ⟨b,off + 1,none⟩ = some (.int .u64 t.num) ∧ w.cell? ⟨b,off + 2,none⟩ = some (.string ⟨t.str.toArray⟩) ∧ w.cell? ⟨b,off + 3,none⟩ = some (.int .i64 t.pos)
def TSl (w : World) (v : Value) (l : List TokI) : Prop :=
 ∃ (a : Option Addr) (cap : Nat),v = .slice a l.length cap ∧ (l ≠ [] → ∃ b off,a = some ⟨b,off,none⟩ ∧ ∀ i (h : i < l.length),TAtK w b (off + i * 4) l[i])
theorem TAtK.below {w w' : World} {b off : Nat} {t : TokI} (h : TAtK w b off t) (hb : Below w.heap.size w w') : TAtK w' b off t:=by
 obtain ⟨h0,h1,h2,h3⟩:=h
 have hlt : b < w.heap.size:=World.block_lt_of_cell? w ⟨b,off,none⟩ h0
 refine ⟨?_,?_,?_,?_⟩
 ·rw [hb.cell (p:=⟨b,off,none⟩) hlt]; exact h0
 ·rw [hb.cell (p:=⟨b,off + 1,none⟩) hlt]; exact h1
 ·rw [hb.cell (p:=⟨b,off + 2,none⟩) hlt]; exact h2
 ·rw [hb.cell (p:=⟨b,off + 3,none⟩) hlt]; exact h3
theorem TSl.below {w w' : World} {v : Value} {l : List TokI} (h : TSl w v l) (hb : Below w.heap.size w w') : TSl w' v l:=by
 obtain ⟨a,cap,hv,hc⟩:=h
 refine ⟨a,cap,hv,fun hn => ?_⟩
 obtain ⟨b,off,ha,hk⟩:=hc hn
 exact ⟨b,off,ha,fun i hi => (hk i hi).below hb⟩
def tcK : List TokI → List Value
 | [] => []
 | t :: r => .int .i64 t.kind :: .int .u64 t.num :: .string ⟨t.str.toArray⟩ :: .int .i64 t.pos :: tcK r
theorem tcK_tok : ∀ l : List Tok,tcK (l.map Tok.toI) = tokCells l
 | [] => rfl
 | t :: r => by rw [List.map_cons,tcK,tcK_tok r]; rfl
theorem tcK_at : ∀ (l : List TokI) (i : Nat) (h : i < l.length),(tcK l)[i * 4]? = some (.int .i64 l[i].kind) ∧ (tcK l)[i * 4 + 1]? = some (.int .u64 l[i].num) ∧ (tcK l)[i * 4 + 2]? = some (.string ⟨l[i].str.toArray⟩) ∧ (tcK l)[i * 4 + 3]? = some (.int .i64 l[i].pos)
 | t :: r,0,_ => ⟨rfl,rfl,rfl,rfl⟩
 | t :: r,i + 1,h => by
   have:=tcK_at r i (by simpa using h)
   rw [show (i + 1) * 4 = i * 4 + 4 by omega]
   exact this
def ToksI (w : World) (B : Nat) (v : Value) (l : List TokI) : Prop:=w.ownsRow B 34 4 v l.length (tcK l)
theorem ToksI.nil (w : World) (B : Nat) : ToksI w B (.slice none 0 0) []:=⟨rfl,.inl ⟨rfl,rfl⟩⟩
theorem ToksI.below {w w' : World} {B : Nat} {v : Value} {l : List TokI} (h : ToksI w B v l) (hb : Below w.heap.size w w') : ToksI w' B v l:=own_below h hb
theorem ToksI.alloc {w : World} {B : Nat} {v : Value} {l : List TokI} (h : ToksI w B v l) (o : Obj) : ToksI (w.alloc o) B v l:=h.below ((Below.refl _ _).alloc (Nat.le_refl _) o)
theorem ToksI.form {w : World} {B : Nat} {v : Value} {l : List TokI} (h : ToksI w B v l) : ∃ a c,v = .slice a l.length c:=by
 rcases h.2 with ⟨rfl,h0⟩ | ⟨g,cap,cur,rfl,_⟩
 ·exact ⟨none,0,by rw [h0]⟩
 ·exact ⟨_,cap,rfl⟩
theorem ToksI.kept {w w1 w2 : World} {B B0 : Nat} {v : Value} {l : List TokI} (ho : ToksI w1 B v l) (h : Below B0 w w1) (hg : w1.grownBy w2 v.ownBlock) (hB : B0 ≤ w1.heap.size) (hB2 : B0 ≤ B) : Below B0 w w2 :=
 h.grown hg hB (fun k hk => Nat.le_trans hB2 (own_row ho hk))
theorem Toks.toI {w : World} {B : Nat} {v : Value} {l : List Tok} (h : Toks w B v l) : ToksI w B v (l.map Tok.toI):=by
 unfold ToksI
 rw [tcK_tok,List.length_map]
 exact h
theorem ToksI.sl {w : World} {B : Nat} {v : Value} {l : List TokI} (h : ToksI w B v l) : TSl w v l:=by
 obtain ⟨a,c,rfl⟩:=h.form
 refine ⟨a,c,rfl,fun hn => ?_⟩
 obtain ⟨h1,h2⟩:=h
 have hp:=List.length_pos_iff.2 hn
 rcases h2 with ⟨hv,h0⟩ | ⟨g,cap,cur,hv,hb,hg,hn,hm,hs,ht⟩
 ·omega
 ·injection hv with e1 e2 e3
  refine ⟨g,0,e1,fun i hi => ?_⟩
  obtain ⟨k0,k1,k2,k3⟩:=tcK_at l i hi
  rw [← ht] at k0 k1 k2 k3
  rw [List.getElem?_take,if_pos (by omega)] at k0 k1 k2 k3
  rw [Nat.zero_add]
  refine ⟨?_,?_,?_,?_⟩
  ·rw [cell_of_row w g _ cur _ (0,0) hg]; simpa using k0
  ·rw [cell_of_row w g _ cur _ (0,0) hg]; simpa using k1
  ·rw [cell_of_row w g _ cur _ (0,0) hg]; simpa using k2
  ·rw [cell_of_row w g _ cur _ (0,0) hg]; simpa using k3
end
section
open Go.RowKit
attribute [local go_sem] ByteArray.mk_append_mk bs_get bs_cut bs_end
def nmB (s : List UInt8) : Bool:=decide (nameN s = some s.length)
def kwB : List UInt8 → Bool
 | [] => false
 | c :: r => decide ((c :: r).length ≤ 32) && (letterB c && (decide (wordN (c :: r) = (c :: r).length) && lowerB (c :: r)))
def validT (t : TokI) : Bool:=if t.kind = 1 then nmB t.str else if t.kind = 2 then kwB t.str else if t.kind = 4 then decide (t.str.length ≤ 255) else decide (t.kind = 3 ∨ (5 ≤ t.kind ∧ t.kind ≤ 9))
theorem preN_not92 {c : UInt8} {r : List UInt8} (h : c ≠ 92) : preN (c :: r) = caretN (c :: r):=by
 unfold preN
 split
 ·next heq => injection heq with h1 _; exact absurd h1 h
 ·rfl
theorem nameN_digit {c : UInt8} {r : List UInt8} (h : digitB c = true) : nameN (c :: r) = none:=by
 have hr:=digitB_range h
 have h1 : c ≠ 92:=by rintro rfl; simp at hr
 have h2 : c ≠ 94:=by rintro rfl; simp at hr
 have hp : preN (c :: r) = 0:=by
  rw [preN_not92 h1]
  unfold caretN
  rw [List.takeWhile_cons,if_neg (by rw [beq_iff_eq]; exact h2)]; rfl
 rw [nameN_stop (by rw [hp]; simp) (by simp only [hp,List.getElem_cons_zero]; exact digit_letter h),hp,if_neg (by decide)]
end
section
open Go.RowKit
attribute [local go_sem] ByteArray.mk_append_mk bs_get bs_cut bs_end
def punC (k : Int) : List UInt8:=if k = 5 then [40] else if k = 6 then [41] else if k = 7 then [123] else if k = 8 then [125] else [44]
def fmtT (t : TokI) : List UInt8:=if t.kind = 1 ∨ t.kind = 2 then t.str else if t.kind = 3 then fmtI t.num.toNat else if t.kind = 4 then quoL t.str else punC t.kind
theorem TSl.one {w : World} {v : Value} {t : TokI} (h : TSl w v [t]) : ∃ b off cap,v = .slice (some ⟨b,off,none⟩) 1 cap ∧ ∀ w',Below w.heap.size w w' → TAtK w' b off t:=by
 obtain ⟨a,cap,hv,hc⟩:=h
 obtain ⟨b,off,rfl,hk⟩:=hc (by simp)
 refine ⟨b,off,cap,hv,fun w' hb => ?_⟩
 have:=(hk 0 (by simp)).below hb
 simpa using this
end
section
open Go.RowKit
def Brk (y : List UInt8) : Prop:=∀ c r,y = c :: r → idB c = false ∧ c ≠ 46 ∧ c ≠ 94
theorem Brk.nil : Brk []:=fun c r h => by cases h
theorem idB_letter {c : UInt8} (h : idB c = false) : letterB c = false:=by unfold idB at h; rw [Bool.or_eq_false_iff] at h; exact h.1
theorem tw_all {p : UInt8 → Bool} : ∀ {u : List UInt8},(u.takeWhile p).length = u.length → ∀ x,(u ++ x).takeWhile p = u ++ x.takeWhile p
 | [],_,x => rfl
 | c :: u,h,x => by
   rw [List.takeWhile_cons] at h
   split at h
   ·next hc =>
    rw [List.cons_append,List.takeWhile_cons,if_pos hc,tw_all (by simpa using h) x]
    rfl
   ·simp at h
theorem tw_part {p : UInt8 → Bool} : ∀ {u : List UInt8},(u.takeWhile p).length < u.length → ∀ x,(u ++ x).takeWhile p = u.takeWhile p
 | [],h,x => by simp at h
 | c :: u,h,x => by
   rw [List.takeWhile_cons] at h
   rw [List.cons_append,List.takeWhile_cons,List.takeWhile_cons]
   split at h
   ·next hc => rw [if_pos hc,if_pos hc,tw_part (by simpa using h) x]
   ·next hc => rw [if_neg hc,if_neg hc]
theorem tw_le {p : UInt8 → Bool} (u : List UInt8) : (u.takeWhile p).length ≤ u.length:=(List.takeWhile_sublist p).length_le
theorem tw_local {p : UInt8 → Bool} {u x y : List UInt8} (h : ((u ++ x).takeWhile p).length ≤ u.length) (hy : ∀ c r,y = c :: r → p c = false) : ((u ++ y).takeWhile p).length = ((u ++ x).takeWhile p).length:=by
 rcases Nat.lt_or_ge (u.takeWhile p).length u.length with h1 | h1
 ·rw [tw_part h1,tw_part h1]
 ·have h2 : (u.takeWhile p).length = u.length:=Nat.le_antisymm (tw_le u) h1
  rw [tw_all h2] at h ⊢
  rw [tw_all h2]
  have e : y.takeWhile p = []:=by
   cases y with
   | nil => rfl
   | cons c r => rw [List.takeWhile_cons,hy c r rfl]; rfl
  rw [e]
  rw [List.length_append] at h
  rw [List.length_append,List.length_append]
  simp only [List.length_nil]; omega
theorem wordN_local {u x y : List UInt8} (h : wordN (u ++ x) ≤ u.length) (hy : Brk y) : wordN (u ++ y) = wordN (u ++ x) :=
 tw_local h (fun c r e => (hy c r e).1)
theorem caretN_local {u x y : List UInt8} (h : caretN (u ++ x) ≤ u.length) (hy : Brk y) : caretN (u ++ y) = caretN (u ++ x) :=
 tw_local h (fun c r e => by rw [beq_eq_false_iff_ne]; exact (hy c r e).2.2)
theorem take_app {u x : List UInt8} {n : Nat} (h : n ≤ u.length) : (u ++ x).take n = u.take n:=List.take_append_of_le_length h
theorem drop_app {u x : List UInt8} {n : Nat} (h : n ≤ u.length) : (u ++ x).drop n = u.drop n ++ x:=List.drop_append_of_le_length h
theorem preN_other {c : UInt8} {r : List UInt8} (h : c ≠ 92) : preN (c :: r) = caretN (c :: r):=by
 unfold preN
 split
 ·next heq => injection heq with h1 _; exact absurd h1 h
 ·rfl
theorem preN_local {u x y : List UInt8} (hu : u ≠ []) (h : preN (u ++ x) ≤ u.length) (hy : Brk y) : preN (u ++ y) = preN (u ++ x):=by
 cases u with
 | nil => exact absurd rfl hu
 | cons c r =>
   by_cases hc : c = 92
   ·subst hc; rfl
   ·rw [List.cons_append,preN_other hc] at h
    rw [List.cons_append,List.cons_append,preN_other hc,preN_other hc]
    exact caretN_local (u:=c :: r) h hy
theorem segs_local : ∀ (n : Nat) (u x y : List UInt8) (m : Nat),u.length ≤ n → u ≠ [] → segsL (u ++ x) = some m → m ≤ u.length → Brk y → segsL (u ++ y) = some m
 | 0,u,x,y,m,hn,hu,_,_,_ => absurd (List.eq_nil_of_length_eq_zero (by omega)) hu
 | n + 1,[],x,y,m,hn,hu,_,_,_ => absurd rfl hu
 | n + 1,c :: r,x,y,m,hn,hu,h,hm,hy => by
   rw [List.cons_append] at h ⊢
   cases hl : letterB c with
   | false => rw [segsL_bad hl] at h; cases h
   | true =>
     cases hs : segB ((c :: (r ++ x)).take (wordN (c :: (r ++ x)))) with
     | false => rw [segsL_seg hs] at h; cases h
     | true =>
       have hwm : wordN (c :: (r ++ x)) ≤ m:=by
        by_cases hd : ∃ t,(c :: (r ++ x)).drop (wordN (c :: (r ++ x))) = 46 :: t
        ·obtain ⟨t,ht⟩:=hd
         rw [segsL_dot hl hs ht] at h
         cases hm' : segsL t with
         | none => rw [hm'] at h; cases h
         | some m' => rw [hm'] at h; simp only [Option.map_some,Option.some.injEq] at h; omega
        ·rw [segsL_end hl hs (fun t ht => hd ⟨t,ht⟩)] at h
         injection h with h; omega
       have hw : wordN (c :: (r ++ x)) ≤ (c :: r).length:=by omega
       have hw2 : wordN (c :: (r ++ y)) = wordN (c :: (r ++ x)):=wordN_local (u:=c :: r) hw hy
       have htk : ∀ z,(c :: (r ++ z)).take (wordN (c :: (r ++ x))) = (c :: r).take (wordN (c :: (r ++ x))):=fun z => take_app (u:=c :: r) hw
       have hdr : ∀ z,(c :: (r ++ z)).drop (wordN (c :: (r ++ x))) = (c :: r).drop (wordN (c :: (r ++ x))) ++ z:=fun z => drop_app (u:=c :: r) hw
       have hs2 : segB ((c :: (r ++ y)).take (wordN (c :: (r ++ y)))) = true:=by rw [hw2,htk y,← htk x]; exact hs
       by_cases hd : ∃ t,(c :: (r ++ x)).drop (wordN (c :: (r ++ x))) = 46 :: t
       ·obtain ⟨t,ht⟩:=hd
        rw [segsL_dot hl hs ht] at h
        cases hm' : segsL t with
        | none => rw [hm'] at h; cases h
        | some m' =>
          rw [hm'] at h
          simp only [Option.map_some,Option.some.injEq] at h
          have hm1 : 1 ≤ m':=segsN_pos _ _ _ hm'
          rw [hdr x] at ht
          cases hdd : (c :: r).drop (wordN (c :: (r ++ x))) with
          | nil =>
            have:=congrArg List.length hdd
            rw [List.length_drop,List.length_nil] at this
            omega
          | cons a t' =>
            rw [hdd,List.cons_append] at ht
            injection ht with h1 h2
            subst h1 h2
            have hlt : (c :: r).length - wordN (c :: (r ++ x)) = t'.length + 1:=by have:=congrArg List.length hdd; rw [List.length_drop] at this; exact this
            have hmt : m' ≤ t'.length:=by omega
            have hrec:=segs_local n t' x y m' (by simp only [List.length_cons] at hn hlt; omega) (by rintro rfl; simp at hmt; omega) hm' hmt hy
            rw [segsL_dot (t:=t' ++ y) hl hs2 (by rw [hw2,hdr y,hdd] <;> rfl),hrec,hw2]
            simp only [Option.map_some,Option.some.injEq]
            exact h
       ·rw [segsL_end hl hs (fun t ht => hd ⟨t,ht⟩)] at h
        rw [segsL_end hl hs2 ?_,hw2,h]
        intro t ht
        rw [hw2,hdr y] at ht
        cases hdd : (c :: r).drop (wordN (c :: (r ++ x))) with
        | nil =>
          rw [hdd] at ht
          exact (hy 46 t ht).2.1 rfl
        | cons a t' =>
          rw [hdd,List.cons_append] at ht
          injection ht with h1 _
          exact hd ⟨t' ++ x,by rw [hdr x,hdd,h1]; rfl⟩
theorem nameN_local {u x y : List UInt8} {n : Nat} (h : nameN (u ++ x) = some n) (hn : n ≤ u.length) (hy : Brk y) : nameN (u ++ y) = some n:=by
 have hn1:=nameN_pos h
 have hu : u ≠ []:=by rintro rfl; simp at hn; omega
 have hp : preN (u ++ x) ≤ n:=by
  unfold nameN at h
  split at h
  ·split at h
   ·injection h with h; omega
   ·cases h
  ·split at h
   ·cases hs : segsN _ _ with
    | none => rw [hs] at h; cases h
    | some k => rw [hs] at h; simp only [Option.map_some,Option.some.injEq] at h; omega
   ·split at h
    ·injection h with h; omega
    ·cases h
 have hpu : preN (u ++ x) ≤ u.length:=by omega
 have hp2:=preN_local hu hpu hy
 unfold nameN at h ⊢
 rw [hp2,drop_app hpu]
 rw [drop_app hpu] at h
 cases hd : u.drop (preN (u ++ x)) with
 | nil =>
   rw [hd,List.nil_append] at h
   rw [List.nil_append]
   have hlen:=congrArg List.length hd
   rw [List.length_drop,List.length_nil] at hlen
   have hpn : 0 < preN (u ++ x) ∧ preN (u ++ x) = n:=by
    constructor
    ·have:=List.length_pos_iff.2 hu; omega
    ·omega
   rw [hpn.2]
   cases y with
   | nil => simp only []; rw [if_pos (by omega)]
   | cons c r => simp only [idB_letter (hy c r rfl).1]; rw [if_neg (by decide),if_pos (by omega)]
 | cons c r =>
   rw [hd] at h
   simp only [List.cons_append] at h ⊢
   split at h
   ·next hl =>
    rw [if_pos hl]
    cases hs : segsL (c :: r ++ x) with
    | none =>
      rw [show segsN (c :: (r ++ x)).length (c :: (r ++ x)) = none from hs] at h; cases h
    | some k =>
      rw [show segsN (c :: (r ++ x)).length (c :: (r ++ x)) = some k from hs] at h
      simp only [Option.map_some,Option.some.injEq] at h
      have hlen:=congrArg List.length hd
      rw [List.length_drop] at hlen
      have:=segs_local _ (c :: r) x y k (Nat.le_refl _) (by simp) hs (by omega) hy
      rw [show segsN (c :: (r ++ y)).length (c :: (r ++ y)) = some k from this]
      simp only [Option.map_some,Option.some.injEq]
      exact h
   ·next hl =>
    rw [if_neg hl]
    exact h
theorem escL_local {t x y : List UInt8} {b : UInt8} {m : Nat} (h : escL (92 :: (t ++ x)) = some (b,m)) (hm : m ≤ t.length + 1) : escL (92 :: (t ++ y)) = some (b,m):=by
 unfold escL at h
 split at h
 ·next heq =>
  injection h with h; injection h with h1 h2; subst h1 h2
  cases t with
  | nil => simp at hm
  | cons a t => injection heq with _ heq; injection heq with h _; subst h; rfl
 ·next heq =>
  injection h with h; injection h with h1 h2; subst h1 h2
  cases t with
  | nil => simp at hm
  | cons a t => injection heq with _ heq; injection heq with h _; subst h; rfl
 ·next hh ll r' heq =>
  split at h
  ·next a b ha hb =>
   injection h with h; injection h with h1 h2; subst h1 h2
   match t,hm with
   | [],hm => simp at hm
   | [_],hm => simp at hm
   | [_,_],hm => simp at hm
   | p :: q :: z :: t,_ =>
     injection heq with _ heq
     injection heq with e1 heq
     injection heq with e2 heq
     injection heq with e3 heq
     subst e1 e2 e3
     rw [List.cons_append,List.cons_append,List.cons_append,escL_hex,ha,hb]; rfl
  ·cases h
 ·cases h
theorem text_local : ∀ (n : Nat) (u x y v val r : List UInt8),u.length ≤ n → textF (u ++ x) v = some (val,r) → x.length ≤ r.length → ∃ r',r = r' ++ x ∧ r'.length < u.length ∧ textF (u ++ y) v = some (val,r' ++ y)
 | n,[],x,y,v,val,r,hn,h,hx => by
   exfalso
   have:=textF_le _ _ _ _ _ (Nat.le_refl _) h
   rw [List.nil_append] at this
   omega
 | 0,c :: t,x,y,v,val,r,hn,h,hx => by simp at hn
 | n + 1,c :: t,x,y,v,val,r,hn,h,hx => by
   simp only [List.length_cons] at hn
   rw [List.cons_append] at h ⊢
   by_cases h1 : c = 34
   ·subst h1
    rw [textF_quote] at h ⊢
    split at h
    ·cases h
    ·next hv =>
     injection h with h
     injection h with h1 h2
     subst h1 h2
     exact ⟨t,rfl,by simp,by rw [if_neg hv]⟩
   ·by_cases h2 : c = 92
    ·subst h2
     rw [textF_escGo] at h ⊢
     cases he : escL (92 :: (t ++ x)) with
     | none => rw [he] at h; cases h
     | some bm =>
       obtain ⟨b,m⟩:=bm
       rw [he] at h
       unfold escGo at h
       simp only at h
       have hm:=escL_le he
       by_cases hmt : m ≤ t.length + 1
       ·rw [escL_local he hmt]
        unfold escGo
        simp only
        rw [← List.cons_append,drop_app (by simpa using hmt)] at h ⊢
        obtain ⟨r',e1,e2,e3⟩:=text_local n ((92 :: t).drop m) x y _ val r (by rw [List.length_drop,List.length_cons]; omega) h hx
        refine ⟨r',e1,?_,e3⟩
        rw [List.length_drop,List.length_cons] at e2
        simp only [List.length_cons]
        omega
       ·exfalso
        have:=textF_le _ _ _ _ _ (Nat.le_refl _) h
        rw [List.length_drop,List.length_cons,List.length_append] at this
        omega
    ·rw [textF_plain h1 h2] at h ⊢
     split at h
     ·next hc =>
      rw [if_pos hc]
      obtain ⟨r',e1,e2,e3⟩:=text_local n t x y _ val r (by omega) h hx
      exact ⟨r',e1,by simp; omega,e3⟩
     ·cases h
theorem item_local {u x y : List UInt8} {k v n : Nat} {t : List UInt8} (h : itemL (u ++ x) = some (k,v,t,n)) (hn : n ≤ u.length) (hy : Brk y) : itemL (u ++ y) = some (k,v,t,n):=by
 have hn1 : 1 ≤ n ∧ n ≤ (u ++ x).length:=itemL_le h
 cases u with
 | nil => simp at hn; omega
 | cons c r =>
   have e1:=itemL_at (s:=c :: r ++ x) (p:=0) (by simp)
   have e2:=itemL_at (s:=c :: r ++ y) (p:=0) (by simp)
   simp only [List.cons_append,List.drop_zero,List.getElem_cons_zero,Nat.zero_add,List.drop_succ_cons] at e1 e2
   rw [List.cons_append] at h ⊢
   rw [e1] at h
   rw [e2]
   clear e1 e2
   have hword : wordN (c :: (r ++ x)) ≤ (c :: r).length → wordN (c :: (r ++ y)) = wordN (c :: (r ++ x)):=fun hw => wordN_local (u:=c :: r) hw hy
   have htake : ∀ j,j ≤ (c :: r).length → (c :: (r ++ y)).take j = (c :: (r ++ x)).take j:=fun j hj => by
    rw [← List.cons_append,← List.cons_append,take_app hj,take_app hj]
   have hname : ∀ z : Nat × Nat × List UInt8 × Nat,nameO (c :: (r ++ x)) = some z → z.2.2.2 ≤ (c :: r).length → nameO (c :: (r ++ y)) = some z:=fun z hz hzl => by
    unfold nameO at hz ⊢
    cases hm : nameN (c :: (r ++ x)) with
    | none => rw [hm] at hz; cases hz
    | some m =>
      rw [hm] at hz
      simp only [Option.map_some,Option.some.injEq] at hz
      subst hz
      simp only at hzl
      rw [show nameN (c :: (r ++ y)) = some m from nameN_local (u:=c :: r) hm hzl hy]
      simp only [Option.map_some]
      rw [htake m hzl]
   split at h
   ·next hd =>
    rw [if_pos hd]
    cases hv : intV ((c :: (r ++ x)).take (wordN (c :: (r ++ x)))) with
    | none => rw [hv] at h; cases h
    | some w =>
      rw [hv] at h
      simp only [Option.map_some,Option.some.injEq,Prod.mk.injEq] at h
      obtain ⟨rfl,rfl,rfl,rfl⟩:=h
      rw [hword hn,htake _ hn,hv]
      rfl
   ·next hd =>
    rw [if_neg hd]
    split at h
    ·next hl =>
     rw [if_pos hl]
     split at h
     ·next hlo =>
      split at h
      ·next h32 =>
       simp only [Option.some.injEq,Prod.mk.injEq] at h
       obtain ⟨rfl,rfl,rfl,rfl⟩:=h
       rw [hword hn,htake _ hn,if_pos hlo,if_pos h32]
      ·cases h
     ·next hlo =>
      have hw : wordN (c :: (r ++ x)) ≤ (c :: r).length:=by
       unfold nameO at h
       cases hm : nameN (c :: (r ++ x)) with
       | none => rw [hm] at h; cases h
       | some m =>
         rw [hm] at h
         simp only [Option.map_some,Option.some.injEq,Prod.mk.injEq] at h
         obtain ⟨_,_,_,rfl⟩:=h
         have hc92 : c ≠ 92:=by rintro rfl; cases hl
         have hp0 : preN (c :: (r ++ x)) = 0:=by
          rw [preN_other hc92]
          unfold caretN
          rw [List.takeWhile_cons,if_neg (by rw [beq_iff_eq]; rintro rfl; cases hl)]; rfl
         rw [nameN_segs (by rw [hp0]; simp) (by simp only [hp0,List.getElem_cons_zero]; exact hl),hp0,List.drop_zero] at hm
         cases hs : segsL (c :: (r ++ x)) with
         | none => rw [hs] at hm; cases hm
         | some k =>
           rw [hs] at hm
           simp only [Option.map_some,Option.some.injEq,Nat.zero_add] at hm
           subst hm
           refine Nat.le_trans ?_ hn
           cases hsb : segB ((c :: (r ++ x)).take (wordN (c :: (r ++ x)))) with
           | false => rw [segsL_seg hsb] at hs; cases hs
           | true =>
             by_cases hd' : ∃ t,(c :: (r ++ x)).drop (wordN (c :: (r ++ x))) = 46 :: t
             ·obtain ⟨t,ht⟩:=hd'
              rw [segsL_dot hl hsb ht] at hs
              cases hk : segsL t with
              | none => rw [hk] at hs; cases hs
              | some k' => rw [hk] at hs; simp only [Option.map_some,Option.some.injEq] at hs; omega
             ·rw [segsL_end hl hsb (fun t ht => hd' ⟨t,ht⟩)] at hs
              injection hs with hs; omega
      rw [hword hw,htake _ hw,if_neg hlo]
      exact hname _ h hn
    ·next hl =>
     rw [if_neg hl]
     split at h
     ·next h9 =>
      rw [if_pos h9]
      exact hname _ h hn
     ·next h9 =>
      rw [if_neg h9]
      split at h
      ·next h34 =>
       rw [if_pos h34]
       cases ht : textF (r ++ x) [] with
       | none => rw [ht] at h; cases h
       | some q =>
         obtain ⟨val,rr⟩:=q
         rw [ht] at h
         simp only [Option.map_some,Option.some.injEq,Prod.mk.injEq] at h
         obtain ⟨rfl,rfl,rfl,rfl⟩:=h
         have hlt:=textF_le _ _ _ _ _ (Nat.le_refl _) ht
         simp only [List.length_cons,List.length_append] at hn hlt
         obtain ⟨r',e1,e2,e3⟩:=text_local _ r x y [] val rr (Nat.le_refl _) ht (by omega)
         rw [e3,e1]
         simp only [Option.map_some,Option.some.injEq,Prod.mk.injEq,true_and,List.length_cons,List.length_append]
         omega
      ·next h34 =>
       rw [if_neg h34]
       exact h
end
end Go.Proofs.YtoohondkpddmcaaGreatDoor
