/- Tli Fa Pv -/
import Derived.Test.YtoohondkpddmcaaGreatDoorVao
import Derived.Test.YtoohondkpddmcaaGreatDoorVaa
set_option linter.unusedVariables false
set_option linter.unusedSimpArgs false
namespace Go.Proofs.YtoohondkpddmcaaGreatDoor
section
open Go.RowKit
theorem brk_cons {c : UInt8} {r : List UInt8} (h : idB c = false) (h1 : c ≠ 46) (h2 : c ≠ 94) : Brk (c :: r):=fun d t e => by injection e with e _; subst e; exact ⟨h,h1,h2⟩
def itT (t : TokI) : Nat × Nat × List UInt8 × Nat:=(itemL (fmtT t)).getD (0,0,[],0)
def tokOf (t : TokI) (p : Nat) : Tok:=⟨(itT t).1,(itT t).2.1,(itT t).2.2.1,p⟩
theorem itT_is {t : TokI} (ht : validT t = true) (h0 : 0 ≤ t.num) (h1 : t.num ≤ 18446744073709551615) : itemL (fmtT t) = some ((itT t).1,(itT t).2.1,(itT t).2.2.1,(fmtT t).length) ∧ Fst (fmtT t) ∧ ∀ p : Nat,bareT (tokOf t p).toI = bareT t:=by
 obtain ⟨k,v,str,h,hf,hb⟩:=fmtT_item ht h0 h1
 have e : itT t = (k,v,str,(fmtT t).length):=by unfold itT; rw [h]; rfl
 rw [e]
 refine ⟨h,hf,fun p => ?_⟩
 unfold tokOf Tok.toI
 rw [e]
 exact hb p
theorem fst_skip {s : List UInt8} (h : Fst s) (y : List UInt8) : skipL (s ++ y) = (s ++ y,true):=by
 obtain ⟨c,r,rfl,h1,h2⟩:=h
 exact skipL_stop h1 (fun e => absurd e h2)
theorem scanG_same {s : List UInt8} {p p' : Nat} {acc : List Tok} (h : skipL (s.drop p) = skipL (s.drop p')) : scanG s p acc = scanG s p' acc:=by
 unfold scanG
 rw [scanF,scanF,h]
theorem drop_more {s x y : List UInt8} {p : Nat} (h : s.drop p = x ++ y) : s.drop (p + x.length) = y:=by
 rw [← List.drop_drop,h,List.drop_left]
theorem fmtT_len {t : TokI} (ht : validT t = true) (h1 : t.num ≤ 18446744073709551615) (hs : t.str.length ≤ 255) : (fmtT t).length ≤ 1022:=by
 unfold fmtT
 split
 ·omega
 ·split
  ·have:=fmtI_len (v:=t.num.toNat) (by omega); omega
  ·split
   ·have : ∀ k : Nat,k ≤ t.str.length → (quoK t.str k).length ≤ 4 * k + 1:=by
     intro k
     induction k with
     | zero => intro _; simp [quoK]
     | succ k ih =>
       intro h
       rw [quoK_succ (by omega),List.length_append]
       have:=ih (by omega)
       have:=quoC_len4 t.str[k]
       omega
    have:=this t.str.length (Nat.le_refl _)
    unfold quoL
    rw [List.length_append]
    simp; omega
   ·unfold punC
    repeat' split
    all_goals simp
end
section
open Go.RowKit
abbrev PT:=List (List UInt8 × TokI)
def textP (L : PT) : List UInt8:=L.flatMap fun x => x.1 ++ fmtT x.2
def toksP : Nat → PT → List Tok
 | _,[] => []
 | p,x :: r => tokOf x.2 (p + x.1.length) :: toksP (p + x.1.length + (fmtT x.2).length) r
def OkT (t : TokI) : Prop:=validT t = true ∧ 0 ≤ t.num ∧ t.num ≤ 18446744073709551615
def Blank (s : List UInt8) : Prop:=∀ D,skipL (s ++ D) = skipL D
def isP (t : TokI) : Prop:=5 ≤ t.kind ∧ t.kind ≤ 9
theorem textP_nil : textP [] = []:=rfl
theorem textP_cons (x : List UInt8 × TokI) (r : PT) : textP (x :: r) = x.1 ++ (fmtT x.2 ++ textP r):=by
 unfold textP; rw [List.flatMap_cons,List.append_assoc]
theorem textP_app (a b : PT) : textP (a ++ b) = textP a ++ textP b:=by unfold textP; rw [List.flatMap_append]
def GoodP (tail : List UInt8) : PT → Prop
 | [] => skipL tail = ([],true)
 | x :: r => Blank x.1 ∧ OkT x.2 ∧ (isP x.2 ∨ Brk (textP r ++ tail)) ∧ GoodP tail r
theorem punct_item {t : TokI} (h : isP t) (y : List UInt8) : itemL (fmtT t ++ y) = some ((itT t).1,(itT t).2.1,(itT t).2.2.1,(fmtT t).length):=by
 obtain ⟨k,n,s,p⟩:=t
 obtain ⟨h1,h2⟩:=h
 simp only at h1 h2
 rcases (by omega : k = 5 ∨ k = 6 ∨ k = 7 ∨ k = 8 ∨ k = 9) with rfl | rfl | rfl | rfl | rfl <;> rfl
theorem scan_pieces (s tail : List UInt8) : ∀ (L : PT) (p : Nat) (acc : List Tok),GoodP tail L → s.drop p = textP L ++ tail → p ≤ s.length → scanG s p acc = (acc ++ toksP p L,0,0)
 | [],p,acc,hg,hd,hp => by
   have hs : skipL (s.drop p) = ([],true):=by rw [hd,textP_nil,List.nil_append]; exact hg
   rw [scanG_done (by rw [hs]) (by rw [hs]),toksP,List.append_nil]
 | x :: r,p,acc,hg,hd,hp => by
   obtain ⟨hbl,⟨h1,h2,h3⟩,hbr,hgr⟩:=hg
   obtain ⟨hi,hf,hb⟩:=itT_is h1 h2 h3
   have hd' : s.drop p = x.1 ++ (fmtT x.2 ++ (textP r ++ tail)):=by rw [hd,textP_cons]; simp only [List.append_assoc]
   have hlen:=congrArg List.length hd'
   rw [List.length_drop,List.length_append,List.length_append] at hlen
   have e1:=drop_more hd'
   have hfl : 1 ≤ (fmtT x.2).length:=by obtain ⟨c,t,e,_⟩:=hf; rw [e]; simp
   rw [scanG_same (p':=p + x.1.length) (by rw [e1,hd']; exact hbl _)]
   have hsk : skipL (s.drop (p + x.1.length)) = (s.drop (p + x.1.length),true):=by rw [e1]; exact fst_skip hf _
   have hit : itemL (s.drop (p + x.1.length)) = some ((itT x.2).1,(itT x.2).2.1,(itT x.2).2.2.1,(fmtT x.2).length):=by
    rw [e1]
    rcases hbr with hpn | hbr
    ·exact punct_item hpn _
    ·exact item_local (x:=[]) (by rw [List.append_nil]; exact hi) (Nat.le_refl _) hbr
   rw [scanG_next (q:=p + x.1.length) (Nat.le_refl _) (by rw [hsk,List.length_drop]; omega) (by rw [hsk]) (by rw [hsk]) (by omega) hit]
   have e2:=drop_more e1
   rw [scan_pieces s tail r (p + x.1.length + (fmtT x.2).length) _ hgr e2 (by omega),toksP,List.append_assoc]
   rfl
theorem toksP_bare : ∀ (L : PT) (p : Nat),(∀ x ∈ L,OkT x.2) → (toksP p L).map (fun t => bareT t.toI) = L.map (fun x => bareT x.2)
 | [],p,_ => rfl
 | x :: r,p,hg => by
   obtain ⟨h1,h2,h3⟩:=hg x (by simp)
   rw [toksP,List.map_cons,List.map_cons,(itT_is h1 h2 h3).2.2,toksP_bare r _ (fun y hy => hg y (by simp [hy]))]
theorem GoodP.ok {tail : List UInt8} : ∀ {L : PT},GoodP tail L → ∀ x ∈ L,OkT x.2
 | [],_,x,h => by cases h
 | y :: r,hg,x,h => by
   rcases List.mem_cons.1 h with rfl | h
   ·exact hg.2.1
   ·exact GoodP.ok hg.2.2.2 x h
def Chn : Prop → PT → Prop
 | _,[] => True
 | pv,x :: r => (pv ∨ x.1 ≠ [] ∨ isP x.2) ∧ (∀ c ∈ x.1,blankB c = true) ∧ OkT x.2 ∧ Chn (isP x.2) r
theorem blank_all : ∀ {s : List UInt8},(∀ c ∈ s,blankB c = true) → Blank s
 | [],_,D => rfl
 | c :: s,h,D => by
   rw [List.cons_append,skipL_blank (h c (by simp))]
   exact blank_all (fun x hx => h x (by simp [hx])) D
theorem brk_blank {c : UInt8} {r : List UInt8} (h : blankB c = true) : Brk (c :: r):=by
 have : ∀ k : Fin 256,blankB (UInt8.ofNat k.val) = true → idB (UInt8.ofNat k.val) = false ∧ UInt8.ofNat k.val ≠ 46 ∧ UInt8.ofNat k.val ≠ 94:=by decide +kernel
 have h2:=this ⟨c.toNat,c.toNat_lt⟩
 rw [UInt8.ofNat_toNat] at h2
 obtain ⟨a,b,d⟩:=h2 h
 exact brk_cons a b d
theorem brk_punct {t : TokI} (h : isP t) (y : List UInt8) : Brk (fmtT t ++ y):=by
 obtain ⟨k,n,s,p⟩:=t
 obtain ⟨h1,h2⟩:=h
 simp only at h1 h2
 rcases (by omega : k = 5 ∨ k = 6 ∨ k = 7 ∨ k = 8 ∨ k = 9) with rfl | rfl | rfl | rfl | rfl <;> exact brk_cons rfl (by decide) (by decide)
theorem chn_brk {tail : List UInt8} (ht : Brk tail) : ∀ {L : PT},Chn False L → Brk (textP L ++ tail)
 | [],_ => by rw [textP_nil,List.nil_append]; exact ht
 | x :: r,h => by
   obtain ⟨h1,h2,h3,h4⟩:=h
   rw [textP_cons,List.append_assoc]
   obtain ⟨s,t⟩:=x
   cases s with
   | cons c q => exact brk_blank (h2 c (by simp))
   | nil =>
     rcases h1 with h1 | h1 | h1
     ·exact absurd h1 (by simp)
     ·exact absurd rfl h1
     ·rw [List.nil_append,List.append_assoc]; exact brk_punct h1 _
theorem Chn.weak {a b : Prop} (hab : a → b) {L : PT} (h : Chn a L) : Chn b L:=by
 cases L with
 | nil => trivial
 | cons x r =>
   obtain ⟨h1,h2⟩:=h
   exact ⟨h1.imp hab id,h2⟩
theorem chn_good {tail : List UInt8} (ht : Brk tail) (hs : skipL tail = ([],true)) : ∀ {L : PT} {pv : Prop},Chn pv L → GoodP tail L
 | [],_,_ => hs
 | x :: r,pv,h => by
   obtain ⟨h1,h2,h3,h4⟩:=h
   refine ⟨blank_all h2,h3,?_,chn_good ht hs h4⟩
   by_cases hp : isP x.2
   ·exact .inl hp
   ·exact .inr (chn_brk ht (h4.weak (fun h => absurd h hp)))
theorem chn_app : ∀ {A B : PT} {pv : Prop},Chn pv A → A ≠ [] → Chn False B → Chn pv (A ++ B)
 | [],B,pv,_,h,_ => absurd rfl h
 | [x],B,pv,h,_,hB => by
   obtain ⟨h1,h2,h3,_⟩:=h
   exact ⟨h1,h2,h3,hB.weak (fun h => h.elim)⟩
 | x :: y :: r,B,pv,h,_,hB => by
   obtain ⟨h1,h2,h3,h4⟩:=h
   exact ⟨h1,h2,h3,chn_app (A:=y :: r) h4 (by simp) hB⟩
theorem chn_scan {L : PT} {tail : List UInt8} (h : Chn True L) (ht : Brk tail) (hs : skipL tail = ([],true)) (hl : (textP L ++ tail).length ≤ 65536) :
  scanL (textP L ++ tail) = (toksP 0 L,0,0):=by
 rw [scanL_go (by omega),scan_pieces _ tail L 0 [] (chn_good ht hs h) (by rw [List.drop_zero]) (by omega)]
 rfl
end
section
open Go.RowKit
attribute [local go_sem] ByteArray.mk_append_mk bs_get bs_cut bs_end
def strV (l : List UInt8) : Value:=.string ⟨l.toArray⟩
def StrsAt (w : World) (v : Value) (l : List (List UInt8)) : Prop :=
 ∃ (a : Option Addr) (cap : Nat),v = .slice a l.length cap ∧ l.length ≤ 9223372036854775000 ∧ ((a = none → cap = 0) ∧ l.length ≤ cap) ∧ (l ≠ [] → ∃ b off,a = some ⟨b,off,none⟩ ∧ ∀ k (h : k < l.length),w.cell? ⟨b,off + k,none⟩ = some (strV l[k]))
theorem StrsAt.of_own {w : World} {B : Nat} {v : Value} {l : List (List UInt8)} (h : w.ownsRow B 9 1 v l.length (l.map strV)) (hl : l.length ≤ 9223372036854775000) : StrsAt w v l:=by
 obtain ⟨h1,h2⟩:=h
 rcases h2 with ⟨hv,h0⟩ | ⟨g,cap,cur,hv,hb,hg,hn,hm,hs,ht⟩
 ·obtain rfl : l = []:=List.eq_nil_of_length_eq_zero h0
  exact ⟨none,0,hv,hl,⟨fun _ => rfl,by simp⟩,fun h => absurd rfl h⟩
 ·refine ⟨_,cap,hv,hl,⟨(fun h => by cases h),by omega⟩,fun _ => ⟨g,0,rfl,fun k hk => ?_⟩⟩
  rw [cell_of_row w g (0 + k) cur 9 (0,0) hg]
  have h3 : (l.map strV)[k]? = some (strV l[k]):=by simp [hk]
  rw [← ht,List.getElem?_take,if_pos (by omega)] at h3
  simpa using h3
theorem StrsAt.below' {w w' : World} {B : Nat} {v : Value} {l : List (List UInt8)} (h : StrsAt w v l) (hb : Below B w w') (hB : ∀ a n c,v = .slice (some a) n c → l ≠ [] → a.block < B) : StrsAt w' v l:=by
 obtain ⟨a,cap,hv,hl,hz,hc⟩:=h
 refine ⟨a,cap,hv,hl,hz,fun hn => ?_⟩
 obtain ⟨b,off,ha,hk⟩:=hc hn
 refine ⟨b,off,ha,fun k h => ?_⟩
 have:=hB ⟨b,off,none⟩ _ _ (by rw [hv,ha]) hn
 rw [hb.cell (p:=⟨b,off + k,none⟩) this]
 exact hk k h
theorem StrsAt.lt {w : World} {v : Value} {l : List (List UInt8)} (h : StrsAt w v l) : ∀ a n c,v = .slice (some a) n c → l ≠ [] → a.block < w.heap.size:=by
 intro a n c hv hn
 obtain ⟨a',cap,hv',hl,_,hc⟩:=h
 obtain ⟨b,off,ha,hk⟩:=hc hn
 rw [hv',ha] at hv
 cases hv
 have hp : 0 < l.length:=List.length_pos_iff.2 hn
 exact World.block_lt_of_cell? w ⟨b,off + 0,none⟩ (hk 0 hp)
theorem StrsAt.below {w w' : World} {v : Value} {l : List (List UInt8)} (h : StrsAt w v l) (hb : Below w.heap.size w w') : StrsAt w' v l:=h.below' hb h.lt
theorem StrsAt.nil (w : World) : StrsAt w (.slice none 0 0) []:=⟨none,0,rfl,by simp,⟨fun _ => rfl,by simp⟩,fun h => absurd rfl h⟩
theorem StrsAt.form {w : World} {v : Value} {l : List (List UInt8)} (h : StrsAt w v l) : ∃ a c,v = .slice a l.length c ∧ l.length ≤ c:=by
 obtain ⟨a,c,hv,_,hz,_⟩:=h
 exact ⟨a,c,hv,hz.2⟩
def PathV (w : World) (p : Value) (root : Bool) (up : Int) (l : List (List UInt8)) : Prop:=∃ v,p = .agg #[.bool root,.int .i64 up,v] ∧ StrsAt w v l
theorem PathV.mk {w : World} {v : Value} {root : Bool} {up : Int} {l : List (List UInt8)} (h : StrsAt w v l) : PathV w (.agg #[.bool root,.int .i64 up,v]) root up l:=⟨_,rfl,h⟩
theorem PathV.below {w w' : World} {p : Value} {root : Bool} {up : Int} {l : List (List UInt8)} (h : PathV w p root up l) (hb : Below w.heap.size w w') : PathV w' p root up l:=by
 obtain ⟨v,rfl,hs⟩:=h
 exact ⟨v,rfl,hs.below hb⟩
abbrev pObj (root : Bool) (up : Int) (v : Value) : Obj:=.cells #[.bool root,.int .i64 up,v] 128 (0,0)
def BoxAt (w wr : World) (root : Bool) (up : Int) (v : Value) (l : List (List UInt8)) : Prop :=
 wr.heap[w.heap.size]? = some (pObj root up v) ∧ StrsAt wr v l ∧ Below w.heap.size w wr
theorem BoxAt.start {w : World} {root : Bool} {up : Int} {v : Value} {l : List (List UInt8)} (h : StrsAt w v l) : BoxAt w (w.alloc (.cells #[.bool root,.int .i64 up,v] 128)) root up v l :=
 ⟨heap_alloc_new w _,h.below ((Below.refl _ _).alloc (Nat.le_refl _) _),(Below.refl _ _).alloc (Nat.le_refl _) _⟩
theorem BoxAt.below {w wr w2 : World} {root : Bool} {up : Int} {v : Value} {l : List (List UInt8)} (h : BoxAt w wr root up v l) (hb : Below wr.heap.size wr w2) : BoxAt w w2 root up v l :=
 ⟨blk_below h.1 hb,h.2.1.below hb,bel_then h.2.2 (Nat.le_refl _) hb⟩
theorem BoxAt.drewN {w wr : World} {root : Bool} {up : Int} {v : Value} {l : List (List UInt8)} (h : BoxAt w wr root up v l) (n : Nat) : BoxAt w (wr.drewN n) root up v l :=
 h.below (below_drewN (Below.refl _ _) n)
theorem BoxAt.cells {w wr : World} {root : Bool} {up : Int} {v : Value} {l : List (List UInt8)} (h : BoxAt w wr root up v l) : wr.cell? ⟨w.heap.size,0,none⟩ = some (.bool root) ∧ wr.cell? ⟨w.heap.size,1,none⟩ = some (.int .i64 up) ∧ wr.cell? ⟨w.heap.size,2,none⟩ = some v:=cells3 h.1
theorem BoxAt.pathV {w wr : World} {root : Bool} {up : Int} {v : Value} {l : List (List UInt8)} (h : BoxAt w wr root up v l) : PathV wr (.agg #[.bool root,.int .i64 up,v]) root up l:=⟨v,rfl,h.2.1⟩
end
end Go.Proofs.YtoohondkpddmcaaGreatDoor
