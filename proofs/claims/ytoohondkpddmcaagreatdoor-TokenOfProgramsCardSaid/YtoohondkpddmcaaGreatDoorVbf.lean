/- Tlp Fi Ra Rb -/
import Derived.Test.YtoohondkpddmcaaGreatDoorVbe
import Derived.Test.YtoohondkpddmcaaGreatDoorVbc
import Derived.Test.YtoohondkpddmcaaGreatDoorVav
set_option linter.unusedVariables false
set_option linter.unusedSimpArgs false
namespace Go.Proofs.YtoohondkpddmcaaGreatDoor
section
open Go.RowKit
def textS : List TokI → List UInt8
 | [] => []
 | [t] => fmtT t
 | t :: u :: r => fmtT t ++ (32 :: textS (u :: r))
theorem textS_snoc : ∀ (A : List TokI) (t : TokI),textS (A ++ [t]) = textS A ++ sepK A.length ++ fmtT t
 | [],t => by simp [textS,sepK]
 | [a],t => by simp [textS,sepK]
 | a :: b :: r,t => by
   have ih:=textS_snoc (b :: r) t
   simp only [List.cons_append] at ih ⊢
   rw [textS,textS,ih]
   simp [sepK]
theorem textJ_is (L : List TokI) : ∀ k,k ≤ L.length → textJ L k = textS (L.take k)
 | 0,_ => by simp [textJ,textS]
 | k + 1,h => by
   rw [textJ_succ (by omega),textJ_is L k (by omega),List.take_succ_eq_append_getElem (by omega),textS_snoc,List.length_take,Nat.min_eq_left (by omega)]
def toksS : Nat → List TokI → List Tok
 | _,[] => []
 | p,t :: r => tokOf t p :: toksS (p + (fmtT t).length + 1) r
theorem toksS_bare : ∀ (L : List TokI) (p : Nat),(∀ t ∈ L,FineW t) → (toksS p L).map (fun t => bareT t.toI) = L.map bareT
 | [],p,_ => rfl
 | x :: r,p,hg => by
   obtain ⟨h1,⟨h2,h3⟩,h4⟩:=hg x (by simp)
   rw [toksS,List.map_cons,List.map_cons,(itT_is h1 h2 h3).2.2,toksS_bare r _ (fun y hy => hg y (by simp [hy]))]
theorem scan_fmt (s : List UInt8) : ∀ (L : List TokI) (p : Nat) (acc : List Tok),(∀ t ∈ L,FineW t) → s.drop p = textS L → p ≤ s.length → scanG s p acc = (acc ++ toksS p L,0,0)
 | [],p,acc,hg,hd,hp => by
   have hs : skipL (s.drop p) = ([],true):=by rw [hd]; rfl
   rw [scanG_done (by rw [hs]) (by rw [hs]),toksS,List.append_nil]
 | [x],p,acc,hg,hd,hp => by
   obtain ⟨h1,⟨h2,h3⟩,h4⟩:=hg x (by simp)
   obtain ⟨hi,hf,hb⟩:=itT_is h1 h2 h3
   have hd' : s.drop p = fmtT x ++ []:=by rw [hd,textS,List.append_nil]
   have hlen:=congrArg List.length hd'
   rw [List.length_drop,List.length_append,List.length_nil] at hlen
   have hfl : 1 ≤ (fmtT x).length:=by obtain ⟨c,t,e,_⟩:=hf; rw [e]; simp
   have hsk : skipL (s.drop p) = (s.drop p,true):=by rw [hd']; exact fst_skip hf _
   have hit : itemL (s.drop p) = some ((itT x).1,(itT x).2.1,(itT x).2.2.1,(fmtT x).length):=by
    rw [hd',List.append_nil]
    exact hi
   rw [scanG_next (q:=p) (Nat.le_refl _) (by rw [hsk,List.length_drop]; omega) (by rw [hsk]) (by rw [hsk]) (by omega) hit]
   have e1:=drop_more hd'
   have hs : skipL (s.drop (p + (fmtT x).length)) = ([],true):=by rw [e1]; rfl
   rw [scanG_done (by rw [hs]) (by rw [hs]),toksS,toksS]
   rfl
 | x :: y :: r,p,acc,hg,hd,hp => by
   obtain ⟨h1,⟨h2,h3⟩,h4⟩:=hg x (by simp)
   obtain ⟨hi,hf,hb⟩:=itT_is h1 h2 h3
   have hd' : s.drop p = fmtT x ++ (32 :: textS (y :: r)):=by rw [hd,textS]
   have hlen:=congrArg List.length hd'
   rw [List.length_drop,List.length_append,List.length_cons] at hlen
   have hfl : 1 ≤ (fmtT x).length:=by obtain ⟨c,t,e,_⟩:=hf; rw [e]; simp
   have hsk : skipL (s.drop p) = (s.drop p,true):=by rw [hd']; exact fst_skip hf _
   have hit : itemL (s.drop p) = some ((itT x).1,(itT x).2.1,(itT x).2.2.1,(fmtT x).length):=by
    rw [hd']
    exact item_local (x:=[]) (by rw [List.append_nil]; exact hi) (Nat.le_refl _) (brk_cons rfl (by decide) (by decide))
   rw [scanG_next (q:=p) (Nat.le_refl _) (by rw [hsk,List.length_drop]; omega) (by rw [hsk]) (by rw [hsk]) (by omega) hit]
   have e1:=drop_more hd'
   have e2 : s.drop (p + (fmtT x).length + 1) = textS (y :: r):=by
    rw [← List.drop_drop,e1]; rfl
   rw [scanG_same (p':=p + (fmtT x).length + 1) (by rw [e1,e2]; exact skipL_blank rfl)]
   rw [scan_fmt s (y :: r) (p + (fmtT x).length + 1) _ (fun z hz => hg z (by simp only [List.mem_cons] at hz ⊢; exact .inr hz)) e2 (by omega),toksS,List.append_assoc]
   rfl
end
section
open Go.RowKit
theorem bare_txt {t u : TokI} (h : bareT t = bareT u) : fmtT t = fmtT u:=by
 have hk:=bare_kind h
 unfold fmtT
 rw [hk]
 by_cases h12 : u.kind = 1 ∨ u.kind = 2
 ·rw [if_pos h12,if_pos h12,bare_str h (by omega)]
 rw [if_neg h12,if_neg h12]
 by_cases h3 : u.kind = 3
 ·rw [if_pos h3,if_pos h3,bare_num h h3]
 rw [if_neg h3,if_neg h3]
 by_cases h4 : u.kind = 4
 ·rw [if_pos h4,if_pos h4,bare_str h (by omega)]
 rw [if_neg h4,if_neg h4]
def wtS : List TokI → Nat
 | [] => 0
 | t :: r => 1 + (fmtT t).length + wtS r
theorem textS_wt : ∀ L : List TokI,(textS L).length ≤ wtS L
 | [] => Nat.le_refl _
 | [t] => by rw [textS,wtS,wtS]; omega
 | t :: u :: r => by
   have:=textS_wt (u :: r)
   rw [textS,wtS,List.length_append,List.length_cons]
   omega
theorem wtS_pt : ∀ (L : List TokI) (P : PT),L.map bareT = P.map (fun x => bareT x.2) → wtS L ≤ wtP P
 | [],P,h => by rw [wtS]; omega
 | t :: r,[],h => by cases h
 | t :: r,x :: P,h => by
   rw [List.map_cons,List.map_cons] at h
   injection h with h1 h2
   have:=wtS_pt r P h2
   rw [wtS,wtP_cons,bare_txt h1]
   omega
theorem prog_toks (p : List Nd) (hp : NumsOk p) (hg : ∀ t ∈ p,NdG t) (hv : validL p = true) (hf : For6 p) : ∃ T : List Tok,scanL (fmtP p) = (T,0,0) ∧ (∀ t ∈ T.map Tok.toI,FineW t) ∧ T.length ≤ 65536 ∧
  (textJ (T.map Tok.toI) (T.map Tok.toI).length).length ≤ 65536 ∧ scanL (textJ (T.map Tok.toI) (T.map Tok.toI).length) = (toksS 0 (T.map Tok.toI),0,0):=by
 have hl:=fmtP_ln6 p hg hv hf
 have hsc:=fmt_scan p hp hv hl
 have htv:=scan_tv p hp hv
 rw [hsc] at htv
 have hfw : ∀ t ∈ (toksP 0 (topE p p.length true 0)).map Tok.toI,FineW t:=fun t ht => by
  obtain ⟨⟨h1,h2,h3⟩,h4⟩:=htv t ht
  exact ⟨h1,⟨h2,h3⟩,.inl h4,by omega⟩
 have hln : (textJ ((toksP 0 (topE p p.length true 0)).map Tok.toI) ((toksP 0 (topE p p.length true 0)).map Tok.toI).length).length ≤ 65536:=by
  rw [textJ_is _ _ (Nat.le_refl _),List.take_length]
  have h1:=textS_wt ((toksP 0 (topE p p.length true 0)).map Tok.toI)
  have h2:=wtS_pt ((toksP 0 (topE p p.length true 0)).map Tok.toI) (topE p p.length true 0) (by rw [List.map_map]; exact toksP_bare _ 0 (top_ok p hp hv))
  have h3:=wtP_ln6 p hg hv hf
  omega
 refine ⟨_,hsc,hfw,?_,hln,?_⟩
 ·have:=scanL_len (fmtP p)
  rw [hsc] at this
  exact this
 ·rw [scanL_go (by omega),scan_fmt _ _ 0 [] hfw (by rw [List.drop_zero,textJ_is _ _ (Nat.le_refl _),List.take_length]) (by omega)]
  rfl
end
section
open Go.RowKit
attribute [local go_sem] ByteArray.mk_append_mk bs_get bs_cut bs_end
abbrev rpObj (tv : Value) (i : Int) (nv : Value) (F : Int) : Obj:=.cells #[tv,.int .i64 i,nv,.int .i64 F] 138 (0,0)
theorem own_rp {w : World} {B : Nat} {v : Value} {l : List Nd} (h : NodesI w B v l) {b : Nat} {tv nv : Value} {i F : Int} (hb : w.heap[b]? = some (rpObj tv i nv F)) : v.ownBlock ≠ some b:=by
 intro e
 obtain ⟨cur,hc⟩:=own_type h e
 rw [hb] at hc
 injection hc with hc
 injection hc with _ h2 _
 exact absurd h2 (by decide)
structure RSt (m : Int) (B b : Nat) (w : World) (L : List TokI) (i : Nat) (F : Int) (o : List Nd) : Prop where
 ex : ∃ tv nv,w.heap[b]? = some (rpObj tv i nv F) ∧ TokB w B tv L ∧ NodesI w B nv o
 base : B ≤ b
 size : B ≤ w.heap.size
 syn : SynG m w
 hund : SynB B
 good : TGood L
 ix : i ≤ L.length
 f0 : -1 ≤ F
 f1 : F ≤ L.length
 ol : (o.length : Int) ≤ i + F + 1
theorem RSt.below {m F : Int} {B b i : Nat} {w w' : World} {L : List TokI} {o : List Nd} (h : RSt m B b w L i F o) (hb : Below w.heap.size w w') : RSt m B b w' L i F o:=by
 obtain ⟨⟨tv,nv,h1,h2,h3⟩,h4,h5,h6,h7,h8,h9,ha,hc,hd⟩:=h
 exact ⟨⟨tv,nv,blk_below h1 hb,h2.below (hb.mono h5),h3.below hb⟩,h4,Nat.le_trans h5 hb.size,h6.below (hb.mono h5) h7,h7,h8,h9,ha,hc,hd⟩
theorem RSt.alloc {m F : Int} {B b i : Nat} {w : World} {L : List TokI} {o : List Nd} (h : RSt m B b w L i F o) (x : Obj) : RSt m B b (w.alloc x) L i F o:=h.below ((Below.refl _ _).alloc (Nat.le_refl _) _)
end
section
open Go.RowKit
attribute [local go_sem] ByteArray.mk_append_mk bs_get bs_cut bs_end
attribute [local go_sem] SameB.some SameB.all
theorem RSt.grown {m F : Int} {B b i : Nat} {w w' : World} {L : List TokI} {o o' : List Nd} {tv nv u : Value} (h : RSt m B b w L i F o) (hb : w.heap[b]? = some (rpObj tv i nv F)) (ht : TokB w B tv L) (hn : NodesI w B nv o) (hg : w.grownBy w' nv.ownBlock) (hu : NodesI w' B u o') (hol : (o'.length : Int) ≤ i + F + 1) :
  RSt m B b (w'.setCell ⟨b,2,none⟩ u) L i F o' ∧ Below B w (w'.setCell ⟨b,2,none⟩ u):=by
 have hB : Below B w w':=(Below.refl _ _).grown hg h.size (fun k hk => own_row hn hk)
 have h1 : w'.heap[b]? = some (rpObj tv i nv F):=(hg.block b (lt_of_block hb) (fun e => own_rp hn hb e.symm)).trans hb
 have hB2 : Below B w' (w'.setCell ⟨b,2,none⟩ u):=(Below.refl _ _).setCell h.base _
 refine ⟨⟨⟨tv,u,heap_setCell_same _ _ 2 _ _ _ h1,ht.below (hB.trans hB2),own_setOther hu _ _ (own_rp hu h1)⟩,h.base,Nat.le_trans h.size (hB.trans hB2).size,h.syn.below (hB.trans hB2) h.hund,h.hund,h.good,h.ix,h.f0,h.f1,hol⟩,hB.trans hB2⟩
end
end Go.Proofs.YtoohondkpddmcaaGreatDoor
