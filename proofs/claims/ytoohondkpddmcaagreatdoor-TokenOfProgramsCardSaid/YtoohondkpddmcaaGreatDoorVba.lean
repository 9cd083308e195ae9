/- Fe Sq Pa -/
import Derived.Test.YtoohondkpddmcaaGreatDoorVau
import Derived.Test.YtoohondkpddmcaaGreatDoorVay
import Derived.Maps.AppendAt
set_option linter.unusedVariables false
set_option linter.unusedSimpArgs false
namespace Go.Proofs.YtoohondkpddmcaaGreatDoor
section
open Go.RowKit
theorem okT_len {t : TokI} (h : OkT t) (hs : t.str.length ≤ 65536) : (fmtT t).length ≤ 65536:=by
 obtain ⟨h1,h2,h3⟩:=h
 by_cases h4 : t.kind = 4
 ·have hl : t.str.length ≤ 255:=by
   unfold validT at h1
   rw [if_neg (by omega),if_neg (by omega),if_pos h4] at h1
   exact of_decide_eq_true h1
  exact Nat.le_trans (fmtT_len (by unfold validT; rw [if_neg (by omega),if_neg (by omega),if_pos h4]; exact decide_eq_true hl) h3 hl) (by decide)
 ·unfold fmtT
  split
  ·exact hs
  ·split
   ·have:=fmtI_len (v:=t.num.toNat) (by omega); omega
   ·(try rw [if_neg h4])
    unfold punC
    repeat' split
    all_goals simp
theorem fmt_text (p : List Nd) {d : Nat} {b : Bool} {k : UInt8} {i j : Nat} (lv : Nat) (s : List UInt8) (h : vAny p d b k i = some j) : textP (fmtA p d b k i lv s).1 = s ++ textP (fmtA p d b k i lv []).1:=by
 cases b with
 | false => obtain ⟨t,r,_,e⟩:=fmt_first p lv h; rw [e,e,textP_cons,textP_cons,List.nil_append]
 | true => obtain ⟨r,e⟩:=fmt_bfirst p lv h; rw [e,e,textP_cons,textP_cons,List.nil_append]
def LnF (p : List Nd) (d : Nat) (b : Bool) : Prop:=∀ (k : UInt8) (i j lv : Nat) (s : List UInt8),vAny p d b k i = some j → lv + d ≤ 300 → (textP (fmtA p d b k i lv s).1).length + 1000 ≤ s.length + 100000 * (j - i)
theorem ind_len (n : Nat) : (indL n).length = 2 * n:=by unfold indL; rw [List.length_replicate]
theorem elems_ln {p : List Nd} {d : Nat} (hs : LnF p d false) (k : UInt8) (lv : Nat) (hlv : lv + 1 + d ≤ 300) : ∀ (m : Nat) (first : Bool) (i j : Nat),nextN (vAny p d false k) m i = some j → (textP (elemsL (fmtA p d) k lv m first i).1).length ≤ 100000 * (j - i) ∧ i ≤ j
 | 0,first,i,j,h => by rw [nextN] at h; injection h with h; subst h; exact ⟨by rw [elemsL]; simp [textP_nil],Nat.le_refl _⟩
 | m + 1,first,i,j,h => by
   rw [nextN] at h
   cases hx : vAny p d false k i with
   | none => rw [hx] at h; cases h
   | some q =>
     rw [hx] at h
     have hiq:=(vAny_good p d false k i q hx).1
     rw [elemsL]
     simp only [fmt_next p d false k i q _ _ hx]
     obtain ⟨h1,h2⟩:=elems_ln hs k lv hlv m false q j h
     have h3:=hs k i q (elV k lv) (elS k lv first) hx (by unfold elV; split <;> omega)
     have h4 : (elS k lv first).length ≤ 700:=by
      unfold elS
      split
      ·split <;> simp
      ·rw [List.length_cons,ind_len]; omega
     have h5 : (textP (elC k first)).length ≤ 10:=by unfold elC; split <;> simp [textP_cons,textP_nil,cmT,fmtT,punC]
     refine ⟨?_,by omega⟩
     rw [textP_app,textP_app,List.length_append,List.length_append]
     omega
theorem args_ln {p : List Nd} {d : Nat} (hs : LnF p d false) (lv : Nat) (hlv : lv + d ≤ 300) : ∀ (ks : List UInt8) (first : Bool) (i j : Nat),nextK (fun k j => vAny p d (blkB k) k j) ks i = some j → (textP (argsE (fmtA p d) lv ks first i).1).length ≤ 100000 * ((argsE (fmtA p d) lv ks first i).2 - i) + 10 ∧ i ≤ (argsE (fmtA p d) lv ks first i).2
 | [],first,i,j,h => by rw [argsE]; exact ⟨by simp [textP_cons,textP_nil,pcT,fmtT,punC],Nat.le_refl _⟩
 | k :: ks,first,i,j,h => by
   rw [argsE]
   by_cases hb : blkB k = true
   ·rw [if_pos hb]; exact ⟨by simp [textP_cons,textP_nil,pcT,fmtT,punC],Nat.le_refl _⟩
   ·have hb' : blkB k = false:=by simpa using hb
    rw [if_neg hb]
    rw [nextK] at h
    simp only [hb'] at h
    cases hx : vAny p d false k i with
    | none => rw [hx] at h; cases h
    | some q =>
      rw [hx] at h
      have hiq:=(vAny_good p d false k i q hx).1
      simp only [fmt_next p d false k i q _ _ hx]
      obtain ⟨h1,h2⟩:=args_ln hs lv hlv ks false q j h
      have h3:=hs k i q lv (if first = true then [] else [32]) hx hlv
      have h4 : (if first = true then ([] : List UInt8) else [32]).length ≤ 10:=by split <;> simp
      have h5 : (textP (if first = true then ([] : PT) else [([],cmT)])).length ≤ 10:=by split <;> simp [textP_cons,textP_nil,cmT,fmtT,punC]
      refine ⟨?_,by omega⟩
      rw [textP_app,textP_app,List.length_append,List.length_append]
      omega
theorem blks_ln {p : List Nd} {d : Nat} (hs : LnF p d true) (lv : Nat) (hlv : lv + d ≤ 300) : ∀ (ks : List UInt8) (first : Bool) (i j : Nat),ks.all blkB = true → nextK (fun k j => vAny p d (blkB k) k j) ks i = some j → (textP (blksE (fmtA p d) lv ks first i).1).length ≤ 100000 * (j - i) ∧ i ≤ j
 | [],first,i,j,ha,h => by rw [nextK] at h; injection h with h; subst h; exact ⟨by rw [blksE]; simp [textP_nil],Nat.le_refl _⟩
 | k :: ks,first,i,j,ha,h => by
   rw [List.all_cons,Bool.and_eq_true] at ha
   rw [nextK] at h
   simp only [ha.1] at h
   cases hx : vAny p d true k i with
   | none => rw [hx] at h; cases h
   | some q =>
     rw [hx] at h
     have hiq:=(vAny_good p d true k i q hx).1
     rw [blksE]
     simp only [fmt_next p d true k i q _ _ hx]
     obtain ⟨h1,h2⟩:=blks_ln hs lv hlv ks false q j ha.2 h
     have h3:=hs k i q lv [32] hx hlv
     have h5 : (textP (if first = true then ([] : PT) else [([32],elT)])).length ≤ 10:=by split <;> simp [textP_cons,textP_nil,elT,fmtT]
     refine ⟨?_,by omega⟩
     rw [textP_app,textP_app,List.length_append,List.length_append]
     simp only [List.length_cons,List.length_nil] at h3
     omega
theorem fmt_ln (p : List Nd) (hp : NumsOk p) (hps : ∀ t ∈ p,t.str.length ≤ 65536) : ∀ (d : Nat) (b : Bool),LnF p d b
 | 0,b,k,i,j,lv,s,h,hlv => by rw [vAny] at h; cases h
 | d + 1,true,k,i,j,lv,s,h,hlv => by
   obtain ⟨n,hn,_,hx⟩:=bl_node h
   rw [fmtA,hn]
   simp only []
   obtain ⟨h1,h2⟩:=elems_ln (fmt_ln p hp hps d false) k lv (by omega) _ true _ _ hx
   rw [textP_cons,textP_app,List.length_append,List.length_append,List.length_append]
   have h3 : (fmtT boT).length = 1:=rfl
   have h4 : (textP [(endS k lv n.pos.toNat,bcT)]).length ≤ 700:=by
    rw [textP_cons,textP_nil,List.append_nil,List.length_append]
    have : (fmtT bcT).length = 1:=rfl
    have : (endS k lv n.pos.toNat).length ≤ 610:=by
     unfold endS
     split
     ·simp
     ·rw [List.length_cons,ind_len]; omega
    show (endS k lv n.pos.toNat).length + (fmtT bcT).length ≤ 700
    omega
   show s.length + ((fmtT boT).length + ((textP (elemsL (fmtA p d) k lv n.pos.toNat true (i + 1)).1).length + (textP [(endS k lv n.pos.toNat,bcT)]).length)) + 1000 ≤ _
   omega
 | d + 1,false,k,i,j,lv,s,h,hlv => by
   obtain ⟨n,ks,hn,ha,hf,hk,hx⟩:=el_node h
   have hm : n ∈ p:=List.mem_of_getElem? hn
   have hij:=(vAny_good p (d + 1) false k i j h).1
   rw [fmtA,hn]
   simp only []
   cases hl : leafT n with
   | some t =>
     simp only []
     have hst : t.str.length ≤ 65536:=by
      have:=hps n hm
      unfold leafT at hl
      repeat' split at hl
      all_goals first | (injection hl with hl; subst hl; first | exact this | simp) | cases hl
     have:=okT_len (leaf_ok hf (hp n hm) hl) hst
     rw [textP_cons,textP_nil,List.append_nil,List.length_append]
     show s.length + (fmtT t).length + 1000 ≤ _
     omega
   | none =>
     simp only []
     have hst : (headT n).str.length ≤ 65536:=by
      unfold headT
      split
      ·exact hps n hm
      ·have hw:=ops_words _ (acc_ops ha)
       have hc : ∀ op ∈ allOps,(formP op).1.length ≤ 65536:=by decide +kernel
       exact hc _ (acc_ops ha)
     have hh:=okT_len (head_ok ha hf hl) hst
     by_cases h5 : n.kind = 5 ∧ n.pos = 0
     ·rw [if_pos h5]
      rw [textP_cons,List.length_append,List.length_append]
      have : (textP [([32],poT),([],pcT)]).length = 3:=rfl
      show s.length + ((fmtT (headT n)).length + (textP [([32],poT),([],pcT)]).length) + 1000 ≤ _
      omega
     ·rw [if_neg h5,hk]
      rw [textP_cons,List.length_append,List.length_append]
      show s.length + ((fmtT (headT n)).length + (textP (restE (fmtA p d) ks lv (i + 1)).1).length) + 1000 ≤ _
      have hsh:=(kids_shp hk).1
      have hr : (textP (restE (fmtA p d) ks lv (i + 1)).1).length ≤ 100000 * (j - (i + 1)) + 20:=by
       unfold restE
       by_cases hks : ks = []
       ·rw [if_pos hks]; simp [textP_nil]
       ·rw [if_neg hks]
        unfold shpB at hsh
        rw [Bool.and_eq_true] at hsh
        have hnx:=args_next lv (fun k i j lv s h => fmt_next p d false k i j lv s h) ks true (i + 1) j hx
        obtain ⟨a1,a2⟩:=args_ln (fmt_ln p hp hps d false) lv (by omega) ks true (i + 1) j hx
        obtain ⟨b1,b2⟩:=blks_ln (fmt_ln p hp hps d true) lv (by omega) _ true _ j hsh.1 hnx
        show (textP (([32],poT) :: ((argsE (fmtA p d) lv ks true (i + 1)).1 ++ (blksE (fmtA p d) lv (ks.dropWhile fun k => !blkB k) true (argsE (fmtA p d) lv ks true (i + 1)).2).1))).length ≤ _
        rw [textP_cons,textP_app,List.length_append,List.length_append,List.length_append]
        have : (fmtT poT).length = 1:=rfl
        have : ([32] : List UInt8).length = 1:=rfl
        show ([32] : List UInt8).length + ((fmtT poT).length + ((textP (argsE (fmtA p d) lv ks true (i + 1)).1).length + (textP (blksE (fmtA p d) lv (ks.dropWhile fun k => !blkB k) true (argsE (fmtA p d) lv ks true (i + 1)).2).1).length)) ≤ _
        omega
      omega
theorem top_ln (p : List Nd) (hp : NumsOk p) (hps : ∀ t ∈ p,t.str.length ≤ 65536) : ∀ (f : Nat) (first : Bool) (i : Nat),i ≤ p.length → vTop p f i = true → (textP (topE p f first i)).length ≤ 100000 * (p.length - i)
 | 0,first,i,hi,h => by rw [topE]; simp [textP_nil]
 | f + 1,first,i,hi,h => by
   rw [topE]
   split
   ·simp [textP_nil]
   ·next hlt =>
    rw [vTop,if_neg hlt] at h
    cases hx : vAny p 32 false 68 i with
    | none => rw [hx] at h; cases h
    | some q =>
      rw [hx] at h
      simp only [] at h
      obtain ⟨h1,h2⟩:=vAny_good p 32 false 68 i q hx
      rw [fmt_next p 32 false 68 i q _ _ hx,textP_app,List.length_append]
      have h3:=fmt_ln p hp hps 32 false 68 i q 0 (if first = true then [] else [10]) hx (by omega)
      have h4 : (if first = true then ([] : List UInt8) else [10]).length ≤ 10:=by split <;> simp
      have h5:=top_ln p hp hps f false q h2 h
      omega
theorem fmtP_ln (p : List Nd) (hp : NumsOk p) (hps : ∀ t ∈ p,t.str.length ≤ 65536) (hv : validL p = true) : (fmtP p).length ≤ 300000000:=by
 have hv':=hv
 unfold validL at hv'
 simp only [Bool.and_eq_true,decide_eq_true_eq] at hv'
 have h:=top_ln p hp hps p.length true 0 (Nat.zero_le _) hv'.2
 have h2 : (tailL p).length ≤ 1:=by unfold tailL; split <;> simp
 unfold fmtP
 rw [List.length_append]
 omega
end
section
open Go.RowKit
attribute [local go_sem] ByteArray.mk_append_mk bs_get bs_cut bs_end
end
section
open Go.RowKit
attribute [local go_sem] ByteArray.mk_append_mk bs_get bs_cut bs_end
def Keep (C : Nat) (w w' : World) : Prop:=w.grownBy w' (some C)
theorem Keep.refl (C : Nat) (w : World) : Keep C w w:=World.grownBy.refl w _
theorem Keep.trans {C : Nat} {a b c : World} (h : Keep C a b) (k : Keep C b c) : Keep C a c:=World.grownBy.trans h k
theorem Keep.of {C : Nat} {w w' : World} (h : Below w.heap.size w w') : Keep C w w':=⟨h.os,h.tape,h.output,h.size,fun k hk _ => h.block k hk⟩
theorem Keep.drewN {C : Nat} {a w : World} (h : Keep C a w) (n : Nat) : Keep C a (w.drewN n):=⟨h.os,h.tape,h.output,h.size,h.block⟩
theorem Keep.setC {C : Nat} {a w : World} (h : Keep C a w) (j : Nat) (v : Value) : Keep C a (w.setCell ⟨C,j,none⟩ v) :=
 h.trans ⟨rfl,rfl,rfl,by simp [World.setCell],fun k hk hne => Below.heap_setCell _ _ _ _ (fun e => hne (by rw [e]))⟩
theorem Keep.below {C B : Nat} {w w' : World} (h : Keep C w w') (hB : B ≤ w.heap.size) (hC : B ≤ C) : Below B w w' :=
 ⟨h.os,h.tape,h.output,h.size,fun k hk => h.block k (by omega) (fun e => by injection e with e; omega)⟩
abbrev chObj (tv : Value) (i : Int) : Obj:=.cells #[tv,.int .i64 i] 95 (0,0)
theorem cells2 {w : World} {b t : Nat} {c0 c1 : Value} (h : w.heap[b]? = some (.cells #[c0,c1] t (0,0))) : w.cell? ⟨b,0,none⟩ = some c0 ∧ w.cell? ⟨b,1,none⟩ = some c1 :=
 ⟨cell_of_row w b 0 _ _ (0,0) h,cell_of_row w b 1 _ _ (0,0) h⟩
def CSt (w : World) (C : Nat) : Prop:=∃ (a : Option Addr) (cap i : Nat) (l : List Int),w.heap[C]? = some (chObj (.slice a l.length cap) i) ∧ i ≤ l.length ∧ l.length ≤ 140737488351232 ∧
 (l ≠ [] → ∃ b off,a = some ⟨b,off,none⟩ ∧ b < C ∧ ∀ k (h : k < l.length),w.cell? ⟨b,off + k,none⟩ = some (.int .i64 l[k])) ∧ ∀ x ∈ l,-9223372036854775808 ≤ x ∧ x ≤ 9223372036854775807
theorem CSt.keep {w w' : World} {C : Nat} (h : CSt w C) (hk : Below w.heap.size w w') : CSt w' C:=by
 obtain ⟨a,cap,i,l,h1,h2,h3,h4,h5⟩:=h
 refine ⟨a,cap,i,l,blk_below h1 hk,h2,h3,fun hn => ?_,h5⟩
 obtain ⟨b,off,ha,hb,hc⟩:=h4 hn
 exact ⟨b,off,ha,hb,fun k hkl => (hk.cell (p:=⟨b,off + k,none⟩) (World.block_lt_of_cell? w _ (hc k hkl))).trans (hc k hkl)⟩
theorem CSt.lt {w : World} {C : Nat} (h : CSt w C) : C < w.heap.size:=by
 obtain ⟨a,cap,i,l,h1,_⟩:=h
 exact lt_of_block h1
theorem CSt.grown {w w' : World} {C : Nat} {row : Option Nat} (h : CSt w C) (hg : w.grownBy w' row) (hr : ∀ g,row = some g → C < g) : CSt w' C:=by
 obtain ⟨a,cap,i,l,h1,h2,h3,h4,h5⟩:=h
 refine ⟨a,cap,i,l,blk_grown h1 hg (fun e => by have:=hr C e.symm; omega),h2,h3,fun hn => ?_,h5⟩
 obtain ⟨b,off,ha,hb,hc⟩:=h4 hn
 exact ⟨b,off,ha,hb,fun k hkl => hg.cell (hc k hkl) (fun e => by have:=hr b e.symm; omega)⟩
theorem Keep.grown {C : Nat} {w a b : World} {row : Option Nat} (h : Keep C w a) (hg : a.grownBy b row) (hr : ∀ g,row = some g → w.heap.size ≤ g) : Keep C w b :=
 ⟨hg.os.trans h.os,hg.tape.trans h.tape,hg.output.trans h.output,Nat.le_trans h.size hg.size,fun k hk hne => (hg.block k (Nat.lt_of_lt_of_le hk h.size) (fun e => by have:=hr k e.symm; omega)).trans (h.block k hk hne)⟩
theorem cell_setC {w : World} {b C j : Nat} {p : Nat} {v u : Value} (h : w.cell? ⟨b,p,none⟩ = some v) (hb : b ≠ C) : (w.setCell ⟨C,j,none⟩ u).cell? ⟨b,p,none⟩ = some v :=
 (World.cell?_of_block (a:=⟨b,p,none⟩) (heap_setCell_other w ⟨C,j,none⟩ b u hb)).trans h
theorem quiet_sameP {P : Program} {f : FuncId} {args : Array Value} {w : World} {n : Nat} {v : Value}
  (h : Calls P f args (w.drewN n) fun e w' => e = .returned v ∧ w.drewN n = w') : Calls P f args (w.drewN n) fun e w'' => e = .returned v ∧ ∃ m,w'' = w.drewN m :=
 h.mono fun _ _ ⟨he,hm⟩ => ⟨he,n,hm.symm⟩
set_option maxHeartbeats 2000000 in
theorem next_any (C : Nat) (n : Int) (w : World) (h : CSt w C) (hn : 0 < n) (hn2 : n ≤ 9223372036854775807) :
  Calls Tryz.prog 29 #[.pointer (some ⟨C,0,none⟩),.int .i64 n] w fun e w' => ∃ k : Nat,e = .returned (.int .i64 k) ∧ (k : Int) < n ∧ CSt w' C ∧ Keep C w w':=by
 have HC:=Lib.hid h
 obtain ⟨a,cap,i,l,h1,h2,h3,h4,h5⟩:=h
 obtain ⟨c0,c1⟩:=cells2 h1
 by_cases hlt : i < l.length
 ·have hi1 : ¬ (i : Int) ≥ (l.length : Int):=by omega
  have hi2 : (i : Int) < (l.length : Int):=by omega
  obtain ⟨b,off,rfl,hbC,hc⟩:=h4 (by rintro rfl; simp at hlt)
  have hb : b ≠ C:=by omega
  have k0:=hc i hlt
  have hx:=h5 l[i] (List.getElem_mem hlt)
  have HST : Hid (∀ q,CSt ((w.drewN q).setCell ⟨C,1,none⟩ (.int .i64 ((i : Int) + 1))) C):=Lib.hid (fun q => by
   refine ⟨some ⟨b,off,none⟩,cap,i + 1,l,?_,by omega,h3,fun _ => ⟨b,off,rfl,hbC,fun k hk => ?_⟩,h5⟩
   ·have:=heap_setCell_same (w.drewN q) _ 1 _ _ (.int .i64 ((i : Int) + 1)) h1
    rw [this]
    rfl
   ·exact cell_setC (w:=w.drewN q) (hc k hk) hb)
  obtain ⟨x,hxe⟩ : ∃ x,l[i] = x:=⟨_,rfl⟩
  rw [hxe] at k0 hx
  have HMD:=Lib.hid (fun w => mod_any x n w hn hn2)
  have hnn:=modV_nonneg x n hn
  have hln:=modV_lt x n hn
  obtain ⟨z,hz⟩ : ∃ z : Nat,modV x n = z:=⟨(modV x n).toNat,by omega⟩
  rw [hz] at HMD hln
  have f1:=free3 h1 1
  have d0 : ∀ q,((w.drewN q).setCell ⟨C,1,none⟩ (.int .i64 ((i : Int) + 1))).cell? ⟨C,0,none⟩ = some (.slice (some ⟨b,off,none⟩) l.length cap):=fun q => by
   have:=heap_setCell_same (w.drewN q) _ 1 _ _ (.int .i64 ((i : Int) + 1)) h1
   exact (cells2 (c0:=.slice (some ⟨b,off,none⟩) l.length cap) (c1:=.int .i64 ((i : Int) + 1)) (by rw [this] <;> rfl)).1
  have d1 : ∀ q,((w.drewN q).setCell ⟨C,1,none⟩ (.int .i64 ((i : Int) + 1))).cell? ⟨C,1,none⟩ = some (.int .i64 ((i : Int) + 1)):=fun q => by
   have:=heap_setCell_same (w.drewN q) _ 1 _ _ (.int .i64 ((i : Int) + 1)) h1
   exact (cells2 (c0:=.slice (some ⟨b,off,none⟩) l.length cap) (c1:=.int .i64 ((i : Int) + 1)) (by rw [this] <;> rfl)).2
  have d2 : ∀ q,((w.drewN q).setCell ⟨C,1,none⟩ (.int .i64 ((i : Int) + 1))).cell? ⟨b,off + i,none⟩ = some (.int .i64 x):=fun q => cell_setC (w:=w.drewN q) k0 hb
  have HKP : Hid (∀ q,Keep C w ((w.drewN q).setCell ⟨C,1,none⟩ (.int .i64 ((i : Int) + 1)))):=Lib.hid (fun q => ((Keep.refl C w).drewN q).setC 1 _)
  clear h1 h4 h5 hc hxe hz hnn
  go_enter Tryz.func29,Tryz.ntmps29
  go_upto_region 1 with fail
  go_quiet (fail)
  go_wp2_with fail
  go_upto_region 4 with fail
  have e0:=d0 nq
  have e1:=d1 nq
  have e2:=d2 nq
  have HS2:=Lib.hid (HST.out nq)
  have HK2:=Lib.hid (HKP.out nq)
  clear d0 d1 d2 HST HKP c0 c1 k0 f1
  generalize (w.drewN nq).setCell ⟨C,1,none⟩ (.int .i64 ((i : Int) + 1)) = W at e0 e1 e2 HS2 HK2 ⊢
  have hwr : IntKind.i64.wrap (i : Int) = (i : Int):=by rw [IntKind.wrap_i64]; omega
  go_quiet ((go_at_call 24; with_reducible refine quiet_sameP (HMD.out _)))
  go_wp2_with fail
  go_ret
  exact ⟨z,rfl,hln,HS2.out.keep (below_drewN (Below.refl _ _) _),HK2.out.drewN _⟩
 ·have hi1 : (i : Int) ≥ (l.length : Int):=by omega
  clear h4 h5 h1
  go_enter Tryz.func29,Tryz.ntmps29
  go_upto_region 1 with fail
  go_quiet (fail)
  go_wp2_with fail
  go_ret
  exact ⟨0,rfl,by omega,HC.out.keep (below_drewN (Below.refl _ _) _),(Keep.refl C w).drewN _⟩
theorem left_any (C : Nat) (w : World) (h : CSt w C) :
  Calls Tryz.prog 30 #[.pointer (some ⟨C,0,none⟩)] w fun e w' => ∃ b,e = .returned (.bool b) ∧ CSt w' C ∧ Keep C w w':=by
 have HC:=Lib.hid h
 obtain ⟨a,cap,i,l,h1,h2,h3,h4,h5⟩:=h
 obtain ⟨c0,c1⟩:=cells2 h1
 clear h1 h4 h5
 go_enter Tryz.func30,Tryz.ntmps30
 go_upto_region 1 with fail
 go_quiet (fail)
 go_wp2_with fail
 go_ret
 exact ⟨_,rfl,HC.out.keep (below_drewN (Below.refl _ _) _),(Keep.refl C w).drewN _⟩
def IArg (w : World) (v : Value) (l : List Int) : Prop :=
 ∃ (a : Option Addr) (cap : Nat),v = .slice a l.length cap ∧ l.length ≤ 140737488351232 ∧ (l ≠ [] → ∃ b off,a = some ⟨b,off,none⟩ ∧ ∀ k (h : k < l.length),w.cell? ⟨b,off + k,none⟩ = some (.int .i64 l[k])) ∧ ∀ x ∈ l,-9223372036854775808 ≤ x ∧ x ≤ 9223372036854775807
theorem new_any (v : Value) (l : List Int) (w : World) (h : IArg w v l) :
  Calls Tryz.prog 26 #[v] w fun e w' => e = .returned (.pointer (some ⟨w.heap.size,0,none⟩)) ∧ CSt w' w.heap.size ∧ Below w.heap.size w w':=by
 obtain ⟨a,cap,rfl,hl,hc,hx⟩:=h
 have HC : Hid (CSt (w.alloc (chObj (.slice a l.length cap) 0)) w.heap.size):=Lib.hid (by
  refine ⟨a,cap,0,l,heap_alloc_new _ _,Nat.zero_le _,hl,fun hn => ?_,hx⟩
  obtain ⟨b,off,ha,hk⟩:=hc hn
  have hb : b < w.heap.size:=World.block_lt_of_cell? w ⟨b,off + 0,none⟩ (hk 0 (List.length_pos_iff.2 hn))
  exact ⟨b,off,ha,hb,fun k hkl => (Below.cell ((Below.refl _ _).alloc (Nat.le_refl _) _) (p:=⟨b,off + k,none⟩) hb).trans (hk k hkl)⟩)
 have HB : Hid (Below w.heap.size w (w.alloc (chObj (.slice a l.length cap) 0))):=Lib.hid ((Below.refl _ _).alloc (Nat.le_refl _) _)
 clear hc hx
 go_enter Tryz.func26,Tryz.ntmps26
 go_wp2_with fail
 go_ret
 exact ⟨rfl,HC.out,HB.out⟩
abbrev segO : Obj:=.cells #[.string ⟨#[65]⟩,.string ⟨#[66]⟩,.string ⟨#[67]⟩,.string ⟨#[68,69,86,48]⟩,.string ⟨#[80,87,82,48]⟩,.string ⟨#[95,83,84,65]⟩,.string ⟨#[77,84,88]⟩,.string ⟨#[69,86,84]⟩,.string ⟨#[70,49]⟩,.string ⟨#[77]⟩] 9
def segL : List (List UInt8):=[[65],[66],[67],[68,69,86,48],[80,87,82,48],[95,83,84,65],[77,84,88],[69,86,84],[70,49],[77]]
theorem seg_at : ∀ k : Fin 10,∃ x ∈ segL,segL[k.val]? = some x ∧ x.length ≤ 4:=by decide +kernel
theorem seg_cell {w : World} {A : Nat} (h : w.heap[A]? = some segO) (k : Nat) (hk : k < 10) : ∃ x : List UInt8,x.length ≤ 4 ∧ w.cell? ⟨A,k,none⟩ = some (.string ⟨x.toArray⟩):=by
 obtain ⟨x,_,h1,h2⟩:=seg_at ⟨k,hk⟩
 refine ⟨x,h2,?_⟩
 rw [cell_of_row w A k _ _ (0,0) h]
 have e : (segL.map strV).toArray[k]? = some (strV x):=by
  have h1' : segL[k]? = some x:=h1
  rw [List.getElem?_toArray,List.getElem?_map,h1']
  rfl
 exact e
theorem seg_any (n : Int) (w : World) :
  Calls Tryz.prog 57 #[.int .i64 n] w fun e w' => ∃ s : List UInt8,e = .returned (.string ⟨s.toArray⟩) ∧ s.length ≤ 4 ∧ Below w.heap.size w w':=by
 have hA : (w.alloc segO).heap[w.heap.size]? = some segO:=heap_alloc_new _ _
 have HB : Hid (Below w.heap.size w (w.alloc segO)):=Lib.hid ((Below.refl _ _).alloc (Nat.le_refl _) _)
 have hnn:=modV_nonneg n 10 (by omega)
 have hln:=modV_lt n 10 (by omega)
 obtain ⟨z,hz⟩ : ∃ z : Nat,modV n 10 = z:=⟨(modV n 10).toNat,by omega⟩
 have HMD:=Lib.hid (fun w => mod_any n 10 w (by omega) (by omega))
 rw [hz] at HMD hln
 obtain ⟨x,hx,c0⟩:=seg_cell hA z (by omega)
 have hz10 : (z : Int) < 10:=hln
 clear hA hnn hz
 go_enter Tryz.func57,Tryz.ntmps57
 go_upto_region 2 with fail
 obtain ⟨A,hAe⟩ : ∃ A,w.heap.size = A:=⟨_,rfl⟩
 have HAE:=Lib.hid hAe
 rw [hAe] at c0
 (try simp only [hAe])
 clear hAe
 generalize w.alloc segO = W at c0 HB ⊢
 go_wp2_with fail
 ((with_reducible refine (HMD.out _).mono ?_))
 rintro e w1 ⟨rfl,rfl⟩
 go_wp2_with fail
 go_ret
 exact ⟨x,rfl,hx,HB.out⟩
end
end Go.Proofs.YtoohondkpddmcaaGreatDoor
