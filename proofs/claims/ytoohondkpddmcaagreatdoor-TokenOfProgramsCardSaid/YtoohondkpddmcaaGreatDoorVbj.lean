/- Rc2 Rh -/
import Derived.Test.YtoohondkpddmcaaGreatDoorVbg
import Derived.Test.YtoohondkpddmcaaGreatDoorVbi
import Derived.Test.YtoohondkpddmcaaGreatDoorVas
set_option linter.unusedVariables false
set_option linter.unusedSimpArgs false
namespace Go.Proofs.YtoohondkpddmcaaGreatDoor
section
open Go.RowKit
attribute [local go_sem] ByteArray.mk_append_mk bs_get bs_cut bs_end
abbrev litO : Obj:=.cells #[.int .i64 10,.string ⟨#[83,99,111,112,101]⟩,.string ⟨#[110,68]⟩,.int .i64 11,.string ⟨#[68,101,118,105,99,101]⟩,.string ⟨#[115,68]⟩,.int .i64 12,.string ⟨#[80,111,119,101,114,82,101,115,111,117,114,99,101]⟩,.string ⟨#[115,105,105,68]⟩,.int .i64 13,.string ⟨#[78,97,109,101]⟩,.string ⟨#[115,100]⟩,.int .i64 14,.string ⟨#[77,101,116,104,111,100]⟩,.string ⟨#[115,105,105,105,83]⟩,.int .i64 15,.string ⟨#[79,112,101,114,97,116,105,111,110,82,101,103,105,111,110]⟩,.string ⟨#[115,105,105,105]⟩,.int .i64 16,.string ⟨#[70,105,101,108,100]⟩,.string ⟨#[110,105,105,70]⟩,.int .i64 17,.string ⟨#[73,110,100,101,120,70,105,101,108,100]⟩,.string ⟨#[110,110,105,105,70]⟩,.int .i64 18,.string ⟨#[85,110,105,116]⟩,.string ⟨#[115,105]⟩,.int .i64 19,.string ⟨#[83,107,105,112]⟩,.string ⟨#[105]⟩,.int .i64 20,.string ⟨#[77,117,116,101,120]⟩,.string ⟨#[115,105]⟩,.int .i64 21,.string ⟨#[69,118,101,110,116]⟩,.string ⟨#[115]⟩,.int .i64 30,.string ⟨#[83,116,111,114,101]⟩,.string ⟨#[101,116]⟩,.int .i64 31,.string ⟨#[73,102]⟩,.string ⟨#[101,83]⟩,.int .i64 32,.string ⟨#[87,104,105,108,101]⟩,.string ⟨#[101,83]⟩,.int .i64 33,.string ⟨#[82,101,116,117,114,110]⟩,.string ⟨#[]⟩,.int .i64 34,.string ⟨#[66,114,101,97,107]⟩,.string ⟨#[]⟩,.int .i64 35,.string ⟨#[67,111,110,116,105,110,117,101]⟩,.string ⟨#[]⟩,.int .i64 36,.string ⟨#[82,101,108,101,97,115,101]⟩,.string ⟨#[110]⟩,.int .i64 37,.string ⟨#[83,105,103,110,97,108]⟩,.string ⟨#[110]⟩,.int .i64 38,.string ⟨#[82,101,115,101,116]⟩,.string ⟨#[110]⟩,.int .i64 39,.string ⟨#[83,108,101,101,112]⟩,.string ⟨#[101]⟩,.int .i64 40,.string ⟨#[78,111,116,105,102,121]⟩,.string ⟨#[110,101]⟩,.int .i64 41,.string ⟨#[65,99,113,117,105,114,101]⟩,.string ⟨#[110,105]⟩,.int .i64 42,.string ⟨#[87,97,105,116]⟩,.string ⟨#[110,101]⟩,.int .i64 50,.string ⟨#[66,117,102,102,101,114]⟩,.string ⟨#[105,73]⟩,.int .i64 51,.string ⟨#[80,97,99,107,97,103,101]⟩,.string ⟨#[105,80]⟩,.int .i64 85,.string ⟨#[82,101,102,79,102]⟩,.string ⟨#[116]⟩,.int .i64 87,.string ⟨#[79,98,106,101,99,116,84,121,112,101]⟩,.string ⟨#[116]⟩,.int .i64 86,.string ⟨#[67,111,110,100,82,101,102,79,102]⟩,.string ⟨#[110]⟩,.int .i64 88,.string ⟨#[77,105,100]⟩,.string ⟨#[101,101,101]⟩] 102
abbrev twoO : Obj:=.cells #[.string ⟨#[65,100,100]⟩,.string ⟨#[83,117,98,116,114,97,99,116]⟩,.string ⟨#[77,117,108,116,105,112,108,121]⟩,.string ⟨#[68,105,118,105,100,101]⟩,.string ⟨#[77,111,100]⟩,.string ⟨#[65,110,100]⟩,.string ⟨#[79,114]⟩,.string ⟨#[88,111,114]⟩,.string ⟨#[83,104,105,102,116,76,101,102,116]⟩,.string ⟨#[83,104,105,102,116,82,105,103,104,116]⟩,.string ⟨#[76,65,110,100]⟩,.string ⟨#[76,79,114]⟩,.string ⟨#[76,69,113,117,97,108]⟩,.string ⟨#[76,76,101,115,115]⟩,.string ⟨#[76,71,114,101,97,116,101,114]⟩,.string ⟨#[67,111,110,99,97,116,101,110,97,116,101]⟩,.string ⟨#[73,110,100,101,120]⟩] 9
abbrev oneO : Obj:=.cells #[.string ⟨#[78,111,116]⟩,.string ⟨#[76,78,111,116]⟩,.string ⟨#[83,105,122,101,79,102]⟩,.string ⟨#[84,111,73,110,116,101,103,101,114]⟩,.string ⟨#[84,111,66,117,102,102,101,114]⟩,.string ⟨#[84,111,72,101,120,83,116,114,105,110,103]⟩,.string ⟨#[84,111,68,101,99,105,109,97,108,83,116,114,105,110,103]⟩,.string ⟨#[68,101,114,101,102,79,102]⟩] 9
def numR (a : Int) (x : List UInt8) : List (List UInt8) → List Rw
 | [] => []
 | t :: r => (a,t,x) :: numR (a + 1) x r
theorem twoR_is : twoR = numR 60 [101,101] two0:=by decide +kernel
theorem oneR_is : oneR = numR 77 [101] one0:=by decide +kernel
theorem numR_len (x : List UInt8) : ∀ (l : List (List UInt8)) (a : Int),(numR a x l).length = l.length
 | [],a => rfl
 | t :: r,a => by rw [numR,List.length_cons,numR_len x r,List.length_cons]
theorem numR_take (x : List UInt8) : ∀ (l : List (List UInt8)) (a : Int) (k : Nat) (h : k < l.length),numR a x (l.take (k + 1)) = numR a x (l.take k) ++ [(a + k,l[k],x)]
 | t :: r,a,0,h => by simp [numR]
 | t :: r,a,k + 1,h => by
   rw [List.take_succ_cons,List.take_succ_cons,numR,numR,numR_take x r (a + 1) k (by simpa using h)]
   simp only [List.cons_append,List.getElem_cons_succ]
   rw [show a + 1 + (k : Int) = a + ((k + 1 : Nat) : Int) by omega]
theorem own_rw {w : World} {B : Nat} {v : Value} {l : List Rw} (h : RowsI w B v l) {b : Nat} {cs : Array Value} (hb : w.heap[b]? = some (.cells cs 9 (0,0))) : v.ownBlock ≠ some b:=by
 intro e
 obtain ⟨cur,hc⟩:=own_type h e
 rw [hb] at hc
 injection hc with hc
 injection hc with _ h2 _
 exact absurd h2 (by decide)
theorem two_at (k : Nat) (h : k < two0.length) : (two0.map strV).toArray[k]? = some (strV two0[k]):=by simp [h]
theorem one_at (k : Nat) (h : k < one0.length) : (one0.map strV).toArray[k]? = some (strV one0[k]):=by simp [h]
set_option maxRecDepth 100000 in
set_option maxHeartbeats 4000000 in
theorem rows_any (w : World) : Calls Tryz.prog 112 #[] w fun e w' => ∃ v,e = .returned v ∧ RowsI w' w.heap.size v rowsL ∧ Below w.heap.size w w':=by
 obtain ⟨P,hP⟩ : ∃ P,w.heap.size = P:=⟨_,rfl⟩
 have HPE:=Lib.hid hP
 have HR0 : Hid (RowsI (w.alloc litO) P (.slice (some ⟨P,0,none⟩) 31 31) rows0):=Lib.hid (by rw [← hP]; exact World.ownsRow_lit w (rcI rows0).toArray 31 (Nat.le_refl _) (by unfold maxLen; omega) rfl)
 have HB0 : Hid (Below P w (w.alloc litO)):=Lib.hid ((Below.refl _ _).alloc (by omega) _)
 have hs0 : P ≤ (w.alloc litO).heap.size:=by have:=HB0.out.size; omega
 rw [hP]
 go_enter Tryz.func112,Tryz.ntmps112
 go_upto_region 2 with fail
 (try simp only [hP])
 generalize w.alloc litO = W1 at *
 obtain ⟨r0,hr0⟩ : ∃ z,rows0 = z:=⟨_,rfl⟩
 have HR0E:=Lib.hid hr0
 rw [hr0] at HR0
 have hl0 : r0.length = 31:=by rw [← hr0]; rfl
 clear hr0 hP
 have HT8 : Hid ((W1.alloc twoO).heap[W1.heap.size]? = some twoO):=Lib.hid (heap_alloc_new _ _)
 have HR8:=Lib.hid (HR0.out.below ((Below.refl _ _).alloc (Nat.le_refl _) twoO))
 have HB8 : Hid (Below P w (W1.alloc twoO)):=Lib.hid (HB0.out.alloc hs0 _)
 have hs8 : P ≤ (W1.alloc twoO).heap.size:=by have:=HB8.out.size; have:=HPE.out; omega
 go_upto_region 3 with fail
 obtain ⟨G,hG⟩ : ∃ G,W1.heap.size = G:=⟨_,rfl⟩
 rw [hG] at HT8
 (try simp only [hG])
 generalize W1.alloc twoO = V8 at *
 clear hG
 go_wp2_with fail
 go_loopw [1,3] (fun x i wr => ∃ (v : Value) (k : Nat),v = x ∧ i = .int .i64 k ∧ k ≤ 17 ∧ Hid (RowsI wr P v (r0 ++ numR 60 [101,101] (two0.take k))) ∧ Hid (wr.heap[G]? = some twoO) ∧ Hid (Below P w wr)) (fun _ i _ => 17 - (intOf i).toNat)
 case atStart => exact ⟨_,0,rfl,rfl,by omega,by rw [List.take_zero,numR,List.append_nil]; exact HR8,HT8,HB8⟩
 case round =>
  clear HR8 HT8 HB8
  obtain ⟨v,k,rfl,rfl,hk,HR,HT,HB⟩:=hrel
  obtain ⟨w3,rfl⟩ : ∃ y : World,y = wr:=⟨_,rfl⟩
  by_cases hlt : k < 17
  ·have hlt' : (k : Int) < 17:=by omega
   have hkl : k < two0.length:=hlt
   have HTK:=Lib.hid (numR_take [101,101] two0 60 k hkl)
   obtain ⟨t,ht⟩ : ∃ t,two0[k] = t:=⟨_,rfl⟩
   have hc : w3.cell? ⟨G,k,none⟩ = some (.string ⟨t.toArray⟩):=by
    rw [cell_of_row w3 G k _ _ (0,0) HT.out,← ht]
    exact two_at k hkl
   rw [ht] at HTK
   obtain ⟨l,hl⟩ : ∃ l,r0 ++ numR 60 [101,101] (two0.take k) = l:=⟨_,rfl⟩
   have HLL : Hid (l ++ [(60 + (k : Int),t,[101,101])] = r0 ++ numR 60 [101,101] (two0.take (k + 1))):=Lib.hid (by rw [HTK.out,← hl,List.append_assoc])
   have hpl : r0.length ≤ 100:=by first | omega | (rw [List.length_append,hl0,numR_len]; decide)
   have hll : l.length ≤ 1000 := by rw [← hl, List.length_append, numR_len, List.length_take]; have : two0.length ≤ 100 := by decide
                                    omega
   rw [hl] at HR
   have HNN : Hid ((w3.alloc (rwObj (60 + (k : Int)) t [101,101])).heap[w3.heap.size]? = some (rwObj (60 + (k : Int)) t [101,101])):=Lib.hid (heap_alloc_new _ _)
   have HR4:=Lib.hid (HR.out.below ((Below.refl _ _).alloc (Nat.le_refl _) (rwObj (60 + (k : Int)) t [101,101])))
   have HT4:=Lib.hid (blk_below HT.out ((Below.refl _ _).alloc (Nat.le_refl _) (rwObj (60 + (k : Int)) t [101,101])))
   have hsz3 : P ≤ w3.heap.size:=by have:=HB.out.size; have:=HPE.out; omega
   have HB4 : Hid (Below P w (w3.alloc (rwObj (60 + (k : Int)) t [101,101]))):=Lib.hid (HB.out.alloc hsz3 _)
   have hsz4 : P ≤ (w3.alloc (rwObj (60 + (k : Int)) t [101,101])).heap.size:=by have:=HB4.out.size; have:=HPE.out; omega
   clear hl ht HTK HR HT
   go_wp2_with (at_builtin; refine wpList_append_row rfl _ _ rfl P _ l rfl HR4.out w3.heap.size (60 + (k : Int),t,[101,101]) rfl HNN.out (by omega) hsz4 ?_; intro v2 w2 ho hg; have HO:=Lib.hid ho; have HG:=Lib.hid hg; clear ho hg)
   have HT5:=Lib.hid ((HG.out.block G (lt_of_block HT4.out) (fun e => own_rw HR4.out HT4.out e.symm)).trans HT4.out)
   have HB5 : Hid (Below P w w2):=Lib.hid (HB4.out.grown HG.out hsz4 (fun j hj => own_row HR4.out hj))
   rw [HLL.out] at HO
   clear hc HNN HR4 HT4 HB4 HG
   go_wp2_with fail
   go_roundw
   case rel => first | exact ⟨k + 1,by go_num,by omega,HO,HT5,HB5⟩ | exact ⟨_,k + 1,rfl,by go_num,by omega,HO,HT5,HB5⟩
   case measure => simp [intOf]; omega
  ·have hkN : k = 17:=by omega
   have hlt' : ¬ (k : Int) < 17:=by omega
   have HRX : Hid (RowsI w3 P v (r0 ++ numR 60 [101,101] two0)):=by rw [hkN,show two0.take 17 = two0 from rfl] at HR; exact HR
   have hs3 : P ≤ w3.heap.size:=by have:=HB.out.size; have:=HPE.out; omega
   clear HR HT hlt hk hkN
   have HT9 : Hid ((w3.alloc oneO).heap[w3.heap.size]? = some oneO):=Lib.hid (heap_alloc_new _ _)
   have HR9:=Lib.hid (HRX.out.below ((Below.refl _ _).alloc (Nat.le_refl _) oneO))
   have HB9 : Hid (Below P w (w3.alloc oneO)):=Lib.hid (HB.out.alloc hs3 _)
   have hs9 : P ≤ (w3.alloc oneO).heap.size:=by have:=HB9.out.size; have:=HPE.out; omega
   go_upto_region 8 with fail
   obtain ⟨H,hG⟩ : ∃ H,w3.heap.size = H:=⟨_,rfl⟩
   rw [hG] at HT9
   (try simp only [hG])
   generalize w3.alloc oneO = V9 at *
   clear hG
   go_wp2_with fail
   go_loopw [1,5] (fun x i wr => ∃ (v : Value) (k : Nat),v = x ∧ i = .int .i64 k ∧ k ≤ 8 ∧ Hid (RowsI wr P v ((r0 ++ numR 60 [101,101] two0) ++ numR 77 [101] (one0.take k))) ∧ Hid (wr.heap[H]? = some oneO) ∧ Hid (Below P w wr)) (fun _ i _ => 8 - (intOf i).toNat)
   case atStart => exact ⟨_,0,rfl,rfl,by omega,by rw [List.take_zero,numR,List.append_nil]; exact HR9,HT9,HB9⟩
   case round =>
    clear HR9 HT9 HB9
    obtain ⟨v,k,rfl,rfl,hk,HR,HT,HB⟩:=hrel
    obtain ⟨w4,rfl⟩ : ∃ y : World,y = wr:=⟨_,rfl⟩
    by_cases hlt : k < 8
    ·have hlt' : (k : Int) < 8:=by omega
     have hkl : k < one0.length:=hlt
     have HTK:=Lib.hid (numR_take [101] one0 77 k hkl)
     obtain ⟨t,ht⟩ : ∃ t,one0[k] = t:=⟨_,rfl⟩
     have hc : w4.cell? ⟨H,k,none⟩ = some (.string ⟨t.toArray⟩):=by
      rw [cell_of_row w4 H k _ _ (0,0) HT.out,← ht]
      exact one_at k hkl
     rw [ht] at HTK
     obtain ⟨l,hl⟩ : ∃ l,(r0 ++ numR 60 [101,101] two0) ++ numR 77 [101] (one0.take k) = l:=⟨_,rfl⟩
     have HLL : Hid (l ++ [(77 + (k : Int),t,[101])] = (r0 ++ numR 60 [101,101] two0) ++ numR 77 [101] (one0.take (k + 1))):=Lib.hid (by rw [HTK.out,← hl,List.append_assoc])
     have hpl : (r0 ++ numR 60 [101,101] two0).length ≤ 100:=by first | omega | (rw [List.length_append,hl0,numR_len]; decide)
     have hll : l.length ≤ 1000 := by rw [← hl, List.length_append, numR_len, List.length_take]; have : one0.length ≤ 100 := by decide
                                      omega
     rw [hl] at HR
     have HNN : Hid ((w4.alloc (rwObj (77 + (k : Int)) t [101])).heap[w4.heap.size]? = some (rwObj (77 + (k : Int)) t [101])):=Lib.hid (heap_alloc_new _ _)
     have HR4:=Lib.hid (HR.out.below ((Below.refl _ _).alloc (Nat.le_refl _) (rwObj (77 + (k : Int)) t [101])))
     have HT4:=Lib.hid (blk_below HT.out ((Below.refl _ _).alloc (Nat.le_refl _) (rwObj (77 + (k : Int)) t [101])))
     have hsz3 : P ≤ w4.heap.size:=by have:=HB.out.size; have:=HPE.out; omega
     have HB4 : Hid (Below P w (w4.alloc (rwObj (77 + (k : Int)) t [101]))):=Lib.hid (HB.out.alloc hsz3 _)
     have hsz4 : P ≤ (w4.alloc (rwObj (77 + (k : Int)) t [101])).heap.size:=by have:=HB4.out.size; have:=HPE.out; omega
     clear hl ht HTK HR HT
     go_wp2_with (at_builtin; refine wpList_append_row rfl _ _ rfl P _ l rfl HR4.out w4.heap.size (77 + (k : Int),t,[101]) rfl HNN.out (by omega) hsz4 ?_; intro v2 w2 ho hg; have HO:=Lib.hid ho; have HG:=Lib.hid hg; clear ho hg)
     have HT5:=Lib.hid ((HG.out.block H (lt_of_block HT4.out) (fun e => own_rw HR4.out HT4.out e.symm)).trans HT4.out)
     have HB5 : Hid (Below P w w2):=Lib.hid (HB4.out.grown HG.out hsz4 (fun j hj => own_row HR4.out hj))
     rw [HLL.out] at HO
     clear hc HNN HR4 HT4 HB4 HG
     go_wp2_with fail
     go_roundw
     case rel => first | exact ⟨k + 1,by go_num,by omega,HO,HT5,HB5⟩ | exact ⟨_,k + 1,rfl,by go_num,by omega,HO,HT5,HB5⟩
     case measure => simp [intOf]; omega
    ·have hkN : k = 8:=by omega
     have hlt' : ¬ (k : Int) < 8:=by omega
     have HRX : Hid (RowsI w4 P v ((r0 ++ numR 60 [101,101] two0) ++ numR 77 [101] one0)):=by rw [hkN,show one0.take 8 = one0 from rfl] at HR; exact HR
     have hs3 : P ≤ w4.heap.size:=by have:=HB.out.size; have:=HPE.out; omega
     clear HR HT hlt hk hkN
     go_wp2_with fail
     go_ret
     exact ⟨_,rfl,by rw [show rowsL = r0 ++ numR 60 [101,101] two0 ++ numR 77 [101] one0 from by rw [← HR0E.out,← twoR_is,← oneR_is]; rfl]; exact HRX.out,HB.out⟩
abbrev rwV (t : Rw) : Value:=.agg #[.int .i64 t.1,.string ⟨t.2.1.toArray⟩,.string ⟨t.2.2.toArray⟩]
theorem rowsL_len : rowsL.length = 56:=by decide
theorem rowsI_cells {w : World} {B : Nat} {v : Value} (h : RowsI w B v rowsL) : ∃ g c,v = .slice (some ⟨g,0,none⟩) 56 c ∧ 
  ∀ i (h : i < rowsL.length),w.cell? ⟨g,i * 3,none⟩ = some (.int .i64 rowsL[i].1) ∧ w.cell? ⟨g,i * 3 + 1,none⟩ = some (.string ⟨rowsL[i].2.1.toArray⟩) ∧ w.cell? ⟨g,i * 3 + 2,none⟩ = some (.string ⟨rowsL[i].2.2.toArray⟩):=by
 obtain ⟨g,c,h1,_,_,h4⟩:=h.cells (by decide)
 rw [rowsL_len] at h1
 exact ⟨g,c,h1,h4⟩
theorem find_step (p : Rw → Bool) (k : Nat) (h : k < rowsL.length) : (rowsL.drop k).find? p = if p rowsL[k] = true then some rowsL[k] else (rowsL.drop (k + 1)).find? p:=by
 rw [List.drop_eq_getElem_cons h,List.find?_cons]
 cases p rowsL[k] <;> rfl
theorem ret_rowOf (tmps : Array Value) (w : World) (b : Nat) (c0 c1 c2 : Value) (h2 : tmps.getD 2 undef = .pointer (some ⟨b,0,none⟩)) (hb : w.heap[b]? = some (.cells #[c0,c1,c2] 102 (0,0))) :
  (results Tryz.f63 tmps).run Tryz.prog w = .ok (.tuple #[.agg #[c0,c1,c2],tmps.getD 3 undef]) w:=by
 obtain ⟨e0,e1,e2⟩:=cells3 hb
 have h2' : tmps[2]?.getD undef = .pointer (some ⟨b,0,none⟩):=by rw [← h2]; simp
 simp [results]
 go_simp
set_option maxRecDepth 100000 in
set_option maxHeartbeats 4000000 in
theorem rowOf_any (op : Int) (w : World) : Calls Tryz.prog 63 #[.int .i64 op] w fun e w' => e = .returned (.tuple #[rwV (rowR (rowF op)),.bool (rowF op).isSome]) ∧ Below w.heap.size w w':=by
 obtain ⟨X,hX⟩ : ∃ X,Hid (rowF op = X):=⟨_,Lib.hid rfl⟩
 have HX0 : Hid ((rowsL.drop 0).find? (fun t => t.1 == op) = X):=Lib.hid (by rw [← hX.out] <;> rfl)
 rw [hX.out]
 have HB0 : Hid (Below w.heap.size w (w.alloc (rwObj 0 [] []))):=Lib.hid ((Below.refl _ _).alloc (Nat.le_refl _) _)
 have HE0 : Hid ((w.alloc (rwObj 0 [] [])).heap[w.heap.size]? = some (rwObj 0 [] [])):=Lib.hid (heap_alloc_new _ _)
 obtain ⟨P,hP⟩ : ∃ P,w.heap.size = P:=⟨_,rfl⟩
 have HPE:=Lib.hid hP
 go_enter Tryz.func63,Tryz.ntmps63
 go_upto_region 1 with fail
 (try simp only [hP])
 rw [hP] at HB0 HE0
 generalize w.alloc (rwObj 0 [] []) = W0 at *
 have HRW:=Lib.hid (rows_any W0)
 clear hP
 go_wp2_with fail
 ((with_reducible refine HRW.out.mono ?_))
 rintro e w1 ⟨v,rfl,hr,hb1⟩
 have HB1 : Hid (Below P w w1):=Lib.hid (bel_then HB0.out (by have:=HPE.out; omega) hb1)
 have HE1:=Lib.hid (blk_below HE0.out hb1)
 obtain ⟨g,c,rfl,hcell⟩:=rowsI_cells hr
 have HC:=Lib.hid hcell
 clear hr hb1 hcell HB0 HE0 HRW
 go_wp2_with fail
 go_loopw [5] (fun i wr => ∃ k : Nat,i = .int .i64 k ∧ k ≤ 56 ∧ Hid ((rowsL.drop k).find? (fun t => t.1 == op) = X) ∧ w1 = wr) (fun i _ => 56 - (intOf i).toNat)
 case atStart => exact ⟨0,rfl,by omega,HX0,rfl⟩
 case round =>
  clear HX0
  obtain ⟨k,rfl,hk,HX,rfl⟩:=hrel
  obtain ⟨w3,rfl⟩ : ∃ y : World,y = w1:=⟨_,rfl⟩
  have f0:=free3 HE1.out 0
  have f1:=free3 HE1.out 1
  have f2:=free3 HE1.out 2
  obtain ⟨e0,e1,e2⟩:=cells3 HE1.out
  by_cases hlt : k < 56
  ·have hlt' : (k : Int) < 56:=by omega
   have hkl : k < rowsL.length:=by rw [rowsL_len]; exact hlt
   obtain ⟨c0,c1,c2⟩:=HC.out k hkl
   have HXS:=Lib.hid (find_step (fun t => t.1 == op) k hkl)
   obtain ⟨t,ht⟩ : ∃ t,rowsL[k] = t:=⟨_,rfl⟩
   rw [ht] at HXS c0 c1 c2
   rw [HX.out] at HXS
   obtain ⟨ta,tb,tc⟩:=t
   simp only at c0 c1 c2
   have HE9:=Lib.hid (HE1.out)
   clear ht HX
   cases htest : (ta == op) with
   | true =>
     have HX2 : Hid (X = some (ta,tb,tc)):=Lib.hid (by rw [HXS.out,if_pos htest])
     go_wp2_with fail
     exact bodyPost_ret (ret_rowOf _ _ _ _ _ _ rfl (put3 HE1.out _ _ _)) rfl ⟨by rw [HX2.out]; rfl,by rw [HPE.out]; exact bel3 HB1.out (Nat.le_refl _) _ _ _⟩
   | false =>
     have HX2 : Hid ((rowsL.drop (k + 1)).find? (fun t => t.1 == op) = X):=Lib.hid (by rw [HXS.out,if_neg (by rw [htest]; decide)])
     clear HXS e0 e1 e2 f0 f1 f2
     go_wp2_with fail
     go_roundw
     case rel => exact ⟨k + 1,by go_num,by omega,HX2,by trivial⟩
     case measure => simp [intOf]; omega
  ·obtain rfl : k = 56:=by omega
   have HX2 : Hid (X = none):=Lib.hid (by rw [← HX.out] <;> rfl)
   clear HX
   go_wp2_with fail
   exact bodyPost_ret (ret_rowOf _ _ _ _ _ _ rfl (put3 HE1.out _ _ _)) rfl ⟨by rw [HX2.out]; rfl,by rw [HPE.out]; exact bel3 HB1.out (Nat.le_refl _) _ _ _⟩
end
section
open Go.RowKit
attribute [local go_sem] ByteArray.mk_append_mk bs_get bs_cut bs_end
def kindsV (op kids : Int) : List UInt8 × Bool :=
 if op = 1 ∨ op = 2 ∨ op = 3 ∨ op = 6 ∨ op = 7 then ([],kids == 0)
 else if op = 5 then (if kids < 0 ∨ 7 < kids then ([],false) else (List.replicate kids.toNat 101,true))
 else if op = 31 ∧ kids = 3 then ([101,83,83],true)
 else if op = 33 ∧ kids = 1 then ([101],true)
 else ((rowR (rowF op)).2.2,(rowF op).isSome && (((rowR (rowF op)).2.2.length : Int) == kids))
def inR (op : Int) : Bool:=op == 1 || op == 2 || op == 3 || op == 5 || op == 6 || op == 7 || inTab op
theorem accB_inR {k : UInt8} {op : Int} (h : accB k op = true) : inR op = true:=by
 unfold accB exprB elemB dataB at h
 unfold inR inTab
 repeat' split at h
 all_goals
  simp only [Bool.or_eq_true,Bool.and_eq_true,Bool.not_eq_true',Bool.or_eq_false_iff,decide_eq_true_eq,beq_iff_eq,beq_eq_false_iff_ne,Bool.false_eq_true] at h ⊢
  try omega
theorem kidsK_kinds (n : Nd) (h : inR n.kind = true) : kidsK n = if (kindsV n.kind n.pos).2 = true then some (kindsV n.kind n.pos).1 else none:=by
 unfold kidsK kindsV
 by_cases h5 : n.kind = 5
 ·rw [h5]
  simp only [show ((5 : Int) = 1 ∨ (5 : Int) = 2 ∨ (5 : Int) = 3 ∨ (5 : Int) = 6 ∨ (5 : Int) = 7) = False by decide,if_true,if_false]
  by_cases hk : 0 ≤ n.pos ∧ n.pos ≤ 7
  ·rw [if_pos hk,if_neg (show ¬ (n.pos < 0 ∨ 7 < n.pos) by omega)]; rfl
  ·rw [if_neg hk,if_pos (show n.pos < 0 ∨ 7 < n.pos by omega)]; rfl
 rw [if_neg h5]
 by_cases hL : n.kind = 1 ∨ n.kind = 2 ∨ n.kind = 3 ∨ n.kind = 6 ∨ n.kind = 7
 ·rw [if_pos hL,if_neg (by omega),if_neg (by omega)]
  have e : formP n.kind = ([],[]):=by rcases hL with h | h | h | h | h <;> rw [h] <;> rfl
  rw [e]
  simp only [List.length_nil,beq_iff_eq]
  by_cases hp : n.pos = 0
  ·rw [if_pos hp,if_pos (by rw [hp] <;> rfl)]
  ·rw [if_neg hp,if_neg (by intro e; exact hp e.symm)]
 rw [if_neg hL,if_neg h5]
 have ht : inTab n.kind = true:=by
  unfold inR at h
  simp only [Bool.or_eq_true,beq_iff_eq] at h
  rcases h with h | h
  ·omega
  ·exact h
 rw [rowF_tab ht]
 simp only [rowR,Option.isSome_some,Bool.true_and]
 by_cases h33 : n.kind = 33
 ·rw [h33]
  have e : formP 33 = ([82,101,116,117,114,110],[]):=by decide +kernel
  simp only [e,show ((33 : Int) = 31) = False by decide,false_and,if_false,if_true,true_and,List.length_nil]
  by_cases h1 : n.pos = 1
  ·rw [if_pos (by omega),if_pos h1,h1]; rfl
  ·rw [if_neg h1]
   by_cases h0 : n.pos = 0
   ·rw [if_pos (by omega),h0]; rfl
   ·rw [if_neg (by omega),if_neg (by simp only [beq_iff_eq]; omega)]
 rw [if_neg h33]
 simp only [show (n.kind = 33) = False from eq_false h33,false_and,if_false]
 by_cases h31 : n.kind = 31 ∧ n.pos = 3
 ·rw [if_pos h31,if_pos h31]; rfl
 ·rw [if_neg h31,if_neg h31]
  by_cases hl : ((formP n.kind).2.length : Int) = n.pos
  ·rw [if_pos hl,if_pos (by simp only [beq_iff_eq]; exact hl)]
  ·rw [if_neg hl,if_neg (by simp only [beq_iff_eq]; exact hl)]
theorem rows_short : ∀ t ∈ rowsL,t.2.2.length ≤ 5:=by decide +kernel
set_option maxRecDepth 100000 in
set_option maxHeartbeats 4000000 in
theorem kinds_any (op kids : Int) (w : World) : Calls Tryz.prog 59 #[.int .i64 op,.int .i64 kids] w fun e w' => e = .returned (.tuple #[.string ⟨(kindsV op kids).1.toArray⟩,.bool (kindsV op kids).2]) ∧ Below w.heap.size w w':=by
 obtain ⟨X,hX⟩ : ∃ X,Hid (kindsV op kids = X):=⟨_,Lib.hid rfl⟩
 rw [hX.out]
 have hx:=hX.out
 unfold kindsV at hx
 have HB0:=Lib.hid (Below.refl w.heap.size w)
 by_cases hL : op = 1 ∨ op = 2 ∨ op = 3 ∨ op = 6 ∨ op = 7
 ·rw [if_pos hL] at hx
  have HX:=Lib.hid hx
  clear hx
  rcases hL with rfl | rfl | rfl | rfl | rfl
  all_goals
   go_enter Tryz.func59,Tryz.ntmps59
   go_wp2_with fail
   go_ret2
   rw [← HX.out]
   exact ⟨rfl,HB0.out⟩
 rw [if_neg hL] at hx
 by_cases h5 : op = 5
 ·rw [if_pos h5] at hx
  subst h5
  by_cases hk : kids < 0 ∨ 7 < kids
  ·rw [if_pos hk] at hx
   have HX:=Lib.hid hx
   clear hx hL
   rcases hk with hk | hk
   all_goals
    go_enter Tryz.func59,Tryz.ntmps59
    go_wp2_with fail
    go_ret2
    rw [← HX.out]
    exact ⟨rfl,HB0.out⟩
  ·rw [if_neg hk] at hx
   obtain ⟨n,rfl⟩ : ∃ n : Nat,kids = n:=⟨kids.toNat,by omega⟩
   have hn : n ≤ 7:=by omega
   have hn' : ¬ (n : Int) < 0:=by omega
   have hn2 : ¬ (7 : Int) < (n : Int):=by omega
   have HE : Hid (List.take n [101,101,101,101,101,101,101] = List.replicate n (101 : UInt8)):=Lib.hid (by
    match n,hn with
    | 0,_ => rfl
    | 1,_ => rfl
    | 2,_ => rfl
    | 3,_ => rfl
    | 4,_ => rfl
    | 5,_ => rfl
    | 6,_ => rfl
    | 7,_ => rfl)
   have HX:=Lib.hid hx
   clear hx hL hk
   go_enter Tryz.func59,Tryz.ntmps59
   go_wp2_with fail
   go_ret2
   rw [← HX.out]
   refine ⟨?_,HB0.out⟩
   rw [HE.out]
   rfl
 rw [if_neg h5] at hx
 have e1 : (op == 1) = false:=by rw [beq_eq_false_iff_ne]; omega
 have e2 : (op == 2) = false:=by rw [beq_eq_false_iff_ne]; omega
 have e3 : (op == 3) = false:=by rw [beq_eq_false_iff_ne]; omega
 have e6 : (op == 6) = false:=by rw [beq_eq_false_iff_ne]; omega
 have e7 : (op == 7) = false:=by rw [beq_eq_false_iff_ne]; omega
 have e5 : (op == 5) = false:=by rw [beq_eq_false_iff_ne]; omega
 by_cases h31 : op = 31 ∧ kids = 3
 ·rw [if_pos h31] at hx
  obtain ⟨rfl,rfl⟩:=h31
  have HX:=Lib.hid hx
  clear hx hL h5
  go_enter Tryz.func59,Tryz.ntmps59
  go_wp2_with fail
  go_ret2
  rw [← HX.out]
  exact ⟨rfl,HB0.out⟩
 rw [if_neg h31] at hx
 by_cases h33 : op = 33 ∧ kids = 1
 ·rw [if_pos h33] at hx
  obtain ⟨rfl,rfl⟩:=h33
  have HX:=Lib.hid hx
  clear hx hL h5 h31
  go_enter Tryz.func59,Tryz.ntmps59
  go_wp2_with fail
  go_ret2
  rw [← HX.out]
  exact ⟨rfl,HB0.out⟩
 rw [if_neg h33] at hx
 have HRO:=Lib.hid (rowOf_any op w)
 obtain ⟨R,hR⟩ : ∃ R,rowF op = R:=⟨_,rfl⟩
 rw [hR] at HRO hx
 obtain ⟨s,hs⟩ : ∃ s,(rowR R).2.2 = s:=⟨_,rfl⟩
 have hsl : s.length ≤ 1000:=by
  rw [← hs,← hR]
  unfold rowF
  cases hf : rowsL.find? (fun t => t.1 == op) with
  | none => simp [rowR]
  | some t => exact Nat.le_trans (rows_short t (List.mem_of_find?_eq_some hf)) (by omega)
 obtain ⟨a,b,hab⟩ : ∃ a b,rowR R = (a,b,s):=⟨(rowR R).1,(rowR R).2.1,by rw [← hs]⟩
 obtain ⟨ok,hok⟩ : ∃ ok,R.isSome = ok:=⟨_,rfl⟩
 rw [hs,hok] at hx
 rw [hab,hok] at HRO
 have HX:=Lib.hid hx
 clear hx hR hs hab hok
 have hcase : (op = 31 ∧ kids ≠ 3) ∨ (op = 33 ∧ kids ≠ 1) ∨ (op ≠ 31 ∧ op ≠ 33):=by omega
 clear hL h5 h31 h33
 have hfin : ((op == 31) = true ∧ (kids == 3) = false) ∨ ((op == 33) = true ∧ (op == 31) = false ∧ (kids == 1) = false) ∨ ((op == 31) = false ∧ (op == 33) = false):=by
  rcases hcase with ⟨h1,h2⟩ | ⟨h1,h2⟩ | ⟨h1,h2⟩
  ·exact .inl ⟨by rw [h1]; rfl,beq_eq_false_iff_ne.2 h2⟩
  ·exact .inr (.inl ⟨by rw [h1]; rfl,by rw [h1]; rfl,beq_eq_false_iff_ne.2 h2⟩)
  ·exact .inr (.inr ⟨beq_eq_false_iff_ne.2 h1,beq_eq_false_iff_ne.2 h2⟩)
 clear hcase
 rcases hfin with ⟨t1,t2⟩ | ⟨t1,t2,t3⟩ | ⟨t1,t2⟩
 all_goals
  go_enter Tryz.func59,Tryz.ntmps59
  go_wp2_with fail
  ((with_reducible refine HRO.out.mono ?_))
  rintro e w1 ⟨rfl,hb1⟩
  have HB1 : Hid (Below w.heap.size w (w1.alloc (rwObj a b s))):=Lib.hid (hb1.alloc hb1.size _)
  have hcell:=heap_alloc_new w1 (rwObj a b s)
  clear hb1 HRO
  go_upto_region 19 with fail
  obtain ⟨d0,d1,d2⟩:=cells3 hcell
  generalize w1.alloc (rwObj a b s) = W at *
  clear hcell
  cases ok
  all_goals
   go_quiet (fail)
   go_wp2_with fail
   go_ret2
   rw [← HX.out]
   exact ⟨rfl,below_drewN HB1.out _⟩
theorem kinds_is (op kids : Int) (ks : List UInt8) (ok : Bool) (H : Hid (kindsV op kids = (ks,ok))) (w : World) : Calls Tryz.prog 59 #[.int .i64 op,.int .i64 kids] w fun e w' => e = .returned (.tuple #[.string ⟨ks.toArray⟩,.bool ok]) ∧ Below w.heap.size w w':=by
 have:=kinds_any op kids w
 rw [H.out] at this
 exact this
end
end Go.Proofs.YtoohondkpddmcaaGreatDoor
