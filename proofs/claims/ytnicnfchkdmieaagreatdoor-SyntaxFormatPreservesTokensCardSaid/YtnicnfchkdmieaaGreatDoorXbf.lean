/- Ja Jb Jc Ra -/
import Derived.Test.YtnicnfchkdmieaaGreatDoorXaa
import Derived.Test.YtnicnfchkdmieaaGreatDoorXaz
import Derived.Shelf.Strings.Builder1
import Derived.Lib.OthersKept
import Derived.Lib.AppendStr
import Derived.Test.YtnicnfchkdmieaaGreatDoorXbe
import Derived.Test.YtnicnfchkdmieaaGreatDoorXax
import Derived.Test.YtnicnfchkdmieaaGreatDoorXas
set_option linter.unusedVariables false
set_option linter.unusedSimpArgs false
namespace Go.Proofs.YtnicnfchkdmieaaGreatDoor
section
open Go.RowKit
def WrQ (w : World) (B b : Nat) (p : Value) (l : List UInt8) (q : Value) : Prop :=
 B ≤ b ∧ ∃ v,w.heap[b]? = some (.cells #[p,q,v] 77 (0,0)) ∧ w.ownsRow B 5 1 v l.length (Lib.byteCells l) ∧ v.ownBlock ≠ some b
def Wr (w : World) (B b : Nat) (p : Value) (l : List UInt8) : Prop:=(WrQ w B b p l (.pointer none) ∨ WrQ w B b p l (.pointer (some ⟨b,1,none⟩))) ∧ B ≤ w.heap.size
def KeptW (b : Nat) (w w' : World) : Prop:=Lib.OthersKept 5 (some b) w w'
theorem KeptW.blk {b : Nat} {w w' : World} (h : KeptW b w w') {k : Nat} {cs : Array Value} {t : Nat} (hk : w.heap[k]? = some (.cells cs t (0,0))) (hb : k ≠ b) (ht : t ≠ 5) : w'.heap[k]? = some (.cells cs t (0,0)) :=
 h k _ hk (fun e => hb (by injection e)) (fun c fz e => by injection e with _ e _; exact ht e)
theorem KeptW.trans {b : Nat} {w w' w'' : World} (h : KeptW b w w') (h' : KeptW b w' w'') : KeptW b w w'':=Lib.OthersKept.trans h h'
theorem KeptW.refl (b : Nat) (w : World) : KeptW b w w:=Lib.OthersKept.refl _ _ _
theorem KeptW.of {b : Nat} {w w' : World} (h : Below w.heap.size w w') : KeptW b w w':=fun k o hk _ _ => (h.block k (lt_of_block hk)).trans hk
theorem WrQ.below {w w' : World} {B b : Nat} {p q : Value} {l : List UInt8} (h : WrQ w B b p l q) (hb : Below w.heap.size w w') : WrQ w' B b p l q:=by
 obtain ⟨h1,v,h2,h3,h4⟩:=h
 exact ⟨h1,v,blk_below h2 hb,own_below h3 hb,h4⟩
theorem Wr.below {w w' : World} {B b : Nat} {p : Value} {l : List UInt8} (h : Wr w B b p l) (hb : Below w.heap.size w w') : Wr w' B b p l:=by
 obtain ⟨h1,h2⟩:=h
 exact ⟨h1.elim (fun h => .inl (h.below hb)) (fun h => .inr (h.below hb)),Nat.le_trans h2 hb.size⟩
theorem Wr.alloc {w : World} {B b : Nat} {p : Value} {l : List UInt8} (h : Wr w B b p l) (o : Obj) : Wr (w.alloc o) B b p l:=h.below ((Below.refl _ _).alloc (Nat.le_refl _) o)
theorem WrQ.lt {w : World} {B b : Nat} {p q : Value} {l : List UInt8} (h : WrQ w B b p l q) : b < w.heap.size:=by
 obtain ⟨_,v,h2,_⟩:=h
 exact lt_of_block h2
theorem Wr.lt {w : World} {B b : Nat} {p : Value} {l : List UInt8} (h : Wr w B b p l) : b < w.heap.size:=h.1.elim (fun h => h.lt) (fun h => h.lt)
theorem Wr.base {w : World} {B b : Nat} {p : Value} {l : List UInt8} (h : Wr w B b p l) : B ≤ b:=h.1.elim (fun h => h.1) (fun h => h.1)
theorem Wr.prog {w : World} {B b : Nat} {p : Value} {l : List UInt8} (h : Wr w B b p l) : w.cell? ⟨b,0,none⟩ = some p:=by
 rcases h.1 with ⟨_,v,h2,_⟩ | ⟨_,v,h2,_⟩ <;> (rw [Lib.cell_of_heap h2] <;> rfl)
theorem own_kind {w : World} {B : Nat} {e : TypeId} {v : Value} {n : Nat} {xs : List Value} (h : w.ownsRow B e 1 v n xs) : ∀ g,v.ownBlock = some g → ∃ c fz,w.heap[g]? = some (.cells c e fz):=by
 intro g hg
 rcases h.2 with ⟨rfl,_⟩ | ⟨g',cap,cur,rfl,_,hgg,_⟩
 ·simp [Value.ownBlock] at hg
 ·simp [Value.ownBlock] at hg
  subst hg
  exact ⟨_,_,hgg⟩
theorem WrQ.put {w : World} {B b : Nat} {p q : Value} {v v' : Value} {l : List UInt8} (hB : B ≤ b) (hb : w.heap[b]? = some (.cells #[p,q,v] 77 (0,0))) (hown : w.ownsRow B 5 1 v' l.length (Lib.byteCells l)) :
  WrQ (w.setCell ⟨b,2,none⟩ v') B b p l q:=by
 have hlt : b < w.heap.size:=lt_of_block hb
 have hne : v'.ownBlock ≠ some b:=by
  intro e
  obtain ⟨c,fz,h⟩:=own_kind hown b e
  rw [hb] at h
  injection h with h
  injection h with _ h _
  exact absurd h (by decide)
 refine ⟨hB,v',?_,?_,hne⟩
 ·simp [World.setCell,Array.getElem?_modify,hb]
 ·exact hown.kept (row:=some b) ⟨rfl,rfl,rfl,by simp [World.setCell],fun k _ hk => Below.heap_setCell _ _ _ _ (fun e => hk (by simp [e]))⟩ (Or.inr hne)
theorem WrQ.used {w : World} {B b : Nat} {p q : Value} {l : List UInt8} (h : WrQ w B b p l q) (q' : Value) : WrQ (w.setCell ⟨b,1,none⟩ q') B b p l q':=by
 obtain ⟨hB,v,hb,hown,hne⟩:=h
 refine ⟨hB,v,?_,?_,hne⟩
 ·simp [World.setCell,Array.getElem?_modify,hb]
 ·exact hown.kept (row:=some b) ⟨rfl,rfl,rfl,by simp [World.setCell],fun k _ hk => Below.heap_setCell _ _ _ _ (fun e => hk (by simp [e]))⟩ (Or.inr hne)
theorem infoB : (Tryz.prog.info? 75).map (fun i => i.size) = some 2:=by kernel_rfl
theorem infoU : (Tryz.prog.info? 5).map (fun i => (i.zero,i.size,i.bytes)) = some (some (.int .u8 0),1,1):=by kernel_rfl
theorem liesB : liesAt Tryz.prog Tryz.prog.depth 77 (3 / Tryz.prog.cellsOf 77) 1 75 1 = true:=by kernel_rfl
theorem ptrB : Tryz.prog.underlying 73 = some (.pointer 75):=by kernel_rfl
theorem unsB : Tryz.prog.underlying 153 = some .unsafePointer:=by kernel_rfl
set_option maxRecDepth 100000 in
set_option maxHeartbeats 2000000 in
theorem wcheck_any (B b : Nat) (p : Value) (l : List UInt8) (w : World) (h : Wr w B b p l) :
  Calls Tryz.prog 83 #[.pointer (some ⟨b,1,none⟩)] w fun e w' => e = .returned (.tuple #[]) ∧ WrQ w' B b p l (.pointer (some ⟨b,1,none⟩)) ∧ Below B w w' ∧ KeptW b w w':=by
 obtain ⟨j,hj,hjs⟩:=Option.map_eq_some_iff.1 infoB
 rcases h.1 with h | h
 ·obtain ⟨hB,v,hb,hown,hne⟩:=h
  have c1 : w.cell? ⟨b,1,none⟩ = some (.pointer none):=by rw [Lib.cell_of_heap hb]; rfl
  have hsh : w.shape? b = some (77,3):=by simp [World.shape?,hb]
  have f1 : w.frozen? ⟨b,1,none⟩ = false:=Lib.frozen_of_heap hb 1
  have HQ:=Lib.hid (WrQ.used ⟨hB,v,hb,hown,hne⟩ (.pointer (some ⟨b,1,none⟩)))
  have HU1:=Lib.hid (Lib.run_to_unsafe (P:=Tryz.prog) w ⟨b,1,none⟩ ptrB unsB hj (by rw [hjs]; decide) hsh (by show 1 < 3; omega))
  have HU2:=Lib.hid (Lib.run_from_unsafe (P:=Tryz.prog) w ⟨b,1,none⟩ unsB ptrB hj hsh liesB)
  have HB:=Lib.hid hB
  clear hb hown hne hsh hj hjs hB
  go_enter Tryz.func83,Tryz.ntmps83
  go_wp2_with fail
  rw [HU1.out]
  simp only [Result.andThen]
  rw [Oper.upon_value]
  go_wp2_with fail
  rw [run_callFunc_extern Tryz.func128 (by kernel_rfl) (by kernel_rfl) (by kernel_rfl) (e:=Extern.AbiNoEscape.same) (by kernel_rfl)]
  rw [Lib.run_noEscape]
  simp only [Result.andThen]
  rw [Oper.upon_value]
  go_wp2_with fail
  rw [HU2.out]
  simp only [Result.andThen]
  rw [Oper.upon_value]
  go_wp2_with fail
  go_end0
  exact ⟨rfl,HQ.out,(Below.refl B w).setCell (p:=⟨b,1,none⟩) HB.out _,(Lib.OthersKept.refl _ _ _).setCell ⟨b,1,none⟩ rfl _⟩
 ·obtain ⟨hB,v,hb,hown,hne⟩:=h
  have c1 : w.cell? ⟨b,1,none⟩ = some (.pointer (some ⟨b,1,none⟩)):=by rw [Lib.cell_of_heap hb]; rfl
  have HQ:=Lib.hid (show WrQ w B b p l (.pointer (some ⟨b,1,none⟩)) from ⟨hB,v,hb,hown,hne⟩)
  have HJ:=Lib.hid hj
  clear hb hown hne hj hjs hB
  go_enter Tryz.func83,Tryz.ntmps83
  go_wp2_with fail
  rw [Lib.run_neq_ptr_same w _ ptrB HJ.out]
  go_wp2_with fail
  go_end0
  exact ⟨rfl,HQ.out,Below.refl _ _,KeptW.refl _ _⟩
theorem put_ready {w1 w2 : World} {B b n : Nat} {p q v v' : Value} {xs : List Value} (hbk : w1.heap[b]? = some (.cells #[p,q,v] 77 (0,0))) (hg : w1.grownBy w2 v.ownBlock) (hne : v.ownBlock ≠ some b) (ho : w2.ownsRow B 5 1 v' n xs) :
  w2.heap[b]? = some (.cells #[p,q,v] 77 (0,0)) ∧ ∃ ao n' cap,v' = .slice ao n' cap:=by
 refine ⟨by rw [hg.block b (lt_of_block hbk) (fun e => hne e.symm)]; exact hbk,?_⟩
 rcases ho.2 with ⟨hv,_⟩ | ⟨g,cap,cur,hv,_⟩
 ·exact ⟨_,_,_,hv⟩
 ·exact ⟨_,_,_,hv⟩
theorem one_cell {w : World} {g : Nat} {x : Value} {t : Nat} (h : w.heap[g]? = some (.cells #[x] t (0,0))) : ∀ (j : Nat) (u : Value),([x] : List Value)[j]? = some u → w.cell? ((⟨g,0,none⟩ : Addr).add j) = some u:=by
 intro j u hj
 match j,hj with
 | 0,hj => cases hj; exact (by rw [show (⟨g,0,none⟩ : Addr).add 0 = ⟨g,0,none⟩ by simp [Addr.add],Lib.cell_of_heap h] <;> rfl)
def WrPo (w : World) (B b : Nat) (p : Value) (l : List UInt8) (w' : World) : Prop:=Wr w' B b p l ∧ Below B w w' ∧ KeptW b w w'
set_option maxRecDepth 100000 in
set_option maxHeartbeats 2000000 in
theorem jstr_any (B b : Nat) (p : Value) (l s : List UInt8) (w : World) (h : Wr w B b p l) (hlen : l.length + s.length ≤ 140737488355328) :
  Calls Tryz.prog 78 #[.pointer (some ⟨b,1,none⟩),.string ⟨s.toArray⟩] w fun e w' => e = .returned (.tuple #[.int .i64 s.length,.nilIface]) ∧ WrPo w B b p (l ++ s) w':=by
 obtain ⟨i0,hi,hz0,hz1,hz2⟩:=info_parts infoU
 have HI:=Lib.hid hi
 have HZ0:=Lib.hid hz0
 have HZ1:=Lib.hid hz1
 have HZ2:=Lib.hid hz2
 have HC:=Lib.hid (wcheck_any B b p l w h)
 have hBw : B ≤ w.heap.size:=h.2
 have HSS : Hid ((⟨s.toArray⟩ : ByteArray).size = s.length):=Lib.hid (by rw [ByteArray.size_mk',List.size_toArray])
 clear h hi hz0 hz1 hz2
 go_enter Tryz.func78,Tryz.ntmps78
 go_wp2_with fail
 ((with_reducible refine HC.out.mono ?_))
 rintro e w1 ⟨rfl,h1,hb1,hk1⟩
 obtain ⟨hB,v,hbk,hown,hne⟩:=h1
 have c2 : w1.cell? ⟨b,2,none⟩ = some v:=by rw [Lib.cell_of_heap hbk]; rfl
 have HOW:=Lib.hid hown
 have HBK:=Lib.hid hbk
 have HB1:=Lib.hid hb1
 have HK1:=Lib.hid hk1
 have HNE:=Lib.hid hne
 have HB:=Lib.hid hB
 clear hown hbk hb1 hk1 hne hB HC
 go_wp2_with (at_builtin; refine Lib.wpList_append_own_string (P:=Tryz.prog) _ rfl _ _ 22 9 rfl B 5 i0 (by kernel_rfl) (by kernel_rfl) HI.out HZ0.out HZ1.out HZ2.out v l.length (Lib.byteCells l) rfl HOW.out ⟨s.toArray⟩ rfl (by rw [HSS.out]; unfold maxLen; omega) (by rw [HSS.out]; exact hlen) (by have:=HB1.out.size; omega) ?_; intro v' w2 ho hg _; have HO2:=Lib.hid ho; have HG2:=Lib.hid hg; clear ho hg; obtain ⟨hb2,⟨ao,n',cap,rfl⟩⟩:=put_ready HBK.out HG2.out HNE.out HO2.out; have HB2:=Lib.hid hb2; have d2 : w2.cell? ⟨b,2,none⟩ = some v:=(by rw [Lib.cell_of_heap hb2] <;> rfl); have f2 : w2.frozen? ⟨b,2,none⟩ = false:=Lib.frozen_of_heap hb2 2; clear hb2)
 go_ret2
 have ho : w2.ownsRow B 5 1 (.slice ao n' cap) (l ++ s).length (Lib.byteCells (l ++ s)):=by
  rw [List.length_append,Lib.byteCells_append]
  exact HO2.out
 refine ⟨rfl,⟨.inr (WrQ.put HB.out HB2.out ho),?_⟩,?_,?_⟩
 ·have h1:=HB1.out.size
  have h2:=HG2.out.size
  simp only [World.size_setCell]
  omega
 ·exact (HB1.out.grown HG2.out (by have:=HB1.out.size; omega) (fun k hk => (HOW.out.lt k hk).1)).setCell (p:=⟨b,2,none⟩) HB.out _
 ·exact (Lib.OthersKept.grown HK1.out HG2.out (own_kind HOW.out)).setCell ⟨b,2,none⟩ rfl _
set_option maxRecDepth 100000 in
set_option maxHeartbeats 2000000 in
theorem jbyte_any (B b : Nat) (p : Value) (l : List UInt8) (c : UInt8) (w : World) (h : Wr w B b p l) (hlen : l.length + 1 ≤ 140737488355328) :
  Calls Tryz.prog 45 #[.pointer (some ⟨b,1,none⟩),.int .u8 c.toNat] w fun e w' => e = .returned .nilIface ∧ WrPo w B b p (l ++ [c]) w':=by
 obtain ⟨i0,hi,hz0,hz1,hz2⟩:=info_parts infoU
 have HI:=Lib.hid hi
 have HZ0:=Lib.hid hz0
 have HZ1:=Lib.hid hz1
 have HZ2:=Lib.hid hz2
 have HC:=Lib.hid (wcheck_any B b p l w h)
 have hBw : B ≤ w.heap.size:=h.2
 clear h hi hz0 hz1 hz2
 go_enter Tryz.func45,Tryz.ntmps45
 go_wp2_with fail
 ((with_reducible refine HC.out.mono ?_))
 rintro e w1 ⟨rfl,h1,hb1,hk1⟩
 obtain ⟨hB,v,hbk,hown,hne⟩:=h1
 have c2 : w1.cell? ⟨b,2,none⟩ = some v:=by rw [Lib.cell_of_heap hbk]; rfl
 have hbz : B ≤ w1.heap.size:=by have:=hb1.size; omega
 have HOW:=Lib.hid (hown.alloc (.cells #[.int .u8 c.toNat] 5))
 have HBK : Hid ((w1.alloc (.cells #[.int .u8 c.toNat] 5)).heap[b]? = some (.cells #[p,.pointer (some ⟨b,1,none⟩),v] 77 (0,0))):=Lib.hid (by rw [Lib.alloc_old w1 _ b (lt_of_block hbk)]; exact hbk)
 have HB1:=Lib.hid (hb1.alloc hbz (.cells #[.int .u8 c.toNat] 5))
 have HK1 : Hid (KeptW b w (w1.alloc (.cells #[.int .u8 c.toNat] 5))):=Lib.hid (Lib.OthersKept.alloc hk1 _)
 have HN1 : Hid ((w1.alloc (.cells #[.int .u8 c.toNat] 5)).heap[w1.heap.size]? = some (.cells #[.int .u8 c.toNat] 5 (0,0))):=Lib.hid (heap_alloc_new _ _)
 have hsz : B ≤ (w1.alloc (.cells #[.int .u8 c.toNat] 5)).heap.size:=Nat.le_trans hBw HB1.out.size
 have HNE:=Lib.hid hne
 have HB:=Lib.hid hB
 clear hown hbk hb1 hk1 hne hB HC
 go_wp2_with (at_builtin; refine wpList_append_own (P:=Tryz.prog) _ rfl _ _ 22 rfl B 5 i0 (.int .u8 0) 1 1 (by kernel_rfl) HI.out HZ0.out HZ1.out HZ2.out rfl (by decide) v l.length (Lib.byteCells l) rfl HOW.out ⟨w1.heap.size,0,none⟩ 1 1 [.int .u8 c.toNat] rfl rfl (one_cell HN1.out) (by intro u hu; simp at hu; subst hu; rfl) (by unfold maxLen; omega) (by omega) hsz ?_; intro v' w2 ho hg _; have HO2:=Lib.hid ho; have HG2:=Lib.hid hg; clear ho hg; obtain ⟨hb2,⟨ao,n',cap,rfl⟩⟩:=put_ready HBK.out HG2.out HNE.out HO2.out; have HB2:=Lib.hid hb2; have d2 : w2.cell? ⟨b,2,none⟩ = some v:=(by rw [Lib.cell_of_heap hb2] <;> rfl); have f2 : w2.frozen? ⟨b,2,none⟩ = false:=Lib.frozen_of_heap hb2 2; clear hb2)
 go_ret
 have ho : w2.ownsRow B 5 1 (.slice ao n' cap) (l ++ [c]).length (Lib.byteCells (l ++ [c])):=by
  rw [List.length_append,Lib.byteCells_append]
  exact HO2.out
 refine ⟨rfl,⟨.inr (WrQ.put HB.out HB2.out ho),?_⟩,?_,?_⟩
 ·have h2:=HG2.out.size
  simp only [World.size_setCell]
  omega
 ·exact (HB1.out.grown HG2.out hsz (fun k hk => (HOW.out.lt k hk).1)).setCell (p:=⟨b,2,none⟩) HB.out _
 ·exact (Lib.OthersKept.grown HK1.out HG2.out (own_kind HOW.out)).setCell ⟨b,2,none⟩ rfl _
set_option maxRecDepth 100000 in
set_option maxHeartbeats 4000000 in
theorem jstring_any (B b : Nat) (p : Value) (l : List UInt8) (w : World) (h : Wr w B b p l) (h0 : l ≠ []) :
  Calls Tryz.prog 46 #[.pointer (some ⟨b,1,none⟩)] w fun e w' => e = .returned (.string ⟨l.toArray⟩) ∧ Below B w w':=by
 obtain ⟨q,hB,v,hbk,hown,hne⟩ : ∃ q,WrQ w B b p l q:=by
  rcases h.1 with h | h
  ·exact ⟨_,h⟩
  ·exact ⟨_,h⟩
 have hl0 : l.length ≠ 0:=by simpa using h0
 obtain ⟨g,cap,cur,rfl,hbg,hg,hnc,hcm,hcs,htake⟩ : ∃ g cap cur,v = .slice (some ⟨g,0,none⟩) l.length cap ∧ B ≤ g ∧ w.heap[g]? = some (.cells cur 5 (0,0)) ∧ l.length ≤ cap ∧ cap ≤ maxLen ∧ cur.size = cap * 1 ∧ cur.toList.take (l.length * 1) = Lib.byteCells l:=by
  rcases hown.2 with ⟨_,hz⟩ | ⟨g,cap,cur,hv,r⟩
  ·exact absurd hz hl0
  ·exact ⟨g,cap,cur,hv,r⟩
 have c2 : w.drew.cell? ⟨b,2,none⟩ = some (.slice (some ⟨g,0,none⟩) l.length cap):=by
  have : w.drew.heap[b]? = some (.cells #[p,q,.slice (some ⟨g,0,none⟩) l.length cap] 77 (0,0)):=hbk
  rw [Lib.cell_of_heap this]; rfl
 have hSD : (Builtin.unsafeSliceData_ #[22] 122 #[.slice (some ⟨g,0,none⟩) l.length cap]).run Tryz.prog w.drew = .ok (.pointer (some ⟨g,0,none⟩)) w.drew :=
  Lib.run_unsafeSliceData_row _ _ _ _ _ _ (by omega)
 have hUS : (Builtin.unsafeString_ #[122,3] 9 #[.pointer (some ⟨g,0,none⟩),.int .i64 l.length]).run Tryz.prog w.drew = .ok (.string ⟨l.toArray⟩) (w.drew.freeze ⟨g,0,none⟩ l.length):=by
  refine Lib.run_unsafeString_row w.drew 122 3 9 5 (by kernel_rfl) (by kernel_rfl) g cur.size (by have hg' : w.drew.heap[g]? = some (.cells cur 5 (0,0)):=hg; simp [World.shape?,hg']) l h0 (by omega) (by unfold maxLen at hcm; omega) ?_
  intro j x hx
  have:=hown.cells (g:=g) rfl j (.int .u8 x.toNat) (by simp [Lib.byteCells,hx])
  exact this
 have HBG:=Lib.hid hbg
 have mixed : Tryz.prog.follows Departure.mixedOrders = true:=by kernel_rfl
 clear hown hbk hne hg htake hcs h
 go_enter Tryz.func46,Tryz.ntmps46
 go_wp2_with fail
 go_region_o
 all_goals (go_wp2; go_ret; exact ⟨rfl,Lib.below_freeze (Below.drew (Below.refl B w)) (p:=⟨g,0,none⟩) HBG.out _⟩)
set_option maxRecDepth 100000 in
set_option maxHeartbeats 4000000 in
theorem jstring_nil (B b : Nat) (p q : Value) (w : World) (hbk : w.heap[b]? = some (.cells #[p,q,.slice none 0 0] 77 (0,0))) :
  Calls Tryz.prog 46 #[.pointer (some ⟨b,1,none⟩)] w fun e w' => e = .returned (.string ⟨#[]⟩) ∧ Below B w w':=by
 have hUS : ∀ (W : World) (q : Option Addr),(Builtin.unsafeString_ #[122,3] 9 #[.pointer q,.int .i64 0]).run Tryz.prog W = .ok (.string .empty) W:=fun W q => Lib.run_unsafeString_none W _ _ _ q
 have c2 : w.drew.cell? ⟨b,2,none⟩ = some (.slice none 0 0):=by
  have : w.drew.heap[b]? = some (.cells #[p,q,.slice none 0 0] 77 (0,0)):=hbk
  rw [Lib.cell_of_heap this]; rfl
 have hSD : (Builtin.unsafeSliceData_ #[22] 122 #[.slice none 0 0]).run Tryz.prog w.drew = .ok (.pointer none) w.drew:=rfl
 have mixed : Tryz.prog.follows Departure.mixedOrders = true:=by kernel_rfl
 clear hbk
 go_enter Tryz.func46,Tryz.ntmps46
 go_wp2_with fail
 go_region_o
 all_goals (go_wp2; go_ret; exact ⟨rfl,Below.drew (Below.refl B w)⟩)
end
section
open Go.RowKit
def closeT : List UInt8 → List UInt8
 | [] => [41]
 | k :: _ => if blkB k = true then [41] else []
def remT (p : List Nd) (d lv : Nat) : Nat → List UInt8 → Nat → List UInt8
 | _,[],_ => []
 | pv,k :: ks,i => if blkB k = true
   then (if pv = 2 then [32,69,108,115,101] else []) ++ (textP (fmtA p d true k i lv [32]).1 ++ remT p d lv 2 ks (fmtA p d true k i lv [32]).2)
   else (if pv = 0 then [32,40] else [44,32]) ++ (textP (fmtA p d false k i lv []).1 ++ (closeT ks ++ remT p d lv 1 ks (fmtA p d false k i lv []).2))
theorem fmt_nx {p : List Nd} {d : Nat} {b : Bool} {k : UInt8} {i j lv lv' : Nat} {s s' : List UInt8} (h : vAny p d b k i = some j) : (fmtA p d b k i lv s).2 = (fmtA p d b k i lv' s').2:=by
 rw [fmt_next p d b k i j lv s h,fmt_next p d b k i j lv' s' h]
theorem rem_blks (p : List Nd) (d lv : Nat) : ∀ (ks : List UInt8) (pv i : Nat),ks.all blkB = true → 1 ≤ pv → remT p d lv pv ks i = textP (blksE (fmtA p d) lv ks (decide (pv ≠ 2)) i).1
 | [],pv,i,_,_ => by rw [remT,blksE]; rfl
 | k :: ks,pv,i,ha,hp => by
   rw [List.all_cons,Bool.and_eq_true] at ha
   rw [remT,if_pos ha.1,blksE,rem_blks p d lv ks 2 _ ha.2 (by omega)]
   rw [textP_app,textP_app]
   by_cases h : pv = 2
   ·subst h; simp [textP_cons,textP_nil,elT,fmtT]
   ·simp [h,textP_nil]
theorem rem_args (p : List Nd) (d lv : Nat) : ∀ (ks : List UInt8) (i j : Nat),(ks.dropWhile fun k => !blkB k).all blkB = true → nextK (fun k j => vAny p d (blkB k) k j) ks i = some j →
  closeT ks ++ remT p d lv 1 ks i = textP (argsE (fmtA p d) lv ks false i).1 ++ textP (blksE (fmtA p d) lv (ks.dropWhile fun k => !blkB k) true (argsE (fmtA p d) lv ks false i).2).1
 | [],i,j,_,_ => by rw [remT,argsE,List.dropWhile_nil,blksE]; simp [closeT,textP_cons,textP_nil,pcT,fmtT,punC]
 | k :: ks,i,j,ha,h => by
   by_cases hb : blkB k = true
   ·have e : (k :: ks).dropWhile (fun k => !blkB k) = k :: ks:=by rw [List.dropWhile_cons,if_neg (by rw [hb]; decide)]
    rw [e] at ha ⊢
    rw [rem_blks p d lv _ 1 i ha (Nat.le_refl _),argsE,if_pos hb]
    simp [closeT,hb,textP_cons,textP_nil,pcT,fmtT,punC]
   ·have hb' : blkB k = false:=by simpa using hb
    have e : (k :: ks).dropWhile (fun k => !blkB k) = ks.dropWhile (fun k => !blkB k):=by rw [List.dropWhile_cons,if_pos (by rw [hb']; decide)]
    rw [e] at ha ⊢
    rw [nextK] at h
    simp only [hb'] at h
    cases hx : vAny p d false k i with
    | none => rw [hx] at h; cases h
    | some q =>
      rw [hx] at h
      rw [remT,if_neg hb,argsE,if_neg hb,if_neg (by omega)]
      simp only [fmt_next p d false k i q _ _ hx]
      rw [rem_args p d lv ks q j ha h,textP_app,textP_app]
      simp only [Bool.false_eq_true,↓reduceIte]
      rw [fmt_text p _ [32] hx]
      simp [closeT,hb,textP_cons,textP_nil,cmT,fmtT,punC]
theorem rest_rem {p : List Nd} {d lv : Nat} {ks : List UInt8} {i j : Nat} (hs : shpB ks = true) (h : nextK (fun k j => vAny p d (blkB k) k j) ks i = some j) : textP (restE (fmtA p d) ks lv i).1 = remT p d lv 0 ks i:=by
 unfold restE
 cases ks with
 | nil => rw [if_pos rfl,remT]; rfl
 | cons k ks =>
   rw [if_neg (by simp)]
   unfold shpB at hs
   rw [Bool.and_eq_true] at hs
   obtain ⟨ha,hb⟩:=hs
   have hb' : blkB k = false:=by simpa using hb
   have e : (k :: ks).dropWhile (fun k => !blkB k) = ks.dropWhile (fun k => !blkB k):=by rw [List.dropWhile_cons,if_pos (by rw [hb']; decide)]
   rw [e] at ha ⊢
   rw [nextK] at h
   simp only [hb'] at h
   cases hx : vAny p d false k i with
   | none => rw [hx] at h; cases h
   | some q =>
     rw [hx] at h
     show textP (([32],poT) :: ((argsE (fmtA p d) lv (k :: ks) true i).1 ++ (blksE (fmtA p d) lv (ks.dropWhile fun k => !blkB k) true (argsE (fmtA p d) lv (k :: ks) true i).2).1)) = _
     rw [remT,if_neg (by rw [hb']; decide),if_pos rfl,textP_cons,textP_app,argsE,if_neg (by rw [hb']; decide)]
     simp only [↓reduceIte,fmt_next p d false k i q _ _ hx,List.nil_append]
     rw [rem_args p d lv ks q j ha h,textP_app]
     simp [poT,fmtT,punC]
def pvAt (ks : List UInt8) : Nat → Nat
 | 0 => 0
 | j + 1 => if blkB (ks.getD j 0) = true then 2 else 1
def remN (p : List Nd) (d : Nat) (k : UInt8) (lv : Nat) : Nat → Nat → List UInt8
 | 0,_ => []
 | m + 1,i => indL (lv + 1) ++ (textP (fmtA p d false k i (lv + 1) []).1 ++ (10 :: remN p d k lv m (fmtA p d false k i (lv + 1) []).2))
theorem remN_is {p : List Nd} {d : Nat} {k : UInt8} (hl : listB k = false) (lv : Nat) : ∀ (m : Nat) (first : Bool) (i j : Nat),nextN (vAny p d false k) m i = some j → textP (elemsL (fmtA p d) k lv m first i).1 ++ [10] = 10 :: remN p d k lv m i
 | 0,first,i,j,h => by rw [elemsL,remN]; rfl
 | m + 1,first,i,j,h => by
   rw [nextN] at h
   cases hx : vAny p d false k i with
   | none => rw [hx] at h; cases h
   | some q =>
     rw [hx] at h
     have ev : elV k lv = lv + 1:=by unfold elV; rw [if_neg (by rw [hl]; decide)]
     have es : elS k lv first = 10 :: indL (lv + 1):=by unfold elS; rw [if_neg (by rw [hl]; decide)]
     have ec : elC k first = []:=by unfold elC; rw [if_neg (by rw [hl]; simp)]
     rw [elemsL,remN,ev,es,ec]
     simp only [fmt_next p d false k i q _ _ hx]
     rw [List.nil_append,textP_app,List.append_assoc,remN_is hl lv m false q j h,fmt_text p _ _ hx]
     simp
theorem blk_lines {p : List Nd} {d : Nat} {k : UInt8} (hl : listB k = false) (lv m i j : Nat) (hm : m ≠ 0) (h : nextN (vAny p d false k) m i = some j) : textP (elemsL (fmtA p d) k lv m true i).1 ++ (endS k lv m ++ [125]) = 10 :: (remN p d k lv m i ++ (indL lv ++ [125])):=by
 have e : endS k lv m = 10 :: indL lv:=by unfold endS; rw [if_neg (by rw [hl]; simp; exact hm)]
 have h1:=remN_is hl lv m true i j h
 rw [e,List.cons_append,show textP (elemsL (fmtA p d) k lv m true i).1 ++ 10 :: (indL lv ++ [125]) = (textP (elemsL (fmtA p d) k lv m true i).1 ++ [10]) ++ (indL lv ++ [125]) by simp,h1]
 simp
end
section
open Go.RowKit
attribute [local go_sem] ByteArray.mk_append_mk bs_get bs_cut bs_end
def PW (w : World) (B b : Nat) (v : Value) (p : List Nd) (m : Int) (s : List UInt8) : Prop :=
 Wr w B b v s ∧ NSl w v p ∧ (∀ g off n c,v = .slice (some ⟨g,off,none⟩) n c → p ≠ [] → g < B) ∧ SynG m w ∧ SynB B ∧ Tz16 w ∧ 7 < B
theorem NSl.belowB {w w' : World} {B : Nat} {v : Value} {p : List Nd} (h : NSl w v p) (hlt : ∀ g off n c,v = .slice (some ⟨g,off,none⟩) n c → p ≠ [] → g < B) (hb : Below B w w') : NSl w' v p:=by
 obtain ⟨⟨a,cap,hv,hc⟩,hs⟩:=h
 refine ⟨⟨a,cap,hv,fun hn => ?_⟩,hs⟩
 obtain ⟨b,off,ha,hkk⟩:=hc hn
 have hbB:=hlt b off _ _ (by rw [hv,ha]) hn
 refine ⟨b,off,ha,fun i hi => ?_⟩
 obtain ⟨c0,c1,c2,c3⟩:=hkk i hi
 exact ⟨(hb.cell (p:=⟨b,off + i * 4,none⟩) hbB).trans c0,(hb.cell (p:=⟨b,off + i * 4 + 1,none⟩) hbB).trans c1,(hb.cell (p:=⟨b,off + i * 4 + 2,none⟩) hbB).trans c2,(hb.cell (p:=⟨b,off + i * 4 + 3,none⟩) hbB).trans c3⟩
theorem PW.move {w w' : World} {B b : Nat} {v : Value} {p : List Nd} {m : Int} {s s' : List UInt8} (h : PW w B b v p m s) (hb : Below B w w') (hw : Wr w' B b v s') : PW w' B b v p m s':=by
 obtain ⟨h1,h2,h3,h4,h5,h6,h7⟩:=h
 exact ⟨hw,h2.belowB h3 hb,h3,h4.below hb h5,h5,h6.below hb h7,h7⟩
theorem PW.post {w w' : World} {B b : Nat} {v : Value} {p : List Nd} {m : Int} {s s' : List UInt8} (h : PW w B b v p m s) (hp : WrPo w B b v s' w') : PW w' B b v p m s':=h.move hp.2.1 hp.1
theorem PW.below {w w' : World} {B b : Nat} {v : Value} {p : List Nd} {m : Int} {s : List UInt8} (h : PW w B b v p m s) (hb : Below w.heap.size w w') : PW w' B b v p m s:=h.move (hb.mono h.1.2) (h.1.below hb)
def KpW (B b : Nat) (w w' : World) : Prop:=Below B w w' ∧ KeptW b w w'
theorem KpW.refl (B b : Nat) (w : World) : KpW B b w w:=⟨Below.refl _ _,KeptW.refl _ _⟩
theorem KpW.post {B b : Nat} {w0 w w' : World} {v : Value} {s : List UInt8} (h : KpW B b w0 w) (hp : WrPo w B b v s w') : KpW B b w0 w':=⟨h.1.trans hp.2.1,h.2.trans hp.2.2⟩
theorem KpW.below {B b : Nat} {w0 w w' : World} (h : KpW B b w0 w) (hB : B ≤ w.heap.size) (hb : Below w.heap.size w w') : KpW B b w0 w':=⟨h.1.trans (hb.mono hB),h.2.trans (KeptW.of hb)⟩
theorem KpW.fin {B b : Nat} {w0 w : World} {v : Value} {p : List Nd} {m : Int} {s : List UInt8} (h : KpW B b w0 w) (hp : PW w B b v p m s) : WrPo w0 B b v s w:=⟨hp.1,h.1,h.2⟩
theorem jlit_any (B b : Nat) (p : Value) (l : List UInt8) (c : UInt8) (n : Int) (hn : (c.toNat : Int) = n) (w : World) (h : Wr w B b p l) (hlen : l.length + 1 ≤ 140737488355328) :
  Calls Tryz.prog 45 #[.pointer (some ⟨b,1,none⟩),.int .u8 n] w fun e w' => e = .returned .nilIface ∧ WrPo w B b p (l ++ [c]) w':=by
 subst hn; exact jbyte_any B b p l c w h hlen
set_option maxHeartbeats 2000000 in
theorem small8 (u : Nat) (hu : u < 8) (w : World) : Calls Tryz.prog 153 #[.int .i64 u] w fun e w' => e = .returned (.string ⟨#[UInt8.ofNat (48 + u)]⟩) ∧ w = w':=by
 match u,hu with
 | 0,_ | 1,_ | 2,_ | 3,_ | 4,_ | 5,_ | 6,_ | 7,_ =>
   go_enter Tryz.func153,Tryz.ntmps153
   go_wp2_with fail
   go_ret
   exact ⟨rfl,rfl⟩
theorem fmt8i_any (u : Nat) (hu : u < 8) (c : UInt8) (hc : Hid (UInt8.ofNat (48 + u) = c)) (w : World) : Calls Tryz.prog 126 #[.int .u64 u,.int .i64 10] w fun e w' => e = .returned (.string ⟨#[c]⟩) ∧ w = w':=by
 have HS:=Lib.hid (fun w => small8 u hu w)
 rw [hc.out] at HS
 have h100 : (u : Int) < 100:=by omega
 go_enter Tryz.func126,Tryz.ntmps126
 go_wp2_with fail
 ((with_reducible refine (HS.out _).mono ?_))
 rintro e w' ⟨rfl,rfl⟩
 go_wp2_with fail
 go_ret
 exact ⟨rfl,rfl⟩
theorem fmt8_any (u : Nat) (hu : u < 8) (c : UInt8) (hc : Hid (UInt8.ofNat (48 + u) = c)) (w : World) : Calls Tryz.prog 80 #[.int .u64 u,.int .i64 10] w fun e w' => e = .returned (.string ⟨[c].toArray⟩) ∧ w = w':=by
 have KB:=Lib.hid (fun w => fmt8i_any u hu c hc w)
 go_enter Tryz.func80,Tryz.ntmps80
 go_wp2_with fail
 ((with_reducible refine (KB.out _).mono ?_))
 rintro e w2 ⟨rfl,rfl⟩
 go_wp2_with fail
 go_ret
 exact ⟨rfl,rfl⟩
theorem tfmt_one (tk tn tp : Int) (ts : List UInt8) (g : Nat) (w : World) (hf : FineW ⟨tk,tn,ts,tp⟩) (hl : (fmtT ⟨tk,tn,ts,tp⟩).length ≤ 900000000) (hg : w.heap[g]? = some (tObj tk tn ts tp)) (hT : Tz16 w) :
  Calls Tryz.prog 79 #[.slice (some ⟨g,0,none⟩) 1 1] w fun e w' => e = .returned (.string ⟨(fmtT ⟨tk,tn,ts,tp⟩).toArray⟩) ∧ Below w.heap.size w w':=by
 have hc : TAtK w g 0 ⟨tk,tn,ts,tp⟩:=⟨cell_of_row w g 0 _ _ (0,0) hg,cell_of_row w g 1 _ _ (0,0) hg,cell_of_row w g 2 _ _ (0,0) hg,cell_of_row w g 3 _ _ (0,0) hg⟩
 have e : textJ [⟨tk,tn,ts,tp⟩] 1 = fmtT ⟨tk,tn,ts,tp⟩:=rfl
 have h:=tformat_len (.slice (some ⟨g,0,none⟩) 1 1) [⟨tk,tn,ts,tp⟩] w (TSl.single hc) (fun t ht => by
  simp only [List.mem_cons,List.not_mem_nil,or_false] at ht; subst ht; exact hf) (by simp) (by show (textJ [⟨tk,tn,ts,tp⟩] 1).length ≤ _; rw [e]; exact hl) hT
 have e2 : textJ [⟨tk,tn,ts,tp⟩] [(⟨tk,tn,ts,tp⟩ : TokI)].length = fmtT ⟨tk,tn,ts,tp⟩:=rfl
 rw [e2] at h
 exact h
theorem rep_ind (n : Nat) (w : World) (hn : n ≤ 1000) : Calls Tryz.prog 158 #[.string ⟨#[32,32]⟩,.int .i64 n] w fun e w' => e = .returned (.string ⟨(indL n).toArray⟩) ∧ Below w.heap.size w w':=by
 refine (Tryz.strings_Repeat ⟨#[32,32]⟩ n w (by omega) (by show 2 * n ≤ _; omega)).mono ?_
 rintro e w' ⟨he,hb⟩
 refine ⟨?_,hb⟩
 rw [he]
 have : ∀ n,Lib.repeatL [(32 : UInt8),32] n = indL n:=by
  intro n
  induction n with
  | zero => rfl
  | succ n ih =>
    unfold indL at ih ⊢
    rw [show 2 * (n + 1) = 2 + 2 * n by omega,← List.replicate_append_replicate,← ih]
    rfl
 exact congrArg (fun l : List UInt8 => Ending.returned (.string ⟨l.toArray⟩)) (this n)
end
section
open Go.RowKit
attribute [local go_sem] ByteArray.mk_append_mk bs_get bs_cut bs_end
abbrev rpObj (tv : Value) (i : Int) (nv : Value) (F : Int) : Obj:=.cells #[tv,.int .i64 i,nv,.int .i64 F] 90 (0,0)
theorem own_rp {w : World} {B : Nat} {v : Value} {l : List Nd} (h : NodesI w B v l) {b : Nat} {tv nv : Value} {i F : Int} (hb : w.heap[b]? = some (rpObj tv i nv F)) : v.ownBlock ≠ some b:=by
 intro e
 obtain ⟨cur,hc⟩:=own_type h e
 rw [hb] at hc
 injection hc with hc
 injection hc with _ h2 _
 exact absurd h2 (by decide)
structure RSt (m : Int) (B b : Nat) (w : World) (L : List TokI) (i : Nat) (F : Int) (o : List Nd) : Prop where
 ex : ∃ tv nv,w.heap[b]? = some (rpObj tv i nv F) ∧ TokB w B tv L ∧ NodesI w B nv o
 base : B ≤ b
 size : B ≤ w.heap.size
 syn : SynG m w
 hund : SynB B
 good : TGood L
 ix : i ≤ L.length
 f0 : -1 ≤ F
 f1 : F ≤ L.length
 ol : (o.length : Int) ≤ i + F + 1
theorem RSt.below {m F : Int} {B b i : Nat} {w w' : World} {L : List TokI} {o : List Nd} (h : RSt m B b w L i F o) (hb : Below w.heap.size w w') : RSt m B b w' L i F o:=by
 obtain ⟨⟨tv,nv,h1,h2,h3⟩,h4,h5,h6,h7,h8,h9,ha,hc,hd⟩:=h
 exact ⟨⟨tv,nv,blk_below h1 hb,h2.below (hb.mono h5),h3.below hb⟩,h4,Nat.le_trans h5 hb.size,h6.below (hb.mono h5) h7,h7,h8,h9,ha,hc,hd⟩
theorem RSt.alloc {m F : Int} {B b i : Nat} {w : World} {L : List TokI} {o : List Nd} (h : RSt m B b w L i F o) (x : Obj) : RSt m B b (w.alloc x) L i F o:=h.below ((Below.refl _ _).alloc (Nat.le_refl _) _)
end
end Go.Proofs.YtnicnfchkdmieaaGreatDoor
