/- Rc Rd -/
import Derived.Test.YtoohondkpddmcaaGreatDoorVbf
set_option linter.unusedVariables false
set_option linter.unusedSimpArgs false
namespace Go.Proofs.YtoohondkpddmcaaGreatDoor
section
open Go.RowKit
attribute [local go_sem] ByteArray.mk_append_mk bs_get bs_cut bs_end
abbrev Rw:=Int × List UInt8 × List UInt8
def rows0 : List Rw:=[(10,[83,99,111,112,101],[110,68]),(11,[68,101,118,105,99,101],[115,68]),(12,[80,111,119,101,114,82,101,115,111,117,114,99,101],[115,105,105,68]),(13,[78,97,109,101],[115,100]),(14,[77,101,116,104,111,100],[115,105,105,105,83]),(15,[79,112,101,114,97,116,105,111,110,82,101,103,105,111,110],[115,105,105,105]),(16,[70,105,101,108,100],[110,105,105,70]),(17,[73,110,100,101,120,70,105,101,108,100],[110,110,105,105,70]),(18,[85,110,105,116],[115,105]),(19,[83,107,105,112],[105]),(20,[77,117,116,101,120],[115,105]),(21,[69,118,101,110,116],[115]),(30,[83,116,111,114,101],[101,116]),(31,[73,102],[101,83]),(32,[87,104,105,108,101],[101,83]),(33,[82,101,116,117,114,110],[]),(34,[66,114,101,97,107],[]),(35,[67,111,110,116,105,110,117,101],[]),(36,[82,101,108,101,97,115,101],[110]),(37,[83,105,103,110,97,108],[110]),(38,[82,101,115,101,116],[110]),(39,[83,108,101,101,112],[101]),(40,[78,111,116,105,102,121],[110,101]),(41,[65,99,113,117,105,114,101],[110,105]),(42,[87,97,105,116],[110,101]),(50,[66,117,102,102,101,114],[105,73]),(51,[80,97,99,107,97,103,101],[105,80]),(85,[82,101,102,79,102],[116]),(87,[79,98,106,101,99,116,84,121,112,101],[116]),(86,[67,111,110,100,82,101,102,79,102],[110]),(88,[77,105,100],[101,101,101])]
def two0 : List (List UInt8):=[[65,100,100],[83,117,98,116,114,97,99,116],[77,117,108,116,105,112,108,121],[68,105,118,105,100,101],[77,111,100],[65,110,100],[79,114],[88,111,114],[83,104,105,102,116,76,101,102,116],[83,104,105,102,116,82,105,103,104,116],[76,65,110,100],[76,79,114],[76,69,113,117,97,108],[76,76,101,115,115],[76,71,114,101,97,116,101,114],[67,111,110,99,97,116,101,110,97,116,101],[73,110,100,101,120]]
def one0 : List (List UInt8):=[[78,111,116],[76,78,111,116],[83,105,122,101,79,102],[84,111,73,110,116,101,103,101,114],[84,111,66,117,102,102,101,114],[84,111,72,101,120,83,116,114,105,110,103],[84,111,68,101,99,105,109,97,108,83,116,114,105,110,103],[68,101,114,101,102,79,102]]
def twoR : List Rw:=[(60,[65,100,100],[101,101]),(61,[83,117,98,116,114,97,99,116],[101,101]),(62,[77,117,108,116,105,112,108,121],[101,101]),(63,[68,105,118,105,100,101],[101,101]),(64,[77,111,100],[101,101]),(65,[65,110,100],[101,101]),(66,[79,114],[101,101]),(67,[88,111,114],[101,101]),(68,[83,104,105,102,116,76,101,102,116],[101,101]),(69,[83,104,105,102,116,82,105,103,104,116],[101,101]),(70,[76,65,110,100],[101,101]),(71,[76,79,114],[101,101]),(72,[76,69,113,117,97,108],[101,101]),(73,[76,76,101,115,115],[101,101]),(74,[76,71,114,101,97,116,101,114],[101,101]),(75,[67,111,110,99,97,116,101,110,97,116,101],[101,101]),(76,[73,110,100,101,120],[101,101])]
def oneR : List Rw:=[(77,[78,111,116],[101]),(78,[76,78,111,116],[101]),(79,[83,105,122,101,79,102],[101]),(80,[84,111,73,110,116,101,103,101,114],[101]),(81,[84,111,66,117,102,102,101,114],[101]),(82,[84,111,72,101,120,83,116,114,105,110,103],[101]),(83,[84,111,68,101,99,105,109,97,108,83,116,114,105,110,103],[101]),(84,[68,101,114,101,102,79,102],[101])]
def rowsL : List Rw:=rows0 ++ twoR ++ oneR
def rcI : List Rw → List Value
 | [] => []
 | t :: r => .int .i64 t.1 :: .string ⟨t.2.1.toArray⟩ :: .string ⟨t.2.2.toArray⟩ :: rcI r
theorem rcI_app : ∀ l m : List Rw,rcI (l ++ m) = rcI l ++ rcI m
 | [],m => rfl
 | t :: r,m => by rw [List.cons_append,rcI,rcI,rcI_app r m]; rfl
theorem rcI_at : ∀ (l : List Rw) (i : Nat) (h : i < l.length),(rcI l)[i * 3]? = some (.int .i64 l[i].1) ∧ (rcI l)[i * 3 + 1]? = some (.string ⟨l[i].2.1.toArray⟩) ∧ (rcI l)[i * 3 + 2]? = some (.string ⟨l[i].2.2.toArray⟩)
 | t :: r,0,_ => ⟨rfl,rfl,rfl⟩
 | t :: r,i + 1,h => by
   have:=rcI_at r i (by simpa using h)
   rw [show (i + 1) * 3 = i * 3 + 3 by omega]
   exact this
def RowsI (w : World) (B : Nat) (v : Value) (l : List Rw) : Prop:=w.ownsRow B 102 3 v l.length (rcI l)
theorem RowsI.form {w : World} {B : Nat} {v : Value} {l : List Rw} (h : RowsI w B v l) : ∃ a c,v = .slice a l.length c:=by
 rcases h.2 with ⟨rfl,h0⟩ | ⟨g,cap,cur,rfl,_⟩
 ·exact ⟨none,0,by rw [h0]⟩
 ·exact ⟨_,cap,rfl⟩
theorem RowsI.below {w w' : World} {B : Nat} {v : Value} {l : List Rw} (h : RowsI w B v l) (hb : Below w.heap.size w w') : RowsI w' B v l:=own_below h hb
theorem RowsI.cells {w : World} {B : Nat} {v : Value} {l : List Rw} (h : RowsI w B v l) (hn : l ≠ []) : ∃ g c,v = .slice (some ⟨g,0,none⟩) l.length c ∧ g < w.heap.size ∧ B ≤ g ∧
  ∀ i (h : i < l.length),w.cell? ⟨g,i * 3,none⟩ = some (.int .i64 l[i].1) ∧ w.cell? ⟨g,i * 3 + 1,none⟩ = some (.string ⟨l[i].2.1.toArray⟩) ∧ w.cell? ⟨g,i * 3 + 2,none⟩ = some (.string ⟨l[i].2.2.toArray⟩):=by
 obtain ⟨g,cap,hv,hB⟩ : ∃ g cap,v = .slice (some ⟨g,0,none⟩) l.length cap ∧ B ≤ g:=by
  rcases h.2 with ⟨_,h0⟩ | ⟨g,cap,cur,e,hb,_⟩
  ·exact absurd (List.eq_nil_of_length_eq_zero h0) hn
  ·exact ⟨g,cap,e,hb⟩
 subst hv
 have hp:=List.length_pos_iff.2 hn
 have hat:=rcI_at l
 refine ⟨g,cap,rfl,?_,hB,fun i hi => ⟨?_,?_,?_⟩⟩
 ·exact World.block_lt_of_cell? w ⟨g,0,none⟩ ((World.ownsRow.cellAt h 0 (by omega)).trans (hat 0 hp).1)
 ·rw [World.ownsRow.cellAt h _ (by omega)]; exact (hat i hi).1
 ·rw [World.ownsRow.cellAt h _ (by omega)]; exact (hat i hi).2.1
 ·rw [World.ownsRow.cellAt h _ (by omega)]; exact (hat i hi).2.2
theorem infoRow : (Tryz.prog.info? 102).map (fun i => (i.zero,i.size,i.bytes)) = some (some (.agg #[.int .i64 0,.string ⟨#[]⟩,.string ⟨#[]⟩]),3,40):=by kernel_rfl
abbrev rwObj (a : Int) (b c : List UInt8) : Obj:=.cells #[.int .i64 a,.string ⟨b.toArray⟩,.string ⟨c.toArray⟩] 102 (0,0)
theorem wpList_append_row {w : World} {ops : Array Oper} {rest : List Oper} {o : Oper} {a : Act} {Q : Exit → Act → World → Prop} (hgd : o.guard = none) (s x : Operand)
  (ho : o.op = .call { callee:=.builtin .append,args:=#[s,x],argTypes:=#[152,152] })
  (B : Nat) (v : Value) (l : List Rw) (hs : a.eval s = v) (hown : RowsI w B v l) (g : Nat) (t : Rw)
  (hx : a.eval x = .slice (some ⟨g,0,none⟩) 1 1) (hb : w.heap[g]? = some (rwObj t.1 t.2.1 t.2.2)) (hlen : l.length ≤ 1000000) (hB : B ≤ w.heap.size)
  (h : ∀ v' w',RowsI w' B v' (l ++ [t]) → w.grownBy w' v.ownBlock → wpList Tryz.prog ops Q rest (a.put o.dst v') w') : wpList Tryz.prog ops Q (o :: rest) a w:=by
 obtain ⟨i0,hi,hz0,hz1,hz2⟩:=info_parts infoRow
 have hc : ∀ (j : Nat) (z : Value),(rcI [t])[j]? = some z → w.cell? ⟨g,j,none⟩ = some z:=by
  intro j z hj
  rw [cell_of_row w g j _ _ (0,0) hb]
  match j,hj with
  | 0,hj => cases hj; rfl
  | 1,hj => cases hj; rfl
  | 2,hj => cases hj; rfl
 refine wpList_append_own _ hgd s x _ ho B 102 i0 _ 3 40 Tryz.underlying152 hi hz0 hz1 hz2 rfl (by decide) v l.length _ hs hown ⟨g,0,none⟩ 1 1 (rcI [t]) hx rfl ?_ ?_ (by unfold maxLen; omega) (by omega) hB ?_
 ·intro j z hj
  have e : (⟨g,0,none⟩ : Addr).add j = ⟨g,j,none⟩:=by by_cases h : j = 0 <;> simp [Addr.add,h]
  rw [e]
  exact hc j z hj
 ·intro z hz
  simp only [rcI,List.mem_cons,List.not_mem_nil,or_false] at hz
  rcases hz with rfl | rfl | rfl <;> rfl
 ·intro v' w' h1 h2 _
  refine h v' w' ?_ h2
  unfold RowsI
  rw [List.length_append,rcI_app]
  exact h1
end
section
open Go.RowKit
def rowF (op : Int) : Option Rw:=rowsL.find? (fun t => t.1 == op)
def rowR : Option Rw → Rw
 | some t => t
 | none => (0,[],[])
def inTab (op : Int) : Bool:=(decide (10 ≤ op) && decide (op ≤ 21)) || (decide (30 ≤ op) && decide (op ≤ 42)) || op == 50 || op == 51 || (decide (60 ≤ op) && decide (op ≤ 88))
theorem rowF_dec : ∀ n : Fin 100,inTab (n.val : Int) = true → rowF (n.val : Int) = some ((n.val : Int),formP (n.val : Int)):=by decide +kernel
theorem inTab_lt {op : Int} (h : inTab op = true) : ∃ n : Fin 100,op = (n.val : Int):=by
 unfold inTab at h
 simp only [Bool.or_eq_true,Bool.and_eq_true,decide_eq_true_eq,beq_iff_eq] at h
 exact ⟨⟨op.toNat,by omega⟩,by show op = ((op.toNat : Nat) : Int); omega⟩
theorem rowF_tab {op : Int} (h : inTab op = true) : rowF op = some (op,formP op):=by
 obtain ⟨n,rfl⟩:=inTab_lt h
 exact rowF_dec n h
def blkR (k : UInt8) : Bool:=k == 68 || k == 83 || k == 70 || k == 73 || k == 80
end
end Go.Proofs.YtoohondkpddmcaaGreatDoor
