/- Sxf -/
import Derived.Test.YtnicnfchkdmieaaGreatDoorXbx
import Derived.Test.YtnicnfchkdmieaaGreatDoorRows
import Derived.Test.YtnicnfchkdmieaaGreatDoorChecked
import Derived.LaidSub
import Derived.Lib.LaidTab
import Derived.ProofKit
import Derived.Shelf.Vars
set_option linter.unusedVariables false
set_option linter.unusedSimpArgs false
namespace Go.Proofs.YtnicnfchkdmieaaGreatDoor
open Go.RowKit
set_option maxRecDepth 100000
def formData {H : Type} (T : List (List UInt8 × List UInt8)) : DataW H:=.agg (T.map fun x => .agg [.lit (.string x.1),.lit (.string x.2)])
theorem cells_of_forms {H : Type} {enc : TypeId × Value → H} {P : Program} {w : World} {base : Nat} {sp : Nat → Bool} {held : Bool} {fuel : Nat} {t e tS n : Nat} {fs : Array Field} {f0 f1 : Field} {cs : List Value} {T : List (List UInt8 × List UInt8)} {p : List MemPlace}
  (ht : P.underlying t = some (.array n e)) (he : P.underlying e = some (.struct fs)) (hce : P.cellsOf e = 2) (hS : P.underlying tS = some .string) (hcS : P.cellsOf tS = 1)
  (h0 : fs[0]? = some f0) (h1 : fs[1]? = some f1) (o0 : f0.offset = 0) (o1 : f1.offset = 1) (t0 : f0.type = tS) (t1 : f1.type = tS)
  (h : DataW.trod enc P w base sp held fuel t cs = some (formData T,p)) (i : Nat) (hi : i < T.length) :
  cs[2 * i]? = some (.string ⟨T[i].1.toArray⟩) ∧ cs[2 * i + 1]? = some (.string ⟨T[i].2.toArray⟩):=by
 cases fuel with
 | zero => simp [DataW.trod] at h
 | succ fuel =>
   simp only [DataW.trod,ht,hce] at h
   split at h
   ·obtain ⟨xs,hm,hx⟩:=Option.map_eq_some_iff.1 h
    have hxs : xs.map (·.1) = T.map fun x => (DataW.agg [.lit (.string x.1),.lit (.string x.2)] : DataW H):=by
     have:=congrArg Prod.fst hx
     simpa [formData] using this
    have hxl : xs.length = n:=by simpa using Lib.mapM_length hm
    have hTl : T.length = xs.length:=by
     have h9 : (xs.map (·.1)).length = (T.map fun x => (DataW.agg [.lit (.string x.1),.lit (.string x.2)] : DataW H)).length:=by rw [hxs]
     rw [List.length_map,List.length_map] at h9
     exact h9.symm
    have hin : i < n:=by omega
    obtain ⟨b,hb,hf⟩:=Lib.mapM_at hm i i (List.getElem?_range hin)
    have hb1 : b.1 = .agg [.lit (.string T[i].1),.lit (.string T[i].2)]:=by
     have h2 : (xs.map (·.1))[i]? = some b.1:=by simp [hb]
     rw [hxs] at h2
     simp [List.getElem?_map,hi] at h2
     exact h2.symm
    obtain ⟨ys,m,-,e1,e2,e3,e4⟩:=DataW.trod_struct he hf
    rw [e1] at hb1
    simp only [DataW.agg.injEq] at hb1
    have y0:=e4 0 f0 h0
    have y1:=e4 1 f1 h1
    rw [o0,t0,hcS] at y0
    rw [o1,t1,hcS] at y1
    have g0 : (ys.map (·.1))[0]? = some (DataW.lit (.string T[i].1) : DataW H):=by rw [hb1]; rfl
    have g1 : (ys.map (·.1))[1]? = some (DataW.lit (.string T[i].2) : DataW H):=by rw [hb1]; rfl
    rw [List.getElem?_map,Option.map_eq_some_iff] at g0 g1
    obtain ⟨z0,q0,r0⟩:=g0
    obtain ⟨z1,q1,r1⟩:=g1
    rw [q0] at y0
    rw [q1] at y1
    obtain ⟨s0,c0,d0,-⟩:=DataW.trod_string hS y0
    obtain ⟨s1,c1,d1,-⟩:=DataW.trod_string hS y1
    rw [d0] at r0
    rw [d1] at r1
    simp only [DataW.lit.injEq,Lit.string.injEq] at r0 r1
    have k0:=congrArg (·[0]?) c0
    have k1:=congrArg (·[0]?) c1
    simp [List.getElem?_take,List.getElem?_drop] at k0 k1
    rw [Nat.mul_comm 2 i]
    refine ⟨?_,?_⟩
    ·rw [k0,← r0]
    ·rw [k1,← r1]
   ·cases h
theorem forms_of_head {P : Program} {W : World} {name : String} {T : List (List UInt8 × List UInt8)} {rest : List (String × DataW Unit)} {g t e tS n : Nat} {fs : Array Field} {f0 f1 : Field}
  (hg : P.globalNamed name = some g) (hty : (P.globals[g]?).map (·.type) = some t) (ht : P.underlying t = some (.array n e)) (he : P.underlying e = some (.struct fs)) (hce : P.cellsOf e = 2) (hS : P.underlying tS = some .string) (hcS : P.cellsOf tS = 1)
  (h0 : fs[0]? = some f0) (h1 : fs[1]? = some f1) (o0 : f0.offset = 0) (o1 : f1.offset = 1) (t0 : f0.type = tS) (t1 : f1.type = tS)
  (h : laidMet P ((name,formData T) :: rest) W) (i : Nat) (hi : i < T.length) :
  W.cell? ⟨g,2 * i,none⟩ = some (.string ⟨T[i].1.toArray⟩) ∧ W.cell? ⟨g,2 * i + 1,none⟩ = some (.string ⟨T[i].2.toArray⟩):=by
 obtain ⟨ps,⟨g',t',cs,fuel,p,q,hg',ht',hvar,hd,_,_⟩,_⟩:=h
 obtain rfl:=Option.some.inj (hg.symm.trans hg')
 obtain rfl:=Option.some.inj (hty.symm.trans ht')
 obtain ⟨a,b⟩:=cells_of_forms ht he hce hS hcS h0 h1 o0 o1 t0 t1 hd i hi
 exact ⟨by rw [World.var?_cell hg hvar]; simpa using a,by rw [World.var?_cell hg hvar]; simpa using b⟩
theorem laid_expr {W : World} (h : laidMetH Tryz.prog Rows.syntaxFormatPreservesTokensRow.laid W) (i : Nat) (hi : i < exprT.length) :
  W.cell? ⟨2,2 * i,none⟩ = some (.string ⟨exprT[i].1.toArray⟩) ∧ W.cell? ⟨2,2 * i + 1,none⟩ = some (.string ⟨exprT[i].2.toArray⟩):=by
 have h1 := h.filter fun x => x.1 == "platformfw/syntax.expressionForms"
 rw [show (Rows.syntaxFormatPreservesTokensRow.laid.filter fun x => x.1 == "platformfw/syntax.expressionForms") = [("platformfw/syntax.expressionForms", formData exprT)] by kernel_rfl] at h1
 exact forms_of_head (rest := []) (name := "platformfw/syntax.expressionForms") (t := 152) (e := 119) (tS := 9) (by kernel_rfl) (by kernel_rfl) Tryz.underlying152 Tryz.underlying119 (by kernel_rfl) Tryz.underlying9 (by kernel_rfl) rfl rfl rfl rfl rfl rfl h1 i hi
theorem laid_stmt {W : World} (h : laidMetH Tryz.prog Rows.syntaxFormatPreservesTokensRow.laid W) (i : Nat) (hi : i < stmtT.length) :
  W.cell? ⟨1,2 * i,none⟩ = some (.string ⟨stmtT[i].1.toArray⟩) ∧ W.cell? ⟨1,2 * i + 1,none⟩ = some (.string ⟨stmtT[i].2.toArray⟩):=by
 have h1 := h.filter fun x => x.1 == "platformfw/syntax.statementForms"
 rw [show (Rows.syntaxFormatPreservesTokensRow.laid.filter fun x => x.1 == "platformfw/syntax.statementForms") = [("platformfw/syntax.statementForms", formData stmtT)] by kernel_rfl] at h1
 exact forms_of_head (rest := []) (name := "platformfw/syntax.statementForms") (t := 151) (e := 119) (tS := 9) (by kernel_rfl) (by kernel_rfl) Tryz.underlying151 Tryz.underlying119 (by kernel_rfl) Tryz.underlying9 (by kernel_rfl) rfl rfl rfl rfl rfl rfl h1 i hi
theorem laid_decl {W : World} (h : laidMetH Tryz.prog Rows.syntaxFormatPreservesTokensRow.laid W) (i : Nat) (hi : i < declT.length) :
  W.cell? ⟨0,2 * i,none⟩ = some (.string ⟨declT[i].1.toArray⟩) ∧ W.cell? ⟨0,2 * i + 1,none⟩ = some (.string ⟨declT[i].2.toArray⟩):=by
 have h1 := h.filter fun x => x.1 == "platformfw/syntax.declarationForms"
 rw [show (Rows.syntaxFormatPreservesTokensRow.laid.filter fun x => x.1 == "platformfw/syntax.declarationForms") = [("platformfw/syntax.declarationForms", formData declT)] by kernel_rfl] at h1
 exact forms_of_head (rest := []) (name := "platformfw/syntax.declarationForms") (t := 150) (e := 119) (tS := 9) (by kernel_rfl) (by kernel_rfl) Tryz.underlying150 Tryz.underlying119 (by kernel_rfl) Tryz.underlying9 (by kernel_rfl) rfl rfl rfl rfl rfl rfl h1 i hi
theorem laid_syn {W : World} {m : Int} (h : laidMetH Tryz.prog Rows.syntaxFormatPreservesTokensRow.laid W) (hm : W.cell? ⟨3,0,none⟩ = some (.int .i64 m)) : SynG m W :=
 ⟨hm,laid_expr h,laid_stmt h,laid_decl h⟩
theorem max_cell {W : World} (h : W.ShapedOpen Tryz.prog) : ∃ m,W.cell? ⟨3,0,none⟩ = some (.int .i64 m) :=
 Go.Proofs.cell_of_shapedOpen_int (zero:=#[.int .i64 0]) (t:=3) h (of_decide_eq_true (by kernel_rfl)) (by kernel_rfl) rfl (by kernel_rfl) (by kernel_rfl) Tryz.underlying3
theorem gTab : Tryz.prog.globalNamed "math/bits.deBruijn64tab" = some 7 := by kernel_rfl
theorem gTabType : (Tryz.prog.globals[7]?).map (·.type) = some 203:=by kernel_rfl
theorem cellsTab : Tryz.prog.cellsOf 203 = 64:=by kernel_rfl
theorem cellsT5' : Tryz.prog.cellsOf 5 = 1:=by kernel_rfl
def tab64 : List Int:=[0,1,56,2,57,49,28,3,61,58,42,50,38,29,17,4,62,47,59,36,45,43,51,22,53,39,33,30,24,18,12,5,63,55,48,27,60,41,37,16,46,35,44,21,52,32,23,11,54,26,40,15,34,20,31,10,25,14,19,9,13,8,7,6]
theorem laid_one : (Rows.syntaxFormatPreservesTokensRow.laid.filter fun x => x.1 == "math/bits.deBruijn64tab") = [("math/bits.deBruijn64tab", Lib.tabData .u8 tab64)] := by kernel_rfl
theorem laid_tz {W : World} (h : laidMetH Tryz.prog Rows.syntaxFormatPreservesTokensRow.laid W) : Tz16 W:=by
 have h1 := h.filter fun x => x.1 == "math/bits.deBruijn64tab"
 rw [laid_one] at h1
 have h2 : Lib.TabIs Tryz.prog W "math/bits.deBruijn64tab" .u8 tab64 := Lib.tabIs_of_head (rest := []) gTab gTabType Tryz.underlying203 Tryz.underlying5 cellsT5' cellsTab h1
 exact h2.cell gTab 15 (by decide)
end Go.Proofs.YtnicnfchkdmieaaGreatDoor
