/- Se Sf Sg Sh Si Sj Sk Sl -/
import Derived.Test.YtoohondkpddmcaaGreatDoorVau
set_option linter.unusedVariables false
set_option linter.unusedSimpArgs false
namespace Go.Proofs.YtoohondkpddmcaaGreatDoor
section
open Go.RowKit
attribute [local go_sem] ByteArray.mk_append_mk bs_get bs_cut bs_end
theorem byte_int (k c : UInt8) : ((k.toNat : Int) == (c.toNat : Int)) = (k == c):=(byte_eq k c).trans (by rw [Bool.eq_iff_iff,beq_iff_eq,beq_iff_eq]; exact eq_comm)
end
section
open Go.RowKit
attribute [local go_sem] ByteArray.mk_append_mk bs_get bs_cut bs_end
end
section
open Go.RowKit
attribute [local go_sem] ByteArray.mk_append_mk bs_get bs_cut bs_end
end
section
open Go.RowKit
attribute [local go_sem] ByteArray.mk_append_mk bs_get bs_cut bs_end
end
section
open Go.RowKit
attribute [local go_sem] ByteArray.mk_append_mk bs_get bs_cut bs_end
section
variable (sub : UInt8 → List TokI → PR)
end
end
section
open Go.RowKit
attribute [local go_sem] ByteArray.mk_append_mk bs_get bs_cut bs_end
theorem parSegs_len {s : List UInt8} (h : parOk s = true) : (parSegs s).length ≤ 32:=by
 have:=validB_is h
 omega
theorem own_strs_form {w : World} {B : Nat} {v : Value} {l : List (List UInt8)} (h : w.ownsRow B 9 1 v l.length (l.map strV)) : ∃ a c,v = .slice a l.length c:=by
 rcases h.2 with ⟨rfl,h0⟩ | ⟨g,cap,cur,rfl,_⟩
 ·exact ⟨none,0,by rw [h0]⟩
 ·exact ⟨_,cap,rfl⟩
end
section
open Go.RowKit
attribute [local go_sem] ByteArray.mk_append_mk bs_get bs_cut bs_end
theorem run_kids (a b : ByteArray) (w : World) : (Instr.field 190 (.agg #[.string a,.string b]) 1).run Tryz.prog w = .ok (.string b) w:=by
 kernel_rfl
attribute [local go_sem] run_kids
end
section
open Go.RowKit
attribute [local go_sem] ByteArray.mk_append_mk bs_get bs_cut bs_end
end
end Go.Proofs.YtoohondkpddmcaaGreatDoor
