/- Fd -/
import Derived.Test.YtoohondkpddmcaaGreatDoorVau
import Derived.Test.YtoohondkpddmcaaGreatDoorVay
set_option linter.unusedVariables false
set_option linter.unusedSimpArgs false
namespace Go.Proofs.YtoohondkpddmcaaGreatDoor
open Go.RowKit
def BM (T : List TokI) (L : PT) : Prop:=T.map bareT = L.map fun x => bareT x.2
theorem BM.cons {T : List TokI} {x : List UInt8 × TokI} {B : PT} (h : BM T (x :: B)) : ∃ t T',T = t :: T' ∧ bareT t = bareT x.2 ∧ BM T' B:=by
 cases T with
 | nil => cases h
 | cons t T' =>
   unfold BM at h
   rw [List.map_cons,List.map_cons] at h
   injection h with h1 h2
   exact ⟨t,T',rfl,h1,h2⟩
theorem BM.nil {T : List TokI} (h : BM T []) : T = []:=by
 cases T with
 | nil => rfl
 | cons t T' => cases h
theorem BM.one {T : List TokI} {x : List UInt8 × TokI} (h : BM T [x]) : ∃ t,T = [t] ∧ bareT t = bareT x.2:=by
 obtain ⟨t,T',rfl,h1,h2⟩:=h.cons
 exact ⟨t,by rw [h2.nil],h1⟩
theorem bareT_kind (t : TokI) : (bareT t).kind = t.kind:=by
 unfold bareT
 split
 ·rfl
 ·split <;> rfl
theorem bare_kind {t u : TokI} (h : bareT t = bareT u) : t.kind = u.kind:=by
 have:=congrArg TokI.kind h
 rwa [bareT_kind,bareT_kind] at this
theorem bare_str {t u : TokI} (h : bareT t = bareT u) (hk : u.kind = 1 ∨ u.kind = 2 ∨ u.kind = 4) : t.str = u.str:=by
 have hk' : t.kind = 1 ∨ t.kind = 2 ∨ t.kind = 4:=by rw [bare_kind h]; exact hk
 unfold bareT at h
 rw [if_pos hk,if_pos hk'] at h
 injection h
theorem bare_num {t u : TokI} (h : bareT t = bareT u) (hk : u.kind = 3) : t.num = u.num:=by
 have hk' : t.kind = 3:=by rw [bare_kind h]; exact hk
 have h1 : bareT t = ⟨t.kind,t.num,[],0⟩:=by unfold bareT; rw [if_neg (by omega),if_pos hk']
 have h2 : bareT u = ⟨u.kind,u.num,[],0⟩:=by unfold bareT; rw [if_neg (by omega),if_pos hk]
 rw [h1,h2] at h
 injection h
section
variable (p : List Nd) (d : Nat)
end
end Go.Proofs.YtoohondkpddmcaaGreatDoor
