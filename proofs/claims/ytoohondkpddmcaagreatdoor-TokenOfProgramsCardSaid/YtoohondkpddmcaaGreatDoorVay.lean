/- Sp -/
import Derived.Test.YtoohondkpddmcaaGreatDoorVax
set_option linter.unusedVariables false
set_option linter.unusedSimpArgs false
namespace Go.Proofs.YtoohondkpddmcaaGreatDoor
open Go.RowKit
attribute [local go_sem] ByteArray.mk_append_mk bs_get bs_cut bs_end
def TokOk (t : Tok) : Prop:=t.str.length ≤ 65536 ∧ (t.kind = 2 → t.str ≠ [])
theorem scanF_ok (s : List UInt8) (hs : s.length ≤ 65536) : ∀ (f p : Nat) (acc : List Tok),p ≤ s.length → (∀ t ∈ acc,TokOk t) → ∀ t ∈ (scanF s f p acc).1,TokOk t
 | 0,p,acc,hp,h => by rw [scanF]; exact h
 | f + 1,p,acc,hp,h => by
   obtain ⟨q,hq1,hq2,e1,e2⟩:=skip_place s p hp
   unfold scanF
   rw [e2,e1]
   split
   ·intro t ht; cases ht
   ·split
    ·exact h
    ·split
     ·intro t ht; cases ht
     ·next k v t n hi =>
      have hn : 1 ≤ n ∧ n ≤ (s.drop q).length:=itemL_le hi
      obtain ⟨g1,g2⟩:=item_good hi
      rw [List.length_drop] at hn g1
      refine scanF_ok s hs f (q + n) _ (by omega) (fun x hx => ?_)
      rcases List.mem_append.1 hx with hx | hx
      ·exact h x hx
      ·simp only [List.mem_cons,List.not_mem_nil,or_false] at hx
       subst hx
       exact ⟨by show t.length ≤ 65536; omega,g2⟩
theorem scanL_ok (s : List UInt8) : ∀ t ∈ (scanL s).1,TokOk t:=by
 unfold scanL
 split
 ·intro t ht; cases ht
 ·exact scanF_ok s (by omega) _ 0 [] (by omega) (fun t ht => by cases ht)
def NdsOk (l : List Nd) : Prop:=∀ t ∈ l,t.str.length ≤ 4000000000 ∧ 0 ≤ t.num
theorem NdsOk.cons {a : List Nd} {n : Nd} (hn : n.str.length ≤ 4000000000 ∧ 0 ≤ n.num) (h : NdsOk a) : NdsOk (n :: a):=fun t ht => by
 rcases List.mem_cons.1 ht with rfl | ht
 ·exact hn
 ·exact h t ht
theorem NdsOk.tail {a : List Nd} (h : NdsOk a) : NdsOk a.tail:=fun t ht => h t (List.mem_of_mem_tail ht)
theorem NdsOk.nil : NdsOk []:=fun t ht => by cases ht
def NG (x : PR) : Prop:=match x with
 | .no _ => True
 | .ok r ns => NdsOk r ∧ NdsOk ns
section
variable {sub : UInt8 → List TokI → PR} (hs : ∀ k r,NdsOk r → NG (sub k r))
include hs
end
end Go.Proofs.YtoohondkpddmcaaGreatDoor
