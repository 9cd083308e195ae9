/- Fh -/
import Derived.Test.YtnicnfchkdmieaaGreatDoorXay
import Derived.Test.YtnicnfchkdmieaaGreatDoorXba
set_option linter.unusedVariables false
set_option linter.unusedSimpArgs false
namespace Go.Proofs.YtnicnfchkdmieaaGreatDoor
open Go.RowKit
def TV (t : TokI) : Prop:=OkT t ∧ t.str.length ≤ 65536
theorem itT_num {t : TokI} (h : OkT t) : (itT t).2.1 ≤ 18446744073709551615:=by
 obtain ⟨ht,h0,h1⟩:=h
 obtain ⟨k,n,s,p⟩:=t
 simp only at h0 h1
 have key : ∀ k' v str len,itemL (fmtT ⟨k,n,s,p⟩) = some (k',v,str,len) → v ≤ 18446744073709551615 → (itT ⟨k,n,s,p⟩).2.1 ≤ 18446744073709551615:=by
  intro k' v str len h hv
  unfold itT
  rw [h]
  exact hv
 unfold validT at ht
 simp only at ht
 by_cases e1 : k = 1
 ·subst e1; have hs : nmB s = true:=by simpa using ht
  unfold fmtT at key; exact key 1 0 s s.length (name_item hs).1 (by omega)
 rw [if_neg e1] at ht
 by_cases e2 : k = 2
 ·subst e2; have hs : kwB s = true:=by simpa using ht
  unfold fmtT at key; exact key 2 0 s s.length (word_item hs).1 (by omega)
 rw [if_neg e2] at ht
 by_cases e4 : k = 4
 ·subst e4; exact key 4 0 s _ (quo_item (by simpa using ht)).1 (by omega)
 rw [if_neg e4,decide_eq_true_eq] at ht
 by_cases e3 : k = 3
 ·subst e3
  obtain ⟨N,rfl⟩:=Int.eq_ofNat_of_zero_le h0
  refine key 3 N [] (fmtI N).length ?_ (by omega)
  have:=(fmtI_item N (by omega)).1
  unfold fmtT
  simp only [Int.toNat_natCast]
  exact this
 rcases (by omega : k = 5 ∨ k = 6 ∨ k = 7 ∨ k = 8 ∨ k = 9) with rfl | rfl | rfl | rfl | rfl
 ·exact key 5 0 [] 1 rfl (by omega)
 ·exact key 6 0 [] 1 rfl (by omega)
 ·exact key 7 0 [] 1 rfl (by omega)
 ·exact key 8 0 [] 1 rfl (by omega)
 ·exact key 9 0 [] 1 rfl (by omega)
theorem okT_bare {t u : TokI} (h : bareT t = bareT u) (hu : OkT u) (h0 : 0 ≤ t.num ∧ t.num ≤ 18446744073709551615) : OkT t:=by
 refine ⟨?_,h0⟩
 have hk:=bare_kind h
 have hv:=hu.1
 unfold validT at hv ⊢
 rw [hk]
 by_cases h3 : u.kind = 1 ∨ u.kind = 2 ∨ u.kind = 4
 ·rw [bare_str h h3]; exact hv
 ·rw [if_neg (by omega),if_neg (by omega),if_neg (by omega)] at hv ⊢
  exact hv
theorem toksP_ok : ∀ (L : PT) (p : Nat),(∀ x ∈ L,OkT x.2) → ∀ t ∈ (toksP p L).map Tok.toI,OkT t
 | [],p,h,t,ht => by cases ht
 | x :: r,p,h,t,ht => by
   rw [toksP,List.map_cons] at ht
   rcases List.mem_cons.1 ht with rfl | ht
   ·have hx:=h x (by simp)
    refine okT_bare ((itT_is hx.1 hx.2.1 hx.2.2).2.2 _) hx ⟨?_,?_⟩
    ·show (0 : Int) ≤ (((itT x.2).2.1 : Nat) : Int); omega
    ·show (((itT x.2).2.1 : Nat) : Int) ≤ _
     have:=itT_num hx
     omega
   ·exact toksP_ok r _ (fun y hy => h y (by simp [hy])) t ht
theorem scan_tv (p : List Nd) (hp : NumsOk p) (hv : validL p = true) : ∀ t ∈ (scanL (fmtP p)).1.map Tok.toI,TV t:=by
 intro t ht
 have h2 : t.str.length ≤ 65536:=by
  obtain ⟨x,hx,rfl⟩:=List.mem_map.1 ht
  exact (scanL_ok (fmtP p) x hx).1
 refine ⟨?_,h2⟩
 by_cases hl : (fmtP p).length ≤ 65536
 ·rw [fmt_scan p hp hv hl] at ht
  exact toksP_ok _ 0 (top_ok p hp hv) t ht
 ·unfold scanL at ht
  rw [if_pos (by omega)] at ht
  cases ht
end Go.Proofs.YtnicnfchkdmieaaGreatDoor
