/- Sn So -/
import Derived.Test.YtoohondkpddmcaaGreatDoorVaw
set_option linter.unusedVariables false
set_option linter.unusedSimpArgs false
namespace Go.Proofs.YtoohondkpddmcaaGreatDoor
section
open Go.RowKit
attribute [local go_sem] ByteArray.mk_append_mk bs_get bs_cut bs_end
def NSl (w : World) (v : Value) (l : List Nd) : Prop :=
 (∃ (a : Option Addr) (cap : Nat),v = .slice a l.length cap ∧ (l ≠ [] → ∃ b off,a = some ⟨b,off,none⟩ ∧ ∀ i (h : i < l.length),TAt w b (off + i * 4) l[i])) ∧ ∀ t ∈ l,t.str.length ≤ 4000000000 ∧ 0 ≤ t.num
theorem TAt.below {w w' : World} {b off : Nat} {t : TokI} (h : TAt w b off t) (hb : Below w.heap.size w w') : TAt w' b off t :=
 h.belowB hb (World.block_lt_of_cell? w ⟨b,off,none⟩ h.1)
theorem NSl.below {w w' : World} {v : Value} {l : List Nd} (h : NSl w v l) (hb : Below w.heap.size w w') : NSl w' v l:=by
 obtain ⟨⟨a,cap,hv,hc⟩,hs⟩:=h
 refine ⟨⟨a,cap,hv,fun hn => ?_⟩,hs⟩
 obtain ⟨b,off,ha,hk⟩:=hc hn
 exact ⟨b,off,ha,fun i hi => (hk i hi).below hb⟩
theorem NodesI.sl {w : World} {B : Nat} {v : Value} {l : List Nd} (h : NodesI w B v l) (hs : ∀ t ∈ l,t.str.length ≤ 4000000000 ∧ 0 ≤ t.num) : NSl w v l:=by
 obtain ⟨a,c,rfl⟩:=h.form
 refine ⟨⟨a,c,rfl,fun hn => ?_⟩,hs⟩
 rcases h.2 with ⟨hv,h0⟩ | ⟨g,cap,cur,hv,hb,hg,hn2,hm,hs2,ht⟩
 ·exact absurd (List.eq_nil_of_length_eq_zero h0) hn
 ·injection hv with e1 e2 e3
  refine ⟨g,0,e1,fun i hi => ?_⟩
  obtain ⟨k0,k1,k2,k3⟩:=tcI_at l i hi
  rw [← ht] at k0 k1 k2 k3
  rw [List.getElem?_take,if_pos (by omega)] at k0 k1 k2 k3
  rw [Nat.zero_add]
  refine ⟨?_,?_,?_,?_⟩
  ·rw [cell_of_row w g _ cur _ (0,0) hg]; simpa using k0
  ·rw [cell_of_row w g _ cur _ (0,0) hg]; simpa using k1
  ·rw [cell_of_row w g _ cur _ (0,0) hg]; simpa using k2
  ·rw [cell_of_row w g _ cur _ (0,0) hg]; simpa using k3
theorem vnone (p : List Nd) (d : Nat) (b : Bool) (kd : UInt8) (i : Nat) (h : p.length ≤ i) : vAny p d b kd i = none:=by
 cases d with
 | zero => rfl
 | succ d => cases b <;> (rw [vAny,List.getElem?_eq_none h])
end
section
open Go.RowKit
attribute [local go_sem] ByteArray.mk_append_mk bs_get bs_cut bs_end
theorem textF_255 (s v x r : List UInt8) (h : textF s v = some (x,r)) : x.length ≤ 255:=by
 fun_induction textF s v
 all_goals first
  | (cases h; done)
  | (rename_i ih; exact ih h)
  | (injection h with h; injection h with h1 h2; rw [← h1]; omega)
theorem item_good {d t : List UInt8} {k v n : Nat} (h : itemL d = some (k,v,t,n)) : (t.length ≤ d.length ∨ t.length ≤ 255) ∧ (k = 2 → t ≠ []):=by
 cases d with
 | nil => cases h
 | cons c r =>
   rw [itemL] at h
   split at h
   ·obtain ⟨z,hz,e⟩:=Option.map_eq_some_iff.1 h
    injection e with e1 e2; injection e2 with e2 e3; injection e3 with e3 e4
    subst e1 e3
    exact ⟨.inl (by simp),fun h => by cases h⟩
   rename_i hd
   split at h
   ·rename_i hlt
    split at h
    ·split at h
     ·injection h with e
      injection e with e1 e2; injection e2 with e2 e3; injection e3 with e3 e4
      subst e1 e3
      refine ⟨.inl (by rw [List.length_take]; omega),fun _ hn => ?_⟩
      have : 1 ≤ wordN (c :: r):=wordN_pos (by unfold idB; rw [hlt] <;> rfl)
      rw [List.take_eq_nil_iff] at hn
      rcases hn with hn | hn
      ·omega
      ·cases hn
     ·cases h
    ·obtain ⟨z,hz,e⟩:=Option.map_eq_some_iff.1 h
     injection e with e1 e2; injection e2 with e2 e3; injection e3 with e3 e4
     subst e1 e3
     exact ⟨.inl (by rw [List.length_take]; omega),fun h => by cases h⟩
   split at h
   ·obtain ⟨z,hz,e⟩:=Option.map_eq_some_iff.1 h
    injection e with e1 e2; injection e2 with e2 e3; injection e3 with e3 e4
    subst e1 e3
    exact ⟨.inl (by rw [List.length_take]; omega),fun h => by cases h⟩
   split at h
   ·obtain ⟨⟨x,y⟩,hz,e⟩:=Option.map_eq_some_iff.1 h
    injection e with e1 e2; injection e2 with e2 e3; injection e3 with e3 e4
    subst e1 e3
    exact ⟨.inr (textF_255 _ _ _ _ hz),fun h => by cases h⟩
   split at h
   ·cases h
   ·injection h with e
    injection e with e1 e2; injection e2 with e2 e3; injection e3 with e3 e4
    subst e3
    refine ⟨.inl (by simp),fun h => ?_⟩
    rw [← e1] at h
    have h9 : punctK c ≠ 2:=by
     unfold punctK
     repeat' split
     all_goals decide
    exact absurd h h9
end
end Go.Proofs.YtoohondkpddmcaaGreatDoor
