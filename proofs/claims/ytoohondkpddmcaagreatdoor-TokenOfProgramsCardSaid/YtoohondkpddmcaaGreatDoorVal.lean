/- Tkp Tkq -/
import Derived.Test.YtoohondkpddmcaaGreatDoorVak
set_option linter.unusedVariables false
set_option linter.unusedSimpArgs false
namespace Go.Proofs.YtoohondkpddmcaaGreatDoor
section
open Go.RowKit
attribute [local go_sem] ByteArray.mk_append_mk bs_get bs_cut bs_end
theorem digit_letter {c : UInt8} (h : digitB c = true) : letterB c = false:=by
 unfold digitB at h
 unfold letterB
 rw [decide_eq_true_eq] at h
 rw [decide_eq_false_iff_not]
 omega
end
section
open Go.RowKit
theorem closeL_suffix : ∀ (d r : List UInt8),closeL d = some r → ∃ k,k ≤ d.length ∧ r = d.drop k
 | [],r,h => by cases h
 | c :: t,r,h => by
   unfold closeL at h
   split at h
   ·cases h
   ·next heq =>
    injection heq with h1 h2; subst h1 h2
    injection h with h; subst h
    exact ⟨2,by simp,rfl⟩
   ·next heq =>
    injection heq with h1 h2; subst h1 h2
    obtain ⟨k,hk,e⟩:=closeL_suffix _ r h
    exact ⟨k + 1,by simp; omega,by rw [e]; rfl⟩
theorem dropW_suffix : ∀ d : List UInt8,∃ k,k ≤ d.length ∧ d.dropWhile (· != 10) = d.drop k
 | [] => ⟨0,by simp,rfl⟩
 | c :: t => by
   rw [List.dropWhile_cons]
   split
   ·obtain ⟨k,hk,e⟩:=dropW_suffix t
    exact ⟨k + 1,by simp; omega,by rw [e]; rfl⟩
   ·exact ⟨0,by simp,rfl⟩
theorem skipF_suffix : ∀ (f : Nat) (d : List UInt8),∃ k,k ≤ d.length ∧ (skipF f d).1 = d.drop k
 | 0,d => ⟨0,by simp,rfl⟩
 | f + 1,d => by
   unfold skipF
   split
   ·exact ⟨0,by simp,rfl⟩
   ·next r =>
    obtain ⟨k1,hk1,e1⟩:=dropW_suffix (47 :: 47 :: r)
    obtain ⟨k2,hk2,e2⟩:=skipF_suffix f ((47 :: 47 :: r).dropWhile (· != 10))
    rw [e2]
    rw [e1] at hk2 ⊢
    rw [List.length_drop] at hk2
    exact ⟨k1 + k2,by omega,by rw [List.drop_drop]⟩
   ·next r =>
    split
    ·next t ht =>
     obtain ⟨k1,hk1,e1⟩:=closeL_suffix _ _ ht
     obtain ⟨k2,hk2,e2⟩:=skipF_suffix f t
     rw [e2]
     rw [e1] at hk2 ⊢
     rw [List.length_drop] at hk2
     exact ⟨2 + (k1 + k2),by simp; omega,by rw [show 2 + (k1 + k2) = k1 + k2 + 2 by omega,List.drop_drop]; rfl⟩
    ·exact ⟨0,by simp,rfl⟩
   ·next c r _ _ =>
    split
    ·obtain ⟨k2,hk2,e2⟩:=skipF_suffix f r
     exact ⟨k2 + 1,by simp; omega,by rw [e2]; rfl⟩
    ·exact ⟨0,by simp,rfl⟩
theorem skipL_suffix (d : List UInt8) : ∃ k,k ≤ d.length ∧ (skipL d).1 = d.drop k:=skipF_suffix _ d
theorem skip_place (s : List UInt8) (p : Nat) (hp : p ≤ s.length) : ∃ q,p ≤ q ∧ q ≤ s.length ∧ (skipL (s.drop p)).1 = s.drop q ∧ s.length - (skipL (s.drop p)).1.length = q:=by
 obtain ⟨k,hk,e⟩:=skipL_suffix (s.drop p)
 rw [List.length_drop] at hk
 refine ⟨p + k,by omega,by omega,by rw [e,List.drop_drop],?_⟩
 rw [e,List.drop_drop,List.length_drop]
 omega
theorem segsN_pos : ∀ (f : Nat) (r : List UInt8) (m : Nat),segsN f r = some m → 1 ≤ m
 | 0,_,_,h => by cases h
 | _ + 1,[],_,h => by cases h
 | f + 1,c :: r,m,h => by
   unfold segsN at h
   split at h
   ·cases h
   ·next hl =>
    have hw : 1 ≤ wordN (c :: r):=wordN_pos (by unfold idB; rw [Bool.not_eq_false] at hl; rw [hl] <;> rfl)
    split at h
    ·cases h
    ·split at h
     ·next t ht =>
      cases hs : segsN f t with
      | none => rw [hs] at h; cases h
      | some k =>
        rw [hs] at h
        simp only [Option.map_some,Option.some.injEq] at h
        omega
     ·injection h with h
      omega
theorem nameN_pos {s : List UInt8} {m : Nat} (h : nameN s = some m) : 1 ≤ m:=by
 unfold nameN at h
 split at h
 ·split at h
  ·injection h with h; omega
  ·cases h
 ·next c r hd =>
  split at h
  ·cases hs : segsN (c :: r).length (c :: r) with
   | none => rw [hs] at h; cases h
   | some k =>
     rw [hs] at h
     have:=segsN_pos _ _ k hs
     simp only [Option.map_some,Option.some.injEq] at h
     omega
  ·split at h
   ·injection h with h; omega
   ·cases h
theorem nameO_le {d : List UInt8} {x : Nat × Nat × List UInt8 × Nat} (h : nameO d = some x) : 1 ≤ x.2.2.2 ∧ x.2.2.2 ≤ d.length:=by
 unfold nameO at h
 cases hn : nameN d with
 | none => rw [hn] at h; cases h
 | some m =>
   rw [hn] at h
   injection h with h
   subst h
   exact ⟨nameN_pos hn,nameN_le hn⟩
theorem itemL_le {d : List UInt8} {x : Nat × Nat × List UInt8 × Nat} (h : itemL d = some x) : 1 ≤ x.2.2.2 ∧ x.2.2.2 ≤ d.length:=by
 cases d with
 | nil => cases h
 | cons c r =>
   have h':=itemL_at (s:=c :: r) (p:=0) (by simp)
   simp only [List.drop_zero,List.getElem_cons_zero,Nat.zero_add,List.drop_succ_cons] at h'
   rw [h'] at h
   clear h'
   split at h
   ·next hd =>
    cases hv : intV ((c :: r).take (wordN (c :: r))) with
    | none => rw [hv] at h; cases h
    | some v =>
      rw [hv] at h
      injection h with h
      subst h
      exact ⟨wordN_pos (by unfold idB; rw [hd]; simp),wordN_le _⟩
   ·split at h
    ·next hl =>
     split at h
     ·split at h
      ·injection h with h
       subst h
       exact ⟨wordN_pos (by unfold idB; rw [hl] <;> rfl),wordN_le _⟩
      ·cases h
     ·exact nameO_le h
    ·split at h
     ·exact nameO_le h
     ·split at h
      ·cases ht : textF r [] with
       | none => rw [ht] at h; cases h
       | some q =>
         rw [ht] at h
         injection h with h
         subst h
         have:=textF_le _ _ _ q.1 q.2 (Nat.le_refl _) ht
         simp only [List.length_cons]
         omega
      ·split at h
       ·cases h
       ·injection h with h
        subst h
        simp
theorem scanF_fuel (s : List UInt8) : ∀ (f g p : Nat) (acc : List Tok),p ≤ s.length → s.length + 1 ≤ f + p → s.length + 1 ≤ g + p → scanF s f p acc = scanF s g p acc
 | 0,_,p,_,hp,h,_ => absurd h (by omega)
 | _ + 1,0,p,_,hp,_,h => absurd h (by omega)
 | f + 1,g + 1,p,acc,hp,h1,h2 => by
   obtain ⟨q,hq1,hq2,e1,e2⟩:=skip_place s p hp
   unfold scanF
   rw [e2,e1]
   split
   ·rfl
   ·split
    ·rfl
    ·split
     ·rfl
     ·next k v t n hi =>
      have:=itemL_le hi
      rw [List.length_drop] at this
      simp only [] at this
      exact scanF_fuel s f g (q + n) _ (by omega) (by omega) (by omega)
def scanG (s : List UInt8) (p : Nat) (acc : List Tok) : List Tok × Nat × Nat:=scanF s (s.length + 1) p acc
theorem scanG_open {s : List UInt8} {p q : Nat} {acc : List Tok} (hq : s.length - (skipL (s.drop p)).1.length = q) (h : (skipL (s.drop p)).2 = false) : scanG s p acc = ([],q,2):=by
 unfold scanG
 rw [scanF,if_pos h,hq]
theorem scanG_done {s : List UInt8} {p : Nat} {acc : List Tok} (h : (skipL (s.drop p)).2 = true) (h1 : (skipL (s.drop p)).1 = []) : scanG s p acc = (acc,0,0):=by
 unfold scanG
 rw [scanF,if_neg (by rw [h]; decide),if_pos h1]
theorem scanG_bad {s : List UInt8} {p q : Nat} {acc : List Tok} (hq : s.length - (skipL (s.drop p)).1.length = q) (h : (skipL (s.drop p)).2 = true) (h0 : (skipL (s.drop p)).1 = s.drop q) (h1 : q < s.length) (h2 : itemL (s.drop q) = none) : scanG s p acc = ([],q,2):=by
 unfold scanG
 rw [scanF,if_neg (by rw [h]; decide),if_neg (by rw [h0]; intro e; have:=congrArg List.length e; rw [List.length_drop,List.length_nil] at this; omega),hq,h0,h2]
theorem scanG_next {s : List UInt8} {p q k v n : Nat} {t : List UInt8} {acc : List Tok} (hp : p ≤ q) (hq : s.length - (skipL (s.drop p)).1.length = q) (h : (skipL (s.drop p)).2 = true) (h0 : (skipL (s.drop p)).1 = s.drop q) (h1 : q < s.length) (h2 : itemL (s.drop q) = some (k,v,t,n)) : scanG s p acc = scanG s (q + n) (acc ++ [⟨k,v,t,q⟩]):=by
 have hn : 1 ≤ n ∧ n ≤ (s.drop q).length:=itemL_le h2
 rw [List.length_drop] at hn
 unfold scanG
 rw [scanF,if_neg (by rw [h]; decide),if_neg (by rw [h0]; intro e; have:=congrArg List.length e; rw [List.length_drop,List.length_nil] at this; omega),hq,h0,h2]
 exact scanF_fuel s _ _ _ _ (by omega) (by omega) (by omega)
theorem scanL_long {s : List UInt8} (h : 65536 < s.length) : scanL s = ([],0,11):=by unfold scanL; rw [if_pos h]
theorem scanL_go {s : List UInt8} (h : ¬ 65536 < s.length) : scanL s = scanG s 0 []:=by unfold scanL scanG; rw [if_neg h]
def tokCells : List Tok → List Value
 | [] => []
 | t :: r => .int .i64 t.kind :: .int .u64 t.num :: .string ⟨t.str.toArray⟩ :: .int .i64 t.pos :: tokCells r
theorem tokCells_app : ∀ l m : List Tok,tokCells (l ++ m) = tokCells l ++ tokCells m
 | [],m => rfl
 | t :: r,m => by rw [List.cons_append,tokCells,tokCells,tokCells_app r m]; rfl
theorem tokCells_at : ∀ (l : List Tok) (i : Nat) (h : i < l.length),(tokCells l)[i * 4]? = some (.int .i64 l[i].kind) ∧ (tokCells l)[i * 4 + 1]? = some (.int .u64 l[i].num) ∧ (tokCells l)[i * 4 + 2]? = some (.string ⟨l[i].str.toArray⟩) ∧ (tokCells l)[i * 4 + 3]? = some (.int .i64 l[i].pos)
 | t :: r,0,_ => ⟨rfl,rfl,rfl,rfl⟩
 | t :: r,i + 1,h => by
   have:=tokCells_at r i (by simpa using h)
   rw [show (i + 1) * 4 = i * 4 + 4 by omega]
   exact this
theorem infoTok : (Tryz.prog.info? 34).map (fun i => (i.zero,i.size,i.bytes)) = some (some (.agg #[.int .i64 0,.int .u64 0,.string ⟨#[]⟩,.int .i64 0]),4,40):=by kernel_rfl
def Toks (w : World) (B : Nat) (v : Value) (l : List Tok) : Prop:=w.ownsRow B 34 4 v l.length (tokCells l)
theorem Toks.nil (w : World) (B : Nat) : Toks w B (.slice none 0 0) []:=⟨rfl,.inl ⟨rfl,rfl⟩⟩
theorem Toks.below {w w' : World} {B : Nat} {v : Value} {l : List Tok} (h : Toks w B v l) (hb : Below w.heap.size w w') : Toks w' B v l:=own_below h hb
theorem Toks.base {w : World} {B B' : Nat} {v : Value} {l : List Tok} (h : Toks w B v l) (hB : B' ≤ B) : Toks w B' v l:=own_base h hB
theorem Toks.form {w : World} {B : Nat} {v : Value} {l : List Tok} (h : Toks w B v l) : ∃ a c,v = .slice a l.length c:=by
 rcases h.2 with ⟨rfl,h0⟩ | ⟨g,cap,cur,rfl,_⟩
 ·exact ⟨none,0,by rw [h0]⟩
 ·exact ⟨_,cap,rfl⟩
theorem Toks.kept {w w1 w2 : World} {B B0 : Nat} {v : Value} {l : List Tok} (ho : Toks w1 B v l) (h : Below B0 w w1) (hg : w1.grownBy w2 v.ownBlock) (hB : B0 ≤ w1.heap.size) (hB2 : B0 ≤ B) : Below B0 w w2 :=
 h.grown hg hB (fun k hk => Nat.le_trans hB2 (own_row ho hk))
theorem Toks.cells {w : World} {B : Nat} {a : Option Addr} {n c : Nat} {l : List Tok} (h : Toks w B (.slice a n c) l) (i : Nat) (hi : i < l.length) : ∃ b,a = some ⟨b,0,none⟩ ∧ B ≤ b ∧
  w.cell? ⟨b,i * 4,none⟩ = some (.int .i64 l[i].kind) ∧ w.cell? ⟨b,i * 4 + 1,none⟩ = some (.int .u64 l[i].num) ∧ w.cell? ⟨b,i * 4 + 2,none⟩ = some (.string ⟨l[i].str.toArray⟩) ∧ w.cell? ⟨b,i * 4 + 3,none⟩ = some (.int .i64 l[i].pos):=by
 obtain ⟨h1,h2⟩:=h
 rcases h2 with ⟨hv,h0⟩ | ⟨g,cap,cur,hv,hb,hg,hn,hm,hs,ht⟩
 ·omega
 ·injection hv with e1 e2 e3
  obtain ⟨k0,k1,k2,k3⟩:=tokCells_at l i hi
  rw [← ht] at k0 k1 k2 k3
  rw [List.getElem?_take,if_pos (by omega)] at k0 k1 k2 k3
  refine ⟨g,e1,hb,?_,?_,?_,?_⟩
  ·rw [cell_of_row w g _ cur _ (0,0) hg]; simpa using k0
  ·rw [cell_of_row w g _ cur _ (0,0) hg]; simpa using k1
  ·rw [cell_of_row w g _ cur _ (0,0) hg]; simpa using k2
  ·rw [cell_of_row w g _ cur _ (0,0) hg]; simpa using k3
theorem wpList_append_tok {w : World} {ops : Array Oper} {rest : List Oper} {o : Oper} {a : Act} {Q : Exit → Act → World → Prop} (hgd : o.guard = none) (s x : Operand)
  (ho : o.op = .call { callee:=.builtin .append,args:=#[s,x],argTypes:=#[26,26] })
  (B : Nat) (v : Value) (l : List Tok) (hs : a.eval s = v) (hown : Toks w B v l) (g : Nat) (t : Tok)
  (hx : a.eval x = .slice (some ⟨g,0,none⟩) 1 1) (hb : w.heap[g]? = some (.cells #[.int .i64 t.kind,.int .u64 t.num,.string ⟨t.str.toArray⟩,.int .i64 t.pos] 34 (0,0))) (hlen : l.length ≤ 1000000) (hB : B ≤ w.heap.size)
  (h : ∀ v' w',Toks w' B v' (l ++ [t]) → w.grownBy w' v.ownBlock → wpList Tryz.prog ops Q rest (a.put o.dst v') w') : wpList Tryz.prog ops Q (o :: rest) a w:=by
 obtain ⟨i0,hi,hz0,hz1,hz2⟩:=info_parts infoTok
 obtain ⟨c0,c1,c2,c3⟩:=cells4 hb
 refine wpList_append_own _ hgd s x _ ho B 34 i0 _ 4 40 Tryz.underlying26 hi hz0 hz1 hz2 rfl (by decide) v l.length _ hs hown ⟨g,0,none⟩ 1 1 (tokCells [t]) hx rfl ?_ ?_ (by unfold maxLen; omega) (by omega) hB ?_
 ·intro j z hj
  match j,hj with
  | 0,hj => cases hj; exact c0
  | 1,hj => cases hj; exact c1
  | 2,hj => cases hj; exact c2
  | 3,hj => cases hj; exact c3
 ·intro z hz
  simp only [tokCells,List.mem_cons,List.not_mem_nil,or_false] at hz
  rcases hz with rfl | rfl | rfl | rfl <;> rfl
 ·intro v' w' h1 h2 _
  refine h v' w' ?_ h2
  unfold Toks
  rw [List.length_append,tokCells_app]
  exact h1
end
end Go.Proofs.YtoohondkpddmcaaGreatDoor
