/- Tkh Byt Tki -/
import Derived.Test.YtoohondkpddmcaaGreatDoorVae
import Derived.Test.YtoohondkpddmcaaGreatDoorVaa
set_option linter.unusedVariables false
set_option linter.unusedSimpArgs false
namespace Go.Proofs.YtoohondkpddmcaaGreatDoor
section
open Go.RowKit
attribute [local go_sem] ByteArray.mk_append_mk bs_get bs_cut bs_end
end
section
open Go.RowKit
attribute [local go_sem] ByteArray.mk_append_mk bs_get bs_cut bs_end
theorem by_conv1 (w : World) (x : Int) : Sem.run Tryz.prog (convert 48 9 (.slice (some ⟨w.heap.size,0,none⟩) 1 1)) (w.alloc (.cells #[.int .u8 x] 5)) = .ok (.string ⟨[UInt8.ofNat x.toNat].toArray⟩) (w.alloc (.cells #[.int .u8 x] 5)):=by
 rw [run_convert_bytes_string _ 48 9 5 _ _ _ Tryz.underlying48 Tryz.underlying5 Tryz.underlying9]
 rw [run_bytesToString _ _ 1 1 [x] (by simp [loadCells,go_sem])]
 rfl
theorem by_info : (Tryz.prog.info? 5).map (fun i => (i.zero,i.size,i.bytes)) = some (some (.int .u8 0),1,1):=by kernel_rfl
def byV (l : List UInt8) : List Value:=l.map fun b => .int .u8 b.toNat
theorem byV_len (l : List UInt8) : (byV l).length = l.length:=by unfold byV; exact List.length_map _
theorem by_conv (w : World) (a : Addr) (n c : Nat) (l : List UInt8) (hn : l.length = n) (h : ∀ j v,(byV l)[j]? = some v → w.cell? (a.add j) = some v) :
  Sem.run Tryz.prog (convert 48 9 (.slice (some a) n c)) w = .ok (.string ⟨l.toArray⟩) w:=by
 rw [run_convert_bytes_string _ 48 9 5 _ _ _ Tryz.underlying48 Tryz.underlying5 Tryz.underlying9]
 have hl:=run_loadCells_list (P:=Tryz.prog) w a ((l.map (fun b => (b.toNat : Int))).map (Value.int .u8)) (by
  intro j v hj; apply h; simpa [byV,List.map_map] using hj)
 rw [List.length_map,List.length_map,hn] at hl
 rw [run_bytesToString _ _ n c _ hl]
 have key : ∀ (l : List UInt8) (r : ByteArray),(l.map (fun b => (b.toNat : Int))).foldl (fun r n => r.push (UInt8.ofNat n.toNat)) r = r ++ ⟨l.toArray⟩:=by
  intro l
  induction l with
  | nil => intro r; simp; apply ByteArray.ext; simp [ByteArray.data_append]
  | cons x l ih =>
    intro r
    simp only [List.map_cons,List.foldl_cons,ih]
    apply ByteArray.ext
    simp [ByteArray.data_append,ByteArray.data_push]
 rw [key]
 congr 2
theorem by_convNil (w : World) : Sem.run Tryz.prog (convert 48 9 (.slice none 0 0)) w = .ok (.string ⟨([] : List UInt8).toArray⟩) w:=by kernel_rfl
def Bytes (w : World) (B : Nat) (v : Value) (l : List UInt8) : Prop:=w.ownsRow B 5 1 v l.length (byV l)
theorem Bytes.nil (w : World) (B : Nat) : Bytes w B (.slice none 0 0) []:=⟨rfl,.inl ⟨rfl,rfl⟩⟩
theorem Bytes.form {w : World} {B : Nat} {v : Value} {l : List UInt8} (h : Bytes w B v l) : ∃ a c,v = .slice a l.length c:=by
 rcases h.2 with ⟨rfl,h0⟩ | ⟨g,cap,cur,rfl,_⟩
 ·exact ⟨none,0,by rw [h0]⟩
 ·exact ⟨_,cap,rfl⟩
theorem Bytes.conv {w : World} {B : Nat} {v : Value} {l : List UInt8} (h : Bytes w B v l) : Sem.run Tryz.prog (convert 48 9 v) w = .ok (.string ⟨l.toArray⟩) w:=by
 have ho : w.ownsRow B 5 1 v l.length (byV l):=h
 rcases h.2 with ⟨rfl,h0⟩ | ⟨g,cap,cur,rfl,_⟩
 ·have : l = []:=List.eq_nil_of_length_eq_zero h0
  subst this
  exact by_convNil w
 ·refine by_conv w _ _ _ l rfl fun j u hj => ?_
  have hlt : j < l.length:=by
   have:=(List.getElem?_eq_some_iff.1 hj).1
   rwa [byV_len] at this
  have h1:=ho.cellAt j (by omega)
  rw [hj] at h1
  by_cases h0 : j = 0
  ·subst h0; simpa [Addr.add] using h1
  ·simpa [Addr.add,h0] using h1
theorem Bytes.below {w w' : World} {B : Nat} {v : Value} {l : List UInt8} (h : Bytes w B v l) (hb : Below w.heap.size w w') : Bytes w' B v l:=own_below h hb
theorem wpList_append_byte {w : World} {ops : Array Oper} {rest : List Oper} {o : Oper} {a : Act} {Q : Exit → Act → World → Prop} (hgd : o.guard = none) (s x : Operand)
  (ho : o.op = .call { callee:=.builtin .append,args:=#[s,x],argTypes:=#[48,48] })
  (B : Nat) (v : Value) (l : List UInt8) (hs : a.eval s = v) (hown : Bytes w B v l) (c : UInt8) (g : Nat)
  (hx : a.eval x = .slice (some ⟨g,0,none⟩) 1 1) (hb : w.heap[g]? = some (.cells #[.int .u8 c.toNat] 5 (0,0))) (hlen : l.length ≤ 1000000) (hB : B ≤ w.heap.size)
  (h : ∀ v' w',Bytes w' B v' (l ++ [c]) → w.grownBy w' v.ownBlock → wpList Tryz.prog ops Q rest (a.put o.dst v') w') : wpList Tryz.prog ops Q (o :: rest) a w:=by
 obtain ⟨i0,hi,hz0,hz1,hz2⟩:=info_parts by_info
 refine wpList_append_own _ hgd s x _ ho B 5 i0 (.int .u8 0) 1 1 Tryz.underlying48 hi hz0 hz1 hz2 rfl (by decide) v l.length _ hs hown ⟨g,0,none⟩ 1 1 [.int .u8 c.toNat] hx rfl ?_ ?_ (by unfold maxLen; omega) (by omega) hB ?_
 ·intro j z hj
  match j,hj with
  | 0,hj => cases hj; exact (cell_of_row w _ 0 _ _ _ hb).trans rfl
 ·intro z hz
  simp only [List.mem_cons,List.not_mem_nil,or_false] at hz
  subst hz; rfl
 ·intro v' w' h1 h2 _
  refine h v' w' ?_ h2
  unfold Bytes
  rw [List.length_append]
  rw [show byV (l ++ [c]) = byV l ++ [.int .u8 c.toNat] from List.map_append]
  exact h1
theorem Bytes.kept {w w1 w2 : World} {B B0 : Nat} {v : Value} {l : List UInt8} (ho : Bytes w1 B v l) (h : Below B0 w w1) (hg : w1.grownBy w2 v.ownBlock) (hB : B0 ≤ w1.heap.size) (hB2 : B0 ≤ B) : Below B0 w w2 :=
 h.grown hg hB (fun k hk => Nat.le_trans hB2 (own_row ho hk))
def BArg (w : World) (v : Value) (l : List UInt8) : Prop :=
 ∃ (a : Option Addr) (cap : Nat),v = .slice a l.length cap ∧ l.length ≤ 140737488351232 ∧ (l ≠ [] → ∃ b off,a = some ⟨b,off,none⟩ ∧ ∀ k (h : k < l.length),w.cell? ⟨b,off + k,none⟩ = some (.int .u8 l[k].toNat))
theorem BArg.below {w w' : World} {v : Value} {l : List UInt8} (h : BArg w v l) (hb : Below w.heap.size w w') : BArg w' v l:=by
 obtain ⟨a,cap,hv,hl,hc⟩:=h
 refine ⟨a,cap,hv,hl,fun hn => ?_⟩
 obtain ⟨b,off,ha,hk⟩:=hc hn
 have hp : 0 < l.length:=List.length_pos_iff.2 hn
 have hlt : b < w.heap.size:=World.block_lt_of_cell? w ⟨b,off + 0,none⟩ (hk 0 hp)
 refine ⟨b,off,ha,fun k h => ?_⟩
 rw [hb.cell (p:=⟨b,off + k,none⟩) hlt]
 exact hk k h
end
section
open Go.RowKit
attribute [local go_sem] ByteArray.mk_append_mk bs_get bs_cut bs_end
def escL : List UInt8 → Option (UInt8 × Nat)
 | _ :: 34 :: _ => some (34,2)
 | _ :: 92 :: _ => some (92,2)
 | _ :: 120 :: h :: l :: _ => match hexV h,hexV l with
   | some a,some b => some (UInt8.ofNat (a * 16 + b),4)
   | _,_ => none
 | _ => none
theorem textF_esc (r v : List UInt8) : textF (92 :: r) v = match escL (92 :: r) with
  | some (b,n) => textF ((92 :: r).drop n) (v ++ [b])
  | none => none:=by
 generalize hE : escL (92 :: r) = E
 unfold escL at hE
 split at hE
 ·next heq => injection heq with _ h; subst h hE; rw [textF]; rfl
 ·next heq => injection heq with _ h; subst h hE; rw [textF]; rfl
 ·next h l t heq =>
  injection heq with _ h'; subst h' hE
  rw [textF]
  cases hexV h with
  | none => rfl
  | some x => cases hexV l with
    | none => rfl
    | some y => rfl
 ·next h1 h2 h3 =>
  subst hE
  rw [textF]
  ·intro t h; subst h; exact h1 _ _ rfl
  ·intro t h; subst h; exact h2 _ _ rfl
  ·intro a b t h; subst h; exact h3 _ _ _ _ rfl
theorem textF_plain {c : UInt8} {r v : List UInt8} (h1 : c ≠ 34) (h2 : c ≠ 92) : textF (c :: r) v = if 32 ≤ c.toNat ∧ c.toNat ≤ 126 then textF r (v ++ [c]) else none:=by
 rw [textF]
 ·intro h; exact h1 h
 all_goals (intros; simp_all)
theorem textF_quote (r v : List UInt8) : textF (34 :: r) v = if 255 < v.length then none else some (v,r):=by rw [textF]
theorem textF_long : ∀ (n : Nat) (s v : List UInt8),s.length ≤ n → 255 < v.length → textF s v = none
 | 0,s,v,hs,hv => by
   have : s = []:=List.eq_nil_of_length_eq_zero (by omega)
   subst this; rfl
 | n + 1,[],v,hs,hv => rfl
 | n + 1,c :: r,v,hs,hv => by
   simp only [List.length_cons] at hs
   by_cases h1 : c = 34
   ·subst h1; rw [textF_quote,if_pos hv]
   ·by_cases h2 : c = 92
    ·subst h2
     rw [textF_esc]
     split
     ·next b m he =>
      have hm : 1 ≤ m:=by
       unfold escL at he
       split at he
       ·injection he with he; injection he with _ he; omega
       ·injection he with he; injection he with _ he; omega
       ·split at he
        ·injection he with he; injection he with _ he; omega
        ·cases he
       ·cases he
      exact textF_long n _ _ (by rw [List.length_drop,List.length_cons]; omega) (by rw [List.length_append]; omega)
     ·rfl
    ·rw [textF_plain h1 h2]
     split
     ·exact textF_long n _ _ (by omega) (by rw [List.length_append]; omega)
     ·rfl
def EscPost (o : Option (UInt8 × Nat)) (w : World) (e : Ending) (w' : World) : Prop:=(∃ (b : UInt8) (n : Nat),e = .returned (.tuple #[.int .u8 b.toNat,.int .i64 n,.bool o.isSome]) ∧ ∀ x,o = some x → x = (b,n)) ∧ w = w'
theorem or16b (a b : Nat) (ha : a < 16) (hb : b < 16) : bits .or .u8 ((a : Int) * 16) (b : Int) = ((UInt8.ofNat (a * 16 + b)).toNat : Int):=by
 have : ∀ a : Fin 16,∀ b : Fin 16,bits .or .u8 (((a : Nat) : Int) * 16) ((b : Nat) : Int) = ((UInt8.ofNat ((a : Nat) * 16 + (b : Nat))).toNat : Int):=by decide +kernel
 exact this ⟨a,ha⟩ ⟨b,hb⟩
theorem byte_cases (b d : UInt8) (n : Int) (hn : (d.toNat : Int) = n) : (b = d ∧ ((b.toNat : Int) == n) = true) ∨ (b ≠ d ∧ ((b.toNat : Int) == n) = false):=by
 subst hn
 by_cases h : b = d
 ·left; subst h; exact ⟨rfl,by simp⟩
 ·right; exact ⟨h,by rw [byte_eq,beq_eq_false_iff_ne]; exact fun h' => h h'.symm⟩
def escP (o1 o2 : Option Nat) : Option (UInt8 × Nat):=match o1,o2 with
 | some x,some y => some (UInt8.ofNat (x * 16 + y),4)
 | _,_ => none
theorem hex_is (c : UInt8) (o : Option Nat) (H : hexV c = o) (w : World) : Calls Tryz.prog 117 #[.int .u8 c.toNat] w fun e w' => e = .returned (.tuple #[.int .u8 (o.getD 0 : Nat),.bool o.isSome]) ∧ w = w':=by
 rw [← H]; exact tHex_any c w
theorem escL_other {a b : UInt8} {r : List UInt8} (h1 : b ≠ 34) (h2 : b ≠ 92) (h3 : b ≠ 120) : escL (a :: b :: r) = none:=by
 unfold escL
 split
 ·next heq => injection heq with _ h; injection h with h _; exact absurd h h1
 ·next heq => injection heq with _ h; injection h with h _; exact absurd h h2
 ·next heq => injection heq with _ h; injection h with h _; exact absurd h h3
 ·rfl
theorem escL_hex (a h l : UInt8) (r : List UInt8) : escL (a :: 120 :: h :: l :: r) = escP (hexV h) (hexV l):=rfl
set_option maxRecDepth 100000 in
set_option maxHeartbeats 4000000 in
theorem tEsc_any (s : List UInt8) (w : World) (hs : s.length ≤ 9223372036854775000) (h1 : 1 ≤ s.length) :
  Calls Tryz.prog 118 #[.string ⟨s.toArray⟩] w (EscPost (escL s) w):=by
 match s,h1 with
 | [a],_ =>
   go_enter Tryz.func118,Tryz.ntmps118
   go_wp2_with fail
   go_ret3
   exact ⟨⟨0,0,rfl,fun x h => by cases h⟩,rfl⟩
 | a :: b :: r,_ =>
   have H34:=Lib.hid (byte_cases b 34 34 rfl)
   have H92:=Lib.hid (byte_cases b 92 92 rfl)
   have H120:=Lib.hid (byte_cases b 120 120 rfl)
   obtain ⟨X,hX⟩ : ∃ X,Hid (escL (a :: b :: r) = X):=⟨_,Lib.hid rfl⟩
   rw [hX.out]
   go_enter Tryz.func118,Tryz.ntmps118
   rcases H34.out with ⟨e1,h34⟩ | ⟨e1,h34⟩
   ·have HX : Hid (X = some (b,2)):=Lib.hid (by rw [← hX.out,e1] <;> rfl)
    clear e1
    go_wp2_with fail
    go_ret3
    exact ⟨⟨b,2,by rw [HX.out]; rfl,fun x h => by rw [HX.out] at h; injection h with h; exact h.symm⟩,rfl⟩
   rcases H92.out with ⟨e2,h92⟩ | ⟨e2,h92⟩
   ·have HX : Hid (X = some (b,2)):=Lib.hid (by rw [← hX.out,e2] <;> rfl)
    clear e1 e2
    go_wp2_with fail
    go_ret3
    exact ⟨⟨b,2,by rw [HX.out]; rfl,fun x h => by rw [HX.out] at h; injection h with h; exact h.symm⟩,rfl⟩
   rcases H120.out with ⟨e3,h120⟩ | ⟨e3,h120⟩
   ·match r with
    | [] =>
      have HX : Hid (X = none):=Lib.hid (by rw [← hX.out,e3] <;> rfl)
      clear e1 e2 e3
      go_wp2_with fail
      go_ret3
      exact ⟨⟨0,0,by rw [HX.out]; rfl,fun x h => by rw [HX.out] at h; cases h⟩,rfl⟩
    | [h] =>
      have HX : Hid (X = none):=Lib.hid (by rw [← hX.out,e3] <;> rfl)
      clear e1 e2 e3
      go_wp2_with fail
      go_ret3
      exact ⟨⟨0,0,by rw [HX.out]; rfl,fun x h => by rw [HX.out] at h; cases h⟩,rfl⟩
    | h :: l :: r =>
      obtain ⟨o1,ho1⟩ : ∃ o,hexV h = o:=⟨_,rfl⟩
      obtain ⟨o2,ho2⟩ : ∃ o,hexV l = o:=⟨_,rfl⟩
      have HX : Hid (X = escP o1 o2):=Lib.hid (by rw [← hX.out,e3,escL_hex,ho1,ho2])
      have K1:=Lib.hid (hex_is h o1 ho1 w)
      have K2:=Lib.hid (hex_is l o2 ho2 w)
      have hx1 : Hid (o1.getD 0 < 16):=Lib.hid (by cases o1 with
       | none => decide
       | some x => exact hexV_lt ho1)
      have hx2 : Hid (o2.getD 0 < 16):=Lib.hid (by cases o2 with
       | none => decide
       | some x => exact hexV_lt ho2)
      have HO:=Lib.hid (or16b _ _ hx1.out hx2.out)
      clear e1 e2 e3 ho1 ho2 hX
      obtain ⟨n1,hn1⟩ : ∃ n,Hid (o1.getD 0 = n):=⟨_,Lib.hid rfl⟩
      obtain ⟨n2,hn2⟩ : ∃ n,Hid (o2.getD 0 = n):=⟨_,Lib.hid rfl⟩
      obtain ⟨s1,hs1⟩ : ∃ n,Hid (o1.isSome = n):=⟨_,Lib.hid rfl⟩
      obtain ⟨s2,hs2⟩ : ∃ n,Hid (o2.isSome = n):=⟨_,Lib.hid rfl⟩
      rw [hn1.out,hs1.out] at K1
      rw [hn2.out,hs2.out] at K2
      rw [hn1.out,hn2.out] at HO
      rw [hn1.out] at hx1
      rw [hn2.out] at hx2
      have hlt1:=hx1.out
      have hlt2:=hx2.out
      obtain ⟨B,hB⟩ : ∃ B,Hid (UInt8.ofNat (n1 * 16 + n2) = B):=⟨_,Lib.hid rfl⟩
      have ho:=HO.out
      rw [hB.out] at ho
      have HF : Hid (X.isSome = (s1 && s2) ∧ ∀ x,X = some x → x = (B,4)):=Lib.hid (by
       rw [HX.out,← hs1.out,← hs2.out,← hB.out,← hn1.out,← hn2.out]
       cases o1 with
       | none => exact ⟨rfl,fun x h => by cases h⟩
       | some p => cases o2 with
         | none => exact ⟨rfl,fun x h => by cases h⟩
         | some q => exact ⟨rfl,fun x h => by injection h with h; exact h.symm⟩)
      clear HO hn1 hn2 hs1 hs2 hB HX
      go_wp2_with fail
      ((with_reducible refine K1.out.mono ?_))
      rintro e w2 ⟨rfl,rfl⟩
      go_wp2_with fail
      ((with_reducible refine K2.out.mono ?_))
      rintro e w2 ⟨rfl,rfl⟩
      clear K1 K2
      cases s1
      ·go_wp2_with fail
       go_ret3
       exact ⟨⟨B,4,by rw [HF.out.1]; simp [ho],HF.out.2⟩,rfl⟩
      ·go_wp2_with fail
       go_ret3
       exact ⟨⟨B,4,by rw [HF.out.1]; simp [ho],HF.out.2⟩,rfl⟩
   ·have HX : Hid (X = none):=Lib.hid (by rw [← hX.out]; exact escL_other e1 e2 e3)
    clear e1 e2 e3
    go_wp2_with fail
    go_ret3
    exact ⟨⟨0,0,by rw [HX.out]; rfl,fun x h => by rw [HX.out] at h; cases h⟩,rfl⟩
end
end Go.Proofs.YtoohondkpddmcaaGreatDoor
