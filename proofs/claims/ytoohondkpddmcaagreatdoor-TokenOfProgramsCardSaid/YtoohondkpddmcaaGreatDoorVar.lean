/- Nsp0 -/
import Derived.Test.YtoohondkpddmcaaGreatDoorVaq
import Derived.Test.YtoohondkpddmcaaGreatDoorVac
import Derived.Test.YtoohondkpddmcaaGreatDoorVah
import Derived.Laws.AppendOwnNone
import Derived.Lib.Join
set_option linter.unusedVariables false
set_option linter.unusedSimpArgs false
namespace Go.Proofs.YtoohondkpddmcaaGreatDoor
open Go.RowKit
attribute [local go_sem] ByteArray.mk_append_mk bs_get bs_cut bs_end
theorem infoStr : (Tryz.prog.info? 9).map (fun i => (i.zero,i.size,i.bytes)) = some (some (.string ⟨#[]⟩),1,16):=by kernel_rfl
theorem own_nil (w : World) (B : Nat) : w.ownsRow B 9 1 (.slice none 0 0) 0 []:=⟨rfl,.inl ⟨rfl,rfl⟩⟩
theorem wpList_append_strs {w : World} {ops : Array Oper} {rest : List Oper} {o : Oper} {a : Act} {Q : Exit → Act → World → Prop} (hgd : o.guard = none) (s x : Operand)
  (ho : o.op = .call { callee:=.builtin .append,args:=#[s,x],argTypes:=#[49,49] })
  (base : Nat) (v : Value) (l1 : List (List UInt8)) (hs : a.eval s = v) (hown : w.ownsRow base 9 1 v l1.length (l1.map strV))
  (y : Value) (l2 : List (List UInt8)) (hx : a.eval x = y) (hy : StrsAt w y l2) (hlen : l1.length + l2.length ≤ 1000000) (hbase : base ≤ w.heap.size)
  (h : ∀ v' w',w'.ownsRow base 9 1 v' (l1 ++ l2).length ((l1 ++ l2).map strV) → w.grownBy w' v.ownBlock → wpList Tryz.prog ops Q rest (a.put o.dst v') w') : wpList Tryz.prog ops Q (o :: rest) a w:=by
 obtain ⟨i0,hi,hz0,hz1,hz2⟩:=info_parts infoStr
 obtain ⟨ad,cap,rfl,hl,hz,hc⟩:=hy
 cases ad with
 | none =>
   have hn : l2 = []:=by
    by_cases hn : l2 = []
    ·exact hn
    ·obtain ⟨b,off,hb,_⟩:=hc hn; cases hb
   subst hn
   rw [hz.1 rfl] at hx
   refine wpList_append_own_none hgd s x _ ho base 9 i0 1 Tryz.underlying49 hi v l1.length _ hs hown hx ?_
   have:=h v w (by simpa using hown) (World.grownBy.refl _ _)
   exact this
 | some ad =>
   refine wpList_append_own _ hgd s x _ ho base 9 i0 (.string ⟨#[]⟩) 1 16 Tryz.underlying49 hi hz0 hz1 hz2 rfl (by decide) v l1.length _ hs hown ad l2.length cap (l2.map strV) hx (by simp) ?_ ?_ (by unfold maxLen; omega) (by omega) hbase ?_
   ·intro j u hj
    rw [List.getElem?_map] at hj
    have hj2 : j < l2.length:=by
     rcases Nat.lt_or_ge j l2.length with h' | h'
     ·exact h'
     ·rw [List.getElem?_eq_none h'] at hj; cases hj
    rw [List.getElem?_eq_getElem hj2] at hj
    have hj:=Option.some.inj hj
    subst hj
    have hn : l2 ≠ []:=by rintro rfl; simp at hj2
    obtain ⟨b,off,hb,hk⟩:=hc hn
    obtain rfl:=Option.some.inj hb
    have e : (⟨b,off,none⟩ : Addr).add j = ⟨b,off + j,none⟩:=by by_cases h : j = 0 <;> simp [Addr.add,h]
    rw [e]
    exact hk j hj2
   ·intro u hu
    obtain ⟨x,_,rfl⟩:=List.mem_map.1 hu
    rfl
   ·intro v' w' h1 h2 _
    refine h v' w' ?_ h2
    rw [List.length_append,List.map_append]
    exact h1
def PPost (w : World) (root : Bool) (up : Int) (l : List (List UInt8)) (ok : Bool) (e : Ending) (w' : World) : Prop:=∃ v,e = .returned (.tuple #[.agg #[.bool root,.int .i64 up,v],.bool ok]) ∧ w'.ownsRow w.heap.size 9 1 v l.length (l.map strV) ∧ Below w.heap.size w w'
def PAt (w wr : World) (root : Bool) (up : Int) (v : Value) (l : List (List UInt8)) : Prop:=BoxAt w wr root up v l ∧ wr.heap[w.heap.size + 1]? = some (pObj false 0 (.slice none 0 0))
theorem PAt.start {w : World} {root : Bool} {up : Int} {v : Value} {l : List (List UInt8)} (h : StrsAt w v l) : PAt w ((w.alloc (.cells #[.bool root,.int .i64 up,v] 128)).alloc (.cells #[.bool false,.int .i64 0,.slice none 0 0] 128)) root up v l :=
 ⟨(BoxAt.start h).below ((Below.refl _ _).alloc (Nat.le_refl _) _),heap_alloc2_new _ _ _⟩
theorem PAt.below {w wr w2 : World} {root : Bool} {up : Int} {v : Value} {l : List (List UInt8)} (h : PAt w wr root up v l) (hb : Below wr.heap.size wr w2) : PAt w w2 root up v l:=⟨h.1.below hb,blk_below h.2 hb⟩
theorem put3 {w : World} {b t : Nat} {c0 c1 c2 : Value} (h : w.heap[b]? = some (.cells #[c0,c1,c2] t (0,0))) (a0 a1 a2 : Value) :
  (((w.setCell ⟨b,0,none⟩ a0).setCell ⟨b,1,none⟩ a1).setCell ⟨b,2,none⟩ a2).heap[b]? = some (.cells #[a0,a1,a2] t (0,0)):=by
 have e0:=(heap_setCell_same w _ 0 _ _ a0 h)
 have e1:=(heap_setCell_same _ _ 1 _ _ a1 e0)
 exact (heap_setCell_same _ _ 2 _ _ a2 e1).trans rfl
theorem bel3 {B : Nat} {w w1 : World} {b : Nat} (h : Below B w w1) (hb : B ≤ b) (a0 a1 a2 : Value) : Below B w (((w1.setCell ⟨b,0,none⟩ a0).setCell ⟨b,1,none⟩ a1).setCell ⟨b,2,none⟩ a2) :=
 ((h.setCell hb _).setCell hb _).setCell hb _
theorem own_set3 {w : World} {B e z : Nat} {v : Value} {n : Nat} {xs : List Value} (h : w.ownsRow B e z v n xs) (b : Nat) (a0 a1 a2 : Value) (hb : b < B) : (((w.setCell ⟨b,0,none⟩ a0).setCell ⟨b,1,none⟩ a1).setCell ⟨b,2,none⟩ a2).ownsRow B e z v n xs :=
 own_setCell (own_setCell (own_setCell h _ _ hb) _ _ hb) _ _ hb
def joinB (l : List (List UInt8)) : List UInt8:=Lib.join l [46]
theorem joinB_nil : joinB [] = []:=rfl
theorem joinB_one (x : List UInt8) : joinB [x] = x:=by simp [joinB,Lib.join,List.intercalate]
theorem joinB_cons (x y : List UInt8) (r : List (List UInt8)) : joinB (x :: y :: r) = x ++ 46 :: joinB (y :: r):=by
 simp [joinB,Lib.join,List.intercalate]
theorem joinB_snoc : ∀ (l : List (List UInt8)) (x : List UInt8),l ≠ [] → joinB (l ++ [x]) = joinB l ++ 46 :: x
 | [],_,h => absurd rfl h
 | [y],x,_ => by rw [List.singleton_append,joinB_cons,joinB_one,joinB_one]
 | y :: z :: r,x,_ => by
   have:=joinB_snoc (z :: r) x (by simp)
   rw [List.cons_append,List.cons_append,joinB_cons,joinB_cons]
   rw [List.cons_append] at this
   rw [this]; simp
theorem joinB_len : ∀ (l : List (List UInt8)),(∀ x ∈ l,x.length ≤ 4) → (joinB l).length ≤ 5 * l.length
 | [],_ => by simp [joinB_nil]
 | [x],h => by rw [joinB_one]; have:=h x (by simp); simp; omega
 | x :: y :: r,h => by
   rw [joinB_cons]
   have:=joinB_len (y :: r) (fun z hz => h z (by simp [hz]))
   have:=h x (by simp)
   simp only [List.length_append,List.length_cons] at *
   omega
def fmtB (root : Bool) (up : Int) (l : List (List UInt8)) : List UInt8:=(if root then [92] else List.replicate up.toNat 94) ++ joinB l
def fmtV (root : Bool) (up : Int) (l : List (List UInt8)) : List UInt8:=if validB root up l then fmtB root up l else []
theorem validB_segs {root : Bool} {up : Int} {l : List (List UInt8)} (h : validB root up l = true) : ∀ x ∈ l,segB x = true:=by
 unfold validB at h
 simp only [Bool.and_eq_true,List.all_eq_true] at h
 exact h.2
theorem validB_is {root : Bool} {up : Int} {l : List (List UInt8)} (h : validB root up l = true) : 0 ≤ up ∧ up ≤ 32 ∧ (root = true → up = 0) ∧ (l.length : Int) ≤ 32 - up ∧ (root = true ∨ 0 < up ∨ 0 < l.length):=by
 unfold validB at h
 simp only [Bool.and_eq_true] at h
 exact of_decide_eq_true h.1
theorem joinB_take (l : List (List UInt8)) (k : Nat) (hk : k < l.length) : joinB (l.take (k + 1)) = (if 0 < k then joinB (l.take k) ++ [46] else joinB (l.take k)) ++ l[k]:=by
 rw [← List.take_append_getElem hk]
 by_cases h : 0 < k
 ·rw [if_pos h,joinB_snoc _ _ (by intro e; have:=congrArg List.length e; rw [List.length_take] at this; simp only [List.length_nil] at this; omega)]
  simp
 ·obtain rfl : k = 0:=by omega
  simp [joinB_one,joinB_nil]
set_option maxHeartbeats 1000000 in
theorem formatPath_any (p : Value) (root : Bool) (up : Int) (l : List (List UInt8)) (w : World) (hp : PathV w p root up l) (hx : ∀ x ∈ l,x.length ≤ 9223372036854775000) :
  Calls Tryz.prog 146 #[p] w fun e w' => e = .returned (.string ⟨(fmtV root up l).toArray⟩) ∧ Below w.heap.size w w':=by
 obtain ⟨v,rfl,hs⟩:=hp
 have HA:=Lib.hid (BoxAt.start (root:=root) (up:=up) hs)
 have HX:=Lib.hid hx
 clear hx
 obtain ⟨a,cap,rfl,hcap⟩:=hs.form
 clear hs
 obtain ⟨p0,p1,p2⟩:=HA.out.cells
 have HN:=Lib.hid (validPath_any _ root up l _ HA.out.pathV HX.out)
 cases hv : validB root up l
 ·have HV:=Lib.hid hv
  clear hv
  go_enter Tryz.func146,Tryz.ntmps146
  go_wp2_with fail
  ((with_reducible refine HN.out.mono ?_))
  rintro e w1 ⟨rfl,hb⟩
  have HB:=Lib.hid (HA.out.below hb)
  clear hb HN HA p0 p1 p2
  rw [HV.out]
  go_wp2_with fail
  go_ret
  exact ⟨by unfold fmtV; rw [HV.out]; rfl,HB.out.2.2⟩
 ·have HV:=Lib.hid hv
  obtain ⟨v1,v2,v3,v4,v5⟩:=validB_is hv
  obtain ⟨n,rfl⟩ : ∃ n : Nat,up = n:=⟨up.toNat,by omega⟩
  have HF : Hid (fmtV root n l = (if root then [92] else List.replicate n 94) ++ joinB l):=Lib.hid (by unfold fmtV fmtB; rw [if_pos hv]; rfl)
  have hll : l.length ≤ 32:=by omega
  have HR:=Lib.hid v3
  clear hv v3 v4 v5
  go_enter Tryz.func146,Tryz.ntmps146
  go_wp2_with fail
  ((with_reducible refine HN.out.mono ?_))
  rintro e w1 ⟨rfl,hb⟩
  have HB:=Lib.hid (HA.out.below hb)
  clear hb HN HA p0 p1 p2
  obtain ⟨p0,p1,p2⟩:=HB.out.cells
  rw [HV.out]
  go_upto_if 10 with fail
  go_cut [3] (fun s wx => s = .string ⟨(if root then [92] else [] : List UInt8).toArray⟩ ∧ w1 = wx)
  case first =>
   cases root
   all_goals
    go_wp2_with fail
    go_meet
    exact ⟨rfl,rfl⟩
  case rest =>
   obtain ⟨rfl,rfl⟩:=hcut
   generalize hpre : (if root then [92] else [] : List UInt8) = pre
   have HP : Hid ((if root then [92] else List.replicate n 94) = pre ++ List.replicate n (94 : UInt8)):=Lib.hid (by
    subst hpre
    cases root with
    | true => have := HR.out rfl; obtain rfl : n = 0 := by omega
              rfl
    | false => rfl)
   have hpl : pre.length ≤ 1:=by subst hpre; cases root <;> simp
   clear hpre
   go_wp2_with fail
   go_loop [3,4] (fun s i => ∃ k : Nat,i = .int .i64 k ∧ k ≤ n ∧ s = .string ⟨(pre ++ List.replicate k 94).toArray⟩) (fun s i => n - (intOf i).toNat)
   case atStart => exact ⟨0,rfl,Nat.zero_le _,by simp⟩
   case round =>
    obtain ⟨k,rfl,hk,rfl⟩:=hrel
    by_cases hlt : k < n
    ·have hlt' : (k : Int) < n:=by omega
     go_wp2_with fail
     go_round
     case rel => exact ⟨k + 1,by go_num,by omega,by simp [List.replicate_succ']⟩
     case measure => simp [intOf]; omega
    ·have hlt' : ¬ (k : Int) < n:=by omega
     obtain rfl : k = n:=by omega
     go_wp2_with fail
     generalize hpre2 : pre ++ List.replicate k (94 : UInt8) = pre2
     rw [hpre2] at HP
     have hpl2 : pre2.length ≤ 33:=by rw [← hpre2,List.length_append,List.length_replicate]; omega
     clear hpre2
     go_loop [3,5] (fun s i => ∃ j : Nat,i = .int .i64 j ∧ j ≤ l.length ∧ s = .string ⟨(pre2 ++ joinB (l.take j)).toArray⟩) (fun s i => l.length - (intOf i).toNat)
     case atStart => exact ⟨0,rfl,Nat.zero_le _,by simp [joinB_nil]⟩
     case round =>
      obtain ⟨j,rfl,hj,rfl⟩:=hrel
      by_cases hlt : j < l.length
      ·obtain ⟨b,off,rfl,hcell⟩:=cell_at HB.out.2.1 j hlt
       have HT:=Lib.hid (joinB_take l j hlt)
       have hxl : l[j].length ≤ 4:=(segB_size (validB_segs HV.out _ (List.getElem_mem hlt))).2
       have hsl : (joinB (l.take j)).length ≤ 160:=by
        have:=joinB_len (l.take j) (fun x hx => (segB_size (validB_segs HV.out x (List.mem_of_mem_take hx))).2)
        rw [List.length_take] at this
        omega
       generalize l[j] = x at *
       generalize joinB (l.take j) = s0 at *
       by_cases h0 : 0 < j
       ·have h0' : (0 : Int) < j:=by omega
        go_wp2_with fail
        go_round
        case rel => exact ⟨j + 1,by go_num,by omega,by rw [HT.out,if_pos h0]; simp⟩
        case measure => simp [intOf]; omega
       ·have h0' : ¬ (0 : Int) < j:=by omega
        go_wp2_with fail
        go_round
        case rel => exact ⟨j + 1,by go_num,by omega,by rw [HT.out,if_neg h0]⟩
        case measure => simp [intOf]; omega
      ·have HE : Hid (joinB (l.take j) = joinB l):=Lib.hid (by rw [List.take_of_length_le (by omega)])
       generalize joinB (l.take j) = s0 at *
       go_wp2_with fail
       go_ret
       exact ⟨by rw [HF.out,HP.out,HE.out]; rfl,HB.out.2.2⟩
def splitD : List UInt8 → List (List UInt8)
 | [] => [[]]
 | c :: s => if c = 46 then [] :: splitD s else match splitD s with | [] => [[c]] | x :: r => (c :: x) :: r
theorem splitD_dot (s : List UInt8) : splitD (46 :: s) = [] :: splitD s:=by rw [splitD,if_pos rfl]
theorem splitD_ne (s : List UInt8) : splitD s ≠ []:=by
 cases s with
 | nil => simp [splitD]
 | cons c s =>
   unfold splitD
   split
   ·simp
   ·split <;> simp
theorem splitD_other (c : UInt8) (s : List UInt8) (h : c ≠ 46) (x : List UInt8) (r : List (List UInt8)) (hs : splitD s = x :: r) : splitD (c :: s) = (c :: x) :: r:=by
 rw [splitD,if_neg h,hs]
theorem splitD_length : ∀ s : List UInt8,(splitD s).length = s.count 46 + 1
 | [] => rfl
 | c :: s => by
   have ih:=splitD_length s
   by_cases h : c = 46
   ·subst h; rw [splitD_dot]; simp [ih]
   ·cases hs : splitD s with
    | nil => exact absurd hs (splitD_ne s)
    | cons x r =>
      rw [splitD_other c s h x r hs]
      rw [hs] at ih
      rw [List.count_cons_of_ne (by simpa using h)]
      simpa using ih
def parRoot (s : List UInt8) : Bool:=Lib.hasPrefix s [92]
def parRest (s : List UInt8) : List UInt8:=if parRoot s then s.drop 1 else s.dropWhile (· == 94)
def parUp (s : List UInt8) : Nat:=if parRoot s then 0 else (s.takeWhile (· == 94)).length
def parSegs (s : List UInt8) : List (List UInt8):=if parRest s = [] then [] else splitD (parRest s)
def parOk (s : List UInt8) : Bool:=validB (parRoot s) (parUp s) (parSegs s)
def parPost (w : World) (s : List UInt8) : Ending → World → Prop:=PPost w (parOk s && parRoot s) (if parOk s = true then (parUp s : Int) else 0) (if parOk s = true then parSegs s else []) (parOk s)
def QAt (w wr : World) (root : Bool) (up : Int) (v : Value) : Prop:=wr.heap[w.heap.size]? = some (pObj false 0 (.slice none 0 0)) ∧ wr.heap[w.heap.size + 1]? = some (pObj root up v) ∧ Below w.heap.size w wr
theorem QAt.start (w : World) : QAt w ((w.alloc (.cells #[.bool false,.int .i64 0,.slice none 0 0] 128)).alloc (.cells #[.bool false,.int .i64 0,.slice none 0 0] 128)) false 0 (.slice none 0 0) :=
 ⟨blk_alloc (heap_alloc_new _ _) _,heap_alloc2_new _ _ _,((Below.refl _ _).alloc (Nat.le_refl _) _).alloc (by simp) _⟩
theorem QAt.below {w wr w2 : World} {root : Bool} {up : Int} {v : Value} (h : QAt w wr root up v) (hb : Below wr.heap.size wr w2) : QAt w w2 root up v:=⟨blk_below h.1 hb,blk_below h.2.1 hb,bel_then h.2.2 (Nat.le_refl _) hb⟩
theorem QAt.root {w wr : World} {root : Bool} {up : Int} {v : Value} (h : QAt w wr root up v) (r : Bool) : QAt w (wr.setCell ⟨w.heap.size + 1,0,none⟩ (.bool r)) r up v :=
 ⟨blk_other h.1 _ _ (by show w.heap.size ≠ w.heap.size + 1; omega),(heap_setCell_same _ _ 0 _ _ _ h.2.1).trans rfl,h.2.2.setCell (by show w.heap.size ≤ w.heap.size + 1; omega) _⟩
theorem QAt.up {w wr : World} {root : Bool} {up : Int} {v : Value} (h : QAt w wr root up v) (u : Int) : QAt w (wr.setCell ⟨w.heap.size + 1,1,none⟩ (.int .i64 u)) root u v :=
 ⟨blk_other h.1 _ _ (by show w.heap.size ≠ w.heap.size + 1; omega),(heap_setCell_same _ _ 1 _ _ _ h.2.1).trans rfl,h.2.2.setCell (by show w.heap.size ≤ w.heap.size + 1; omega) _⟩
theorem QAt.segs {w wr : World} {root : Bool} {up : Int} {v : Value} (h : QAt w wr root up v) (u : Value) : QAt w (wr.setCell ⟨w.heap.size + 1,2,none⟩ u) root up u :=
 ⟨blk_other h.1 _ _ (by show w.heap.size ≠ w.heap.size + 1; omega),(heap_setCell_same _ _ 2 _ _ _ h.2.1).trans rfl,h.2.2.setCell (by show w.heap.size ≤ w.heap.size + 1; omega) _⟩
theorem QAt.cell {w wr : World} {root : Bool} {up : Int} {v : Value} (h : QAt w wr root up v) {m : Int} (hm : w.cell? ⟨0,0,none⟩ = some (.int .i64 m)) : wr.cell? ⟨0,0,none⟩ = some (.int .i64 m):=by
 rw [h.2.2.cell (p:=⟨0,0,none⟩) (World.block_lt_of_cell? w _ hm)]; exact hm
def CarJ (root : Bool) (N : Nat) (R : List UInt8) (k : Nat) (r : List UInt8) : Prop:=(root = true → k = N ∧ r = R) ∧ (root = false → k + (r.takeWhile (· == 94)).length = N ∧ r.dropWhile (· == 94) = R)
theorem hasPre_caret (r : List UInt8) : Lib.hasPrefix r [94] = true → ∃ t,r = 94 :: t:=by
 cases r with
 | nil => intro h; cases h
 | cons c t =>
   intro h
   refine ⟨t,?_⟩
   have : (94 == c) = true:=by simpa [Lib.hasPrefix] using h
   rw [beq_iff_eq.1 this]
theorem hasPre_not (r : List UInt8) (h : Lib.hasPrefix r [94] = false) : r.takeWhile (· == 94) = [] ∧ r.dropWhile (· == 94) = r:=by
 cases r with
 | nil => exact ⟨rfl,rfl⟩
 | cons c t =>
   have : (c == 94) = false:=by
    cases hc : (c == 94)
    ·rfl
    ·rw [beq_iff_eq.1 hc] at h; simp [Lib.hasPrefix] at h
   constructor
   ·rw [List.takeWhile_cons,this]; rfl
   ·rw [List.dropWhile_cons,this]; rfl
theorem CarJ.step {N : Nat} {R : List UInt8} {k : Nat} {t : List UInt8} (h : CarJ false N R k (94 :: t)) : CarJ false N R (k + 1) t:=by
 refine ⟨(fun h => by cases h),fun _ => ?_⟩
 obtain ⟨h1,h2⟩:=h.2 rfl
 have e1 : List.takeWhile (· == (94 : UInt8)) (94 :: t) = 94 :: List.takeWhile (· == 94) t:=by simp
 have e2 : List.dropWhile (· == (94 : UInt8)) (94 :: t) = List.dropWhile (· == 94) t:=by simp
 rw [e1,List.length_cons] at h1
 rw [e2] at h2
 exact ⟨by omega,h2⟩
theorem CarJ.last {root : Bool} {N : Nat} {R : List UInt8} {k : Nat} {r : List UInt8} (h : CarJ root N R k r) (hb : (!root && Lib.hasPrefix r [94]) = false) : k = N ∧ r = R:=by
 cases root with
 | true => exact h.1 rfl
 | false =>
   obtain ⟨h1,h2⟩:=h.2 rfl
   obtain ⟨h3,h4⟩:=hasPre_not r (by simpa using hb)
   rw [h3] at h1
   rw [h4] at h2
   exact ⟨by simpa using h1,h2⟩
theorem parPost_no {w w' : World} {s : List UInt8} (h : parOk s = false) (hb : Below w.heap.size w w') : parPost w s (.returned (.tuple #[.agg #[.bool false,.int .i64 0,.slice none 0 0],.bool false])) w':=by
 unfold parPost
 rw [h]
 exact ⟨_,rfl,own_nil _ _,hb⟩
theorem parPost_yes {w w' : World} {s : List UInt8} {v : Value} (h : parOk s = true) (ho : w'.ownsRow w.heap.size 9 1 v (parSegs s).length ((parSegs s).map strV)) (hb : Below w.heap.size w w') : parPost w s (.returned (.tuple #[.agg #[.bool (parRoot s),.int .i64 (parUp s),v],.bool true])) w':=by
 unfold parPost
 rw [h]
 exact ⟨_,rfl,ho,hb⟩
end Go.Proofs.YtoohondkpddmcaaGreatDoor
