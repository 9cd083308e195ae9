/- Sd Se -/
import Derived.Test.YtnicnfchkdmieaaGreatDoorXaq
set_option linter.unusedVariables false
set_option linter.unusedSimpArgs false
namespace Go.Proofs.YtnicnfchkdmieaaGreatDoor
section
open Go.RowKit
attribute [local go_sem] ByteArray.mk_append_mk bs_get bs_cut bs_end
theorem infoNode : (Tryz.prog.info? 42).map (fun i => (i.zero,i.size,i.bytes)) = some (some (.agg #[.int .i64 0,.int .u64 0,.string ⟨#[]⟩,.int .i64 0]),4,40):=by kernel_rfl
abbrev nObj (a b : Int) (c : List UInt8) (d : Int) : Obj:=.cells #[.int .i64 a,.int .u64 b,.string ⟨c.toArray⟩,.int .i64 d] 42 (0,0)
theorem wpList_append_node {w : World} {ops : Array Oper} {rest : List Oper} {o : Oper} {a : Act} {Q : Exit → Act → World → Prop} (hgd : o.guard = none) (s x : Operand)
  (ho : o.op = .call { callee:=.builtin .append,args:=#[s,x],argTypes:=#[33,33] })
  (B : Nat) (v : Value) (l : List Nd) (hs : a.eval s = v) (hown : NodesI w B v l) (g : Nat) (t : Nd)
  (hx : a.eval x = .slice (some ⟨g,0,none⟩) 1 1) (hb : w.heap[g]? = some (nObj t.kind t.num t.str t.pos)) (hlen : l.length ≤ 1000000) (hB : B ≤ w.heap.size)
  (h : ∀ v' w',NodesI w' B v' (l ++ [t]) → w.grownBy w' v.ownBlock → wpList Tryz.prog ops Q rest (a.put o.dst v') w') : wpList Tryz.prog ops Q (o :: rest) a w:=by
 obtain ⟨i0,hi,hz0,hz1,hz2⟩:=info_parts infoNode
 obtain ⟨c0,c1,c2,c3⟩:=cells4 hb
 refine wpList_append_own _ hgd s x _ ho B 42 i0 _ 4 40 Tryz.underlying33 hi hz0 hz1 hz2 rfl (by decide) v l.length _ hs hown ⟨g,0,none⟩ 1 1 (tcI [t]) hx rfl ?_ ?_ (by unfold maxLen; omega) (by omega) hB ?_
 ·intro j z hj
  match j,hj with
  | 0,hj => cases hj; exact c0
  | 1,hj => cases hj; exact c1
  | 2,hj => cases hj; exact c2
  | 3,hj => cases hj; exact c3
 ·intro z hz
  simp only [tcI,List.mem_cons,List.not_mem_nil,or_false] at hz
  rcases hz with rfl | rfl | rfl | rfl <;> rfl
 ·intro v' w' h1 h2 _
  refine h v' w' ?_ h2
  unfold NodesI
  rw [List.length_append,tcI_app]
  exact h1
def SameB (W : World) (b p : Nat) (x : World) : Prop:=x.heap[b]? = W.heap[b]? ∧ x.heap[p]? = W.heap[p]?
theorem SameB.some (W : World) (b p : Nat) : (∃ x,SameB W b p x) = True:=by simp only [eq_iff_iff,iff_true]; exact ⟨W,rfl,rfl⟩
theorem SameB.all (W : World) (b q : Nat) (p : Prop) : (∀ x,SameB W b q x → p) = p:=by
 simp only [eq_iff_iff]; exact ⟨fun h => h W ⟨rfl,rfl⟩,fun h _ _ => h⟩
attribute [local go_sem] SameB.some SameB.all
theorem PSt.grown {m E : Int} {B b : Nat} {w w' : World} {r : List TokI} {o o' : List Nd} {tv nv u : Value} {bad : Int} (h : PSt m E B b w r o) (hb : w.heap[b]? = some (psObj tv E bad nv)) (ht : TokB w B tv r) (hn : NodesI w B nv o) (hg : w.grownBy w' nv.ownBlock) (hu : NodesI w' B u o') :
  PSt m E B b (w'.setCell ⟨b,3,none⟩ u) r o' ∧ Below B w (w'.setCell ⟨b,3,none⟩ u):=by
 have hB : Below B w w':=(Below.refl _ _).grown hg h.size (fun k hk => own_row hn hk)
 have h1 : w'.heap[b]? = some (psObj tv E bad nv):=(hg.block b (lt_of_block hb) (fun e => own_ps hn hb e.symm)).trans hb
 have hB2 : Below B w' (w'.setCell ⟨b,3,none⟩ u):=(Below.refl _ _).setCell h.base _
 refine ⟨⟨⟨tv,bad,u,heap_setCell_same _ _ 3 _ _ _ h1,ht.below (hB.trans hB2),own_setOther hu _ _ (own_ps hu h1)⟩,h.base,Nat.le_trans h.size (hB.trans hB2).size,h.syn.below (hB.trans hB2) h.hund,h.hund,h.good⟩,hB.trans hB2⟩
set_option maxRecDepth 100000 in
set_option maxHeartbeats 2000000 in
theorem add_any (m E : Int) (B b : Nat) (k n p : Int) (s : List UInt8) (w : World) (r : List TokI) (o : List Nd) (h : PSt m E B b w r o) (hl : o.length ≤ 900000) :
  Calls Tryz.prog 88 #[.pointer (some ⟨b,0,none⟩),tokV k n s p] w fun e w' => e = .returned (.int .i64 o.length) ∧ PSt m E B b w' r (o ++ [⟨k,n,s,p⟩]) ∧ Below B w w':=by
 have H0:=Lib.hid (h.alloc (nObj k n s p))
 have HN0:=Lib.hid (heap_alloc_new w (nObj k n s p))
 have HB0 : Hid (Below B w (w.alloc (nObj k n s p))):=Lib.hid ((Below.refl _ _).alloc h.size _)
 obtain ⟨tv,bad,nv,h1,h2,h3⟩:=h.ex
 obtain ⟨na,nc,rfl⟩:=h3.form
 have hal : Below w.heap.size w (w.alloc (nObj k n s p)):=(Below.refl _ _).alloc (Nat.le_refl _) _
 have HP1:=Lib.hid (blk_below h1 hal)
 have HT1:=Lib.hid (h2.below (hal.mono h.size))
 have HO1:=Lib.hid (h3.below hal)
 have HNE : Hid (∀ g,(Value.slice na o.length nc).ownBlock = some g → g < w.heap.size):=Lib.hid (fun g hg => own_lt h3 hg)
 clear h h1 h2 h3 hal
 unfold tokV
 go_enter Tryz.func88,Tryz.ntmps88
 go_upto_region 1 with fail
 obtain ⟨P,hP⟩ : ∃ P,w.heap.size = P:=⟨_,rfl⟩
 rw [hP] at HN0 HNE
 simp only [hP]
 generalize w.alloc (nObj k n s p) = W at *
 have k0 : ∀ x,SameB W b P x → x.cell? ⟨b,3,none⟩ = some (.slice na o.length nc):=fun x hx => (cells4 (hx.1.trans HP1.out)).2.2.2
 have q0 : ∀ x,SameB W b P x → x.cell? ⟨P,0,none⟩ = some (.int .i64 k):=fun x hx => (cells4 (hx.2.trans HN0.out)).1
 have q1 : ∀ x,SameB W b P x → x.cell? ⟨P,1,none⟩ = some (.int .u64 n):=fun x hx => (cells4 (hx.2.trans HN0.out)).2.1
 have q2 : ∀ x,SameB W b P x → x.cell? ⟨P,2,none⟩ = some (.string ⟨s.toArray⟩):=fun x hx => (cells4 (hx.2.trans HN0.out)).2.2.1
 have q3 : ∀ x,SameB W b P x → x.cell? ⟨P,3,none⟩ = some (.int .i64 p):=fun x hx => (cells4 (hx.2.trans HN0.out)).2.2.2
 have HPL : Hid (P < W.heap.size):=Lib.hid (lt_of_block HN0.out)
 have HBL : Hid (b < W.heap.size):=Lib.hid (lt_of_block HP1.out)
 clear hP
 refine wp_region_plan (SameB W b P) 8 [.reads [0,1,2,3,4,5],.act 6,.act 7,.act 8,.act 9,.act 10] (by kernel_rfl) (by kernel_rfl) (by kernel_rfl) (by kernel_rfl) (by kernel_rfl) (fun _ _ d _ _ h => by cases d <;> exact h) ⟨rfl,rfl⟩ ?_
 refine wpPlan_reads ?_
 simp only [pickOps,List.drop_succ_cons,List.drop_zero,List.take_succ_cons,List.take_zero,List.cons_append,List.nil_append]
 repeat (go_big_quiet_step (first | (intro hb; rw [k0 _ hb]; exact ⟨rfl,rfl⟩) | (intro hb; rw [q0 _ hb]; simp only [Result.andThen]; rw [q1 _ hb]; simp only; rw [q2 _ hb]; simp only; rw [q3 _ hb]; exact ⟨rfl,rfl⟩)))
 refine wpQuiet_nil ?_
 refine wpPlan_act rfl ?_
 simp only [pickOps,List.drop_succ_cons,List.drop_zero,List.take_succ_cons,List.take_zero,List.cons_append,List.nil_append]
 go_wp2_with fail
 have hg1 : Grows W (W.alloc (nObj k n s p)).drew:=Below.drew ((Below.refl _ _).alloc (Nat.le_refl _) _)
 have H1:=Lib.hid (H0.out.below hg1)
 have HP2:=Lib.hid (blk_below HP1.out hg1)
 have HPP:=Lib.hid (blk_below HN0.out hg1)
 have HT2:=Lib.hid (HT1.out.below (hg1.mono H0.out.size))
 have HO2:=Lib.hid (HO1.out.below hg1)
 have HNN : Hid ((W.alloc (nObj k n s p)).drew.heap[W.heap.size]? = some (nObj k n s p)):=Lib.hid (heap_alloc_new W _)
 have HB2 : Hid (Below B w (W.alloc (nObj k n s p)).drew):=Lib.hid (HB0.out.trans (hg1.mono H0.out.size))
 refine ⟨fun _ => ⟨hg1.block b HBL.out,hg1.block P HPL.out⟩,?_⟩
 have HS2 : Hid (SameB W b P (W.alloc (nObj k n s p)).drew):=Lib.hid ⟨hg1.block b HBL.out,hg1.block P HPL.out⟩
 generalize (W.alloc (nObj k n s p)).drew = V at *
 clear hg1 H0 HN0 HP1 HT1 HO1 HB0 k0 q0 q1 q2 q3
 refine wpPlan_act rfl ?_
 simp only [pickOps,List.drop_succ_cons,List.drop_zero,List.take_succ_cons,List.take_zero,List.cons_append,List.nil_append]
 go_wp2_with (at_builtin; refine wpList_append_node rfl _ _ rfl B _ o rfl HO2.out W.heap.size ⟨k,n,s,p⟩ rfl HNN.out (by omega) H1.out.size ?_; intro v2 w2 ho hg; obtain ⟨a2,c2,rfl⟩:=NodesI.form ho; have HO3:=Lib.hid ho; have HG3:=Lib.hid hg; clear ho hg)
 refine ⟨fun _ => ⟨(HG3.out.block b (lt_of_block HP2.out) (fun e => own_ps HO2.out HP2.out e.symm)).trans HS2.out.1,(HG3.out.block P (lt_of_block HPP.out) (fun e => absurd (HNE.out P e.symm) (Nat.lt_irrefl _))).trans HS2.out.2⟩,?_⟩
 refine wpPlan_act rfl ?_
 simp only [pickOps,List.drop_succ_cons,List.drop_zero,List.take_succ_cons,List.take_zero,List.cons_append,List.nil_append]
 go_wp2_with fail
 refine ⟨fun h => absurd h (by decide),?_⟩
 refine wpPlan_act rfl ?_
 simp only [pickOps,List.drop_succ_cons,List.drop_zero,List.take_succ_cons,List.take_zero,List.cons_append,List.nil_append]
 go_wp2_with fail
 refine ⟨fun h => absurd h (by decide),?_⟩
 refine wpPlan_act rfl ?_
 simp only [pickOps,List.drop_succ_cons,List.drop_zero,List.take_succ_cons,List.take_zero,List.cons_append,List.nil_append]
 have hb3:=(HG3.out.block b (lt_of_block HP2.out) (fun e => own_ps HO2.out HP2.out e.symm)).trans HP2.out
 have f3:=free3 hb3 3
 have c3:=(cells4 hb3).2.2.2
 clear hb3
 go_wp2_with fail
 refine ⟨fun h => absurd h (by decide),wpPlan_nil ?_⟩
 obtain ⟨hr,hlw⟩:=H1.out.grown HP2.out HT2.out HO2.out HG3.out HO3.out
 have HR:=Lib.hid hr
 have HL:=Lib.hid hlw
 have hb9:=(HG3.out.block b (lt_of_block HP2.out) (fun e => own_ps HO2.out HP2.out e.symm)).trans HP2.out
 have c9:=(cells4 (heap_setCell_same _ _ 3 _ _ (.slice a2 (o ++ [(⟨k,n,s,p⟩ : Nd)]).length c2) hb9)).2.2.2
 clear c3 f3 hr hlw HG3 HO3 HP2 HT2 HO2 H1 HPP HNN HS2 hb9
 obtain ⟨O,hO⟩ : ∃ O,o ++ [(⟨k,n,s,p⟩ : Nd)] = O:=⟨_,rfl⟩
 have hOl : O.length = o.length + 1:=by rw [← hO]; simp
 rw [hO] at HR HL c9
 rw [hOl] at HR HL c9
 have HO:=Lib.hid hO
 clear hO hOl
 generalize w2.setCell ⟨b,3,none⟩ (.slice a2 (o.length + 1) c2) = W9 at *
 go_wp2_with fail
 go_ret
 exact ⟨rfl,by rw [HO.out]; exact HR.out,HB2.out.trans HL.out⟩
end
section
open Go.RowKit
attribute [local go_sem] ByteArray.mk_append_mk bs_get bs_cut bs_end
theorem elem_any (op : Int) (w : World) : Calls Tryz.prog 118 #[.int .i64 op] w fun e w' => e = .returned (.bool (elemB op)) ∧ w = w':=by
 go_enter Tryz.func118,Tryz.ntmps118
 go_wp2_with fail
 all_goals
  go_ret
  exact ⟨by simp [elemB, *],rfl⟩
theorem data_any (op : Int) (w : World) : Calls Tryz.prog 117 #[.int .i64 op] w fun e w' => e = .returned (.bool (dataB op)) ∧ w = w':=by
 go_enter Tryz.func117,Tryz.ntmps117
 go_wp2_with fail
 all_goals
  go_ret
  exact ⟨by simp [dataB, *],rfl⟩
theorem data_is (op : Int) (b : Bool) (H : Hid (dataB op = b)) (w : World) : Calls Tryz.prog 117 #[.int .i64 op] w fun e w' => e = .returned (.bool b) ∧ w = w':=by
 have:=data_any op w
 rw [H.out] at this
 exact this
theorem elem_is (op : Int) (b : Bool) (H : Hid (elemB op = b)) (w : World) : Calls Tryz.prog 118 #[.int .i64 op] w fun e w' => e = .returned (.bool b) ∧ w = w':=by
 have:=elem_any op w
 rw [H.out] at this
 exact this
theorem isBlk_any (k : UInt8) (w : World) : Calls Tryz.prog 121 #[.int .u8 k.toNat] w fun e w' => e = .returned (.bool (blkB k)) ∧ w = w':=by
 have h1 : decide (65 ≤ k.toNat) = decide (65 ≤ (k.toNat : Int)):=by simp only [decide_eq_decide]; omega
 have h2 : decide (k.toNat ≤ 90) = decide ((k.toNat : Int) ≤ 90):=by simp only [decide_eq_decide]; omega
 unfold blkB
 rw [h1,h2]
 go_enter Tryz.func121,Tryz.ntmps121
 go_wp2_with fail
 all_goals
  go_ret
  exact ⟨by first | (simp [*]; done) | (simp [*]; omega),rfl⟩
theorem byte_int (k c : UInt8) : ((k.toNat : Int) == (c.toNat : Int)) = (k == c):=(byte_eq k c).trans (by rw [Bool.eq_iff_iff,beq_iff_eq,beq_iff_eq]; exact eq_comm)
theorem isList_any (k : UInt8) (w : World) : Calls Tryz.prog 157 #[.int .u8 k.toNat] w fun e w' => e = .returned (.bool (listB k)) ∧ w = w':=by
 have h1:=byte_int k 73
 have h2:=byte_int k 80
 unfold listB
 rw [← h1,← h2]
 clear h1 h2
 go_enter Tryz.func157,Tryz.ntmps157
 go_wp2_with fail
 all_goals
  go_ret
  exact ⟨by simp [*],rfl⟩
theorem expr_any (op : Int) (w : World) : Calls Tryz.prog 116 #[.int .i64 op] w fun e w' => e = .returned (.bool (exprB op)) ∧ w = w':=by
 obtain ⟨d,hd⟩ : ∃ d,Hid (dataB op = d):=⟨_,Lib.hid rfl⟩
 unfold exprB
 rw [hd.out]
 go_enter Tryz.func116,Tryz.ntmps116
 cases d <;> go_wp2_with (go_at_call 117; ((with_reducible refine (data_is op _ hd _).mono ?_)); rintro e w1 ⟨rfl,rfl⟩)
 all_goals
  go_ret
  exact ⟨by first | (simp [*]; done) | (simp [*]; omega),rfl⟩
theorem expr_is (op : Int) (b : Bool) (H : Hid (exprB op = b)) (w : World) : Calls Tryz.prog 116 #[.int .i64 op] w fun e w' => e = .returned (.bool b) ∧ w = w':=by
 have:=expr_any op w
 rw [H.out] at this
 exact this
theorem acc_110 (op : Int) (w : World) : Calls Tryz.prog 73 #[.int .u8 110,.int .i64 op] w fun e w' => e = .returned (.bool (accB 110 op)) ∧ w = w':=by
 rw [show accB 110 op = (op == 3) from rfl]
 go_enter Tryz.func73,Tryz.ntmps73
 go_wp2_with fail
 all_goals
  go_ret
  exact ⟨by first | (simp [*]; done) | (simp [*]; omega),rfl⟩
theorem acc_115 (op : Int) (w : World) : Calls Tryz.prog 73 #[.int .u8 115,.int .i64 op] w fun e w' => e = .returned (.bool (accB 115 op)) ∧ w = w':=by
 rw [show accB 115 op = (op == 3) from rfl]
 go_enter Tryz.func73,Tryz.ntmps73
 go_wp2_with fail
 all_goals
  go_ret
  exact ⟨by first | (simp [*]; done) | (simp [*]; omega),rfl⟩
theorem acc_105 (op : Int) (w : World) : Calls Tryz.prog 73 #[.int .u8 105,.int .i64 op] w fun e w' => e = .returned (.bool (accB 105 op)) ∧ w = w':=by
 rw [show accB 105 op = (op == 1) from rfl]
 go_enter Tryz.func73,Tryz.ntmps73
 go_wp2_with fail
 all_goals
  go_ret
  exact ⟨by first | (simp [*]; done) | (simp [*]; omega),rfl⟩
theorem acc_73 (op : Int) (w : World) : Calls Tryz.prog 73 #[.int .u8 73,.int .i64 op] w fun e w' => e = .returned (.bool (accB 73 op)) ∧ w = w':=by
 rw [show accB 73 op = (op == 1) from rfl]
 go_enter Tryz.func73,Tryz.ntmps73
 go_wp2_with fail
 all_goals
  go_ret
  exact ⟨by first | (simp [*]; done) | (simp [*]; omega),rfl⟩
theorem acc_101 (op : Int) (w : World) : Calls Tryz.prog 73 #[.int .u8 101,.int .i64 op] w fun e w' => e = .returned (.bool (accB 101 op)) ∧ w = w':=by
 obtain ⟨d,hd⟩ : ∃ d,Hid (exprB op = d):=⟨_,Lib.hid rfl⟩
 rw [show accB 101 op = exprB op from rfl,hd.out]
 go_enter Tryz.func73,Tryz.ntmps73
 cases d <;> go_wp2_with (go_at_call 116; ((with_reducible refine (expr_is op _ hd _).mono ?_)); rintro e w1 ⟨rfl,rfl⟩)
 all_goals
  go_ret
  exact ⟨by first | (simp [*]; done) | (simp [*]; omega),rfl⟩
theorem acc_116 (op : Int) (w : World) : Calls Tryz.prog 73 #[.int .u8 116,.int .i64 op] w fun e w' => e = .returned (.bool (accB 116 op)) ∧ w = w':=by
 rw [show accB 116 op = (op == 3 || op == 6 || op == 7 || op == 76 || op == 84) from rfl]
 go_enter Tryz.func73,Tryz.ntmps73
 go_wp2_with fail
 all_goals
  go_ret
  exact ⟨by first | (simp [*]; done) | (simp [*]; omega),rfl⟩
theorem acc_100 (op : Int) (w : World) : Calls Tryz.prog 73 #[.int .u8 100,.int .i64 op] w fun e w' => e = .returned (.bool (accB 100 op)) ∧ w = w':=by
 obtain ⟨d,hd⟩ : ∃ d,Hid (dataB op = d):=⟨_,Lib.hid rfl⟩
 rw [show accB 100 op = dataB op from rfl,hd.out]
 go_enter Tryz.func73,Tryz.ntmps73
 cases d <;> go_wp2_with (go_at_call 117; ((with_reducible refine (data_is op _ hd _).mono ?_)); rintro e w1 ⟨rfl,rfl⟩)
 all_goals
  go_ret
  exact ⟨by first | (simp [*]; done) | (simp [*]; omega),rfl⟩
theorem acc_80 (op : Int) (w : World) : Calls Tryz.prog 73 #[.int .u8 80,.int .i64 op] w fun e w' => e = .returned (.bool (accB 80 op)) ∧ w = w':=by
 obtain ⟨d,hd⟩ : ∃ d,Hid (dataB op = d):=⟨_,Lib.hid rfl⟩
 rw [show accB 80 op = (dataB op || op == 3) from rfl,hd.out]
 go_enter Tryz.func73,Tryz.ntmps73
 cases d <;> go_wp2_with (go_at_call 117; ((with_reducible refine (data_is op _ hd _).mono ?_)); rintro e w1 ⟨rfl,rfl⟩)
 all_goals
  go_ret
  exact ⟨by first | (simp [*]; done) | (simp [*]; omega),rfl⟩
theorem acc_68 (op : Int) (w : World) : Calls Tryz.prog 73 #[.int .u8 68,.int .i64 op] w fun e w' => e = .returned (.bool (accB 68 op)) ∧ w = w':=by
 obtain ⟨d,hd⟩ : ∃ d,Hid (elemB op = d):=⟨_,Lib.hid rfl⟩
 rw [show accB 68 op = (decide (10 ≤ op) && decide (op ≤ 21) && !elemB op) from rfl,hd.out]
 go_enter Tryz.func73,Tryz.ntmps73
 cases d <;> go_wp2_with (go_at_call 118; ((with_reducible refine (elem_is op _ hd _).mono ?_)); rintro e w1 ⟨rfl,rfl⟩)
 all_goals
  go_ret
  exact ⟨by first | (simp [*]; done) | (simp [*]; omega),rfl⟩
theorem acc_70 (op : Int) (w : World) : Calls Tryz.prog 73 #[.int .u8 70,.int .i64 op] w fun e w' => e = .returned (.bool (accB 70 op)) ∧ w = w':=by
 obtain ⟨d,hd⟩ : ∃ d,Hid (elemB op = d):=⟨_,Lib.hid rfl⟩
 rw [show accB 70 op = elemB op from rfl,hd.out]
 go_enter Tryz.func73,Tryz.ntmps73
 cases d <;> go_wp2_with (go_at_call 118; ((with_reducible refine (elem_is op _ hd _).mono ?_)); rintro e w1 ⟨rfl,rfl⟩)
 all_goals
  go_ret
  exact ⟨by first | (simp [*]; done) | (simp [*]; omega),rfl⟩
theorem acc_83 (op : Int) (w : World) : Calls Tryz.prog 73 #[.int .u8 83,.int .i64 op] w fun e w' => e = .returned (.bool (accB 83 op)) ∧ w = w':=by
 rw [show accB 83 op = ((decide (30 ≤ op) && decide (op ≤ 42)) || op == 5) from rfl]
 go_enter Tryz.func73,Tryz.ntmps73
 go_wp2_with fail
 all_goals
  go_ret
  exact ⟨by first | (simp [*]; done) | (simp [*]; omega),rfl⟩
theorem acc_none (k : UInt8) (op : Int) (w : World) (h110 : k ≠ 110) (h115 : k ≠ 115) (h105 : k ≠ 105) (h73 : k ≠ 73) (h101 : k ≠ 101) (h116 : k ≠ 116) (h100 : k ≠ 100) (h80 : k ≠ 80) (h68 : k ≠ 68) (h70 : k ≠ 70) (h83 : k ≠ 83) : Calls Tryz.prog 73 #[.int .u8 k.toNat,.int .i64 op] w fun e w' => e = .returned (.bool false) ∧ w = w':=by
 have e110 : ((k.toNat : Int) == 110) = false:=(byte_int k 110).trans (beq_eq_false_iff_ne.2 h110)
 have e115 : ((k.toNat : Int) == 115) = false:=(byte_int k 115).trans (beq_eq_false_iff_ne.2 h115)
 have e105 : ((k.toNat : Int) == 105) = false:=(byte_int k 105).trans (beq_eq_false_iff_ne.2 h105)
 have e73 : ((k.toNat : Int) == 73) = false:=(byte_int k 73).trans (beq_eq_false_iff_ne.2 h73)
 have e101 : ((k.toNat : Int) == 101) = false:=(byte_int k 101).trans (beq_eq_false_iff_ne.2 h101)
 have e116 : ((k.toNat : Int) == 116) = false:=(byte_int k 116).trans (beq_eq_false_iff_ne.2 h116)
 have e100 : ((k.toNat : Int) == 100) = false:=(byte_int k 100).trans (beq_eq_false_iff_ne.2 h100)
 have e80 : ((k.toNat : Int) == 80) = false:=(byte_int k 80).trans (beq_eq_false_iff_ne.2 h80)
 have e68 : ((k.toNat : Int) == 68) = false:=(byte_int k 68).trans (beq_eq_false_iff_ne.2 h68)
 have e70 : ((k.toNat : Int) == 70) = false:=(byte_int k 70).trans (beq_eq_false_iff_ne.2 h70)
 have e83 : ((k.toNat : Int) == 83) = false:=(byte_int k 83).trans (beq_eq_false_iff_ne.2 h83)
 clear h110 h115 h105 h73 h101 h116 h100 h80 h68 h70 h83
 go_enter Tryz.func73,Tryz.ntmps73
 go_wp2_with fail
 go_ret
 exact ⟨rfl,rfl⟩
theorem acc_any (k : UInt8) (op : Int) (w : World) : Calls Tryz.prog 73 #[.int .u8 k.toNat,.int .i64 op] w fun e w' => e = .returned (.bool (accB k op)) ∧ w = w':=by
 by_cases h110 : k = 110
 ·subst h110; exact acc_110 op w
 by_cases h115 : k = 115
 ·subst h115; exact acc_115 op w
 by_cases h105 : k = 105
 ·subst h105; exact acc_105 op w
 by_cases h73 : k = 73
 ·subst h73; exact acc_73 op w
 by_cases h101 : k = 101
 ·subst h101; exact acc_101 op w
 by_cases h116 : k = 116
 ·subst h116; exact acc_116 op w
 by_cases h100 : k = 100
 ·subst h100; exact acc_100 op w
 by_cases h80 : k = 80
 ·subst h80; exact acc_80 op w
 by_cases h68 : k = 68
 ·subst h68; exact acc_68 op w
 by_cases h70 : k = 70
 ·subst h70; exact acc_70 op w
 by_cases h83 : k = 83
 ·subst h83; exact acc_83 op w
 have e : accB k op = false:=by unfold accB; simp only [h110,h115,h105,h73,h101,h116,h100,h80,h68,h70,h83,or_self,if_false]
 rw [e]
 exact acc_none k op w h110 h115 h105 h73 h101 h116 h100 h80 h68 h70 h83
theorem acc_is (k : UInt8) (op : Int) (b : Bool) (H : Hid (accB k op = b)) (w : World) : Calls Tryz.prog 73 #[.int .u8 k.toNat,.int .i64 op] w fun e w' => e = .returned (.bool b) ∧ w = w':=by
 have:=acc_any k op w
 rw [H.out] at this
 exact this
theorem isBlk_is (k : UInt8) (b : Bool) (H : Hid (blkB k = b)) (w : World) : Calls Tryz.prog 121 #[.int .u8 k.toNat] w fun e w' => e = .returned (.bool b) ∧ w = w':=by
 have:=isBlk_any k w
 rw [H.out] at this
 exact this
theorem isList_is (k : UInt8) (b : Bool) (H : Hid (listB k = b)) (w : World) : Calls Tryz.prog 157 #[.int .u8 k.toNat] w fun e w' => e = .returned (.bool b) ∧ w = w':=by
 have:=isList_any k w
 rw [H.out] at this
 exact this
end
end Go.Proofs.YtnicnfchkdmieaaGreatDoor
