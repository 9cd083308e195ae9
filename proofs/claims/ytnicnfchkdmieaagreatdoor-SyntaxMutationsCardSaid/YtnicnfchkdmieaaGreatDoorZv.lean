/- Rg Rj Rk Rl Rm Rn Ro -/
import Derived.Test.YtnicnfchkdmieaaGreatDoorZt
import Derived.Test.YtnicnfchkdmieaaGreatDoorZSk
set_option linter.unusedVariables false
set_option linter.unusedSimpArgs false
namespace Go.Proofs.YtnicnfchkdmieaaGreatDoor
section
open Go.RowKit
attribute [local go_sem] ByteArray.mk_append_mk bs_get bs_cut bs_end
theorem RSt.kids {m F : Int} {B b i : Nat} {w : World} {L : List TokI} {o ns : List Nd} {a n : Int} {s : List UInt8} {p : Int} (h : RSt m B b w L i F (o ++ ⟨a, n, s, p⟩ :: ns)) :
 ∃ tv g c, w.heap[b]? = some (rpObj tv i (.slice (some ⟨g, 0, none⟩) (o ++ ⟨a, n, s, p⟩ :: ns).length c) F) ∧ w.cell? ⟨g, o.length * 4 + 3, none⟩ = some (.int .i64 p) ∧ w.frozen? ⟨g, o.length * 4 + 3, none⟩ = false ∧
   ∀ u : Int, RSt m B b (w.setCell ⟨g, o.length * 4 + 3, none⟩ (.int .i64 u)) L i F (o ++ ⟨a, n, s, u⟩ :: ns) ∧ Below B w (w.setCell ⟨g, o.length * 4 + 3, none⟩ (.int .i64 u)) := by
 obtain ⟨⟨tv, nv, h1, h2, h3⟩, h4, h5, h6, h7, h8, h9, ha, hc, hd⟩ := h
 have hne := own_rp h3 h1
 obtain ⟨g, c, hnv, hB⟩ : ∃ g c, nv = .slice (some ⟨g, 0, none⟩) (o ++ ⟨a, n, s, p⟩ :: ns).length c ∧ B ≤ g := by
  rcases h3.2 with ⟨_, h0⟩ | ⟨g, cap, cur, e, hb, _⟩
  ·simp at h0
  ·exact ⟨g, cap, e, hb⟩
 subst hnv
 refine ⟨tv, g, c, h1, ?_, World.ownsRow.frozenAt h3 _, fun u => ?_⟩
 ·rw [World.ownsRow.cellAt h3 _ (by simp; omega)]
  exact tcI_kids o ns a n s p
 ·obtain ⟨k1, k2⟩ := World.ownsRow.stored h3 (o.length * 4 + 3) (.int .i64 u)
  rw [tcI_set] at k1
  have hL : (o ++ ⟨a, n, s, p⟩ :: ns).length = (o ++ (⟨a, n, s, u⟩ : Nd) :: ns).length := by simp
  have hb : Below B w (w.setCell ⟨g, o.length * 4 + 3, none⟩ (.int .i64 u)) := (Below.refl _ _).setCell hB _
  rw [hL] at k1 h1 hd
  refine ⟨⟨⟨tv, _, blk_other h1 _ _ (fun e => hne (by simp [Value.ownBlock, e])), h2.below hb, k1⟩, h4, Nat.le_trans h5 hb.size, h6.below hb h7, h7, h8, h9, ha, hc, hd⟩, hb⟩
def rLeft (w : World) (b : Nat) : Nat := match w.cell? ⟨b, 3, none⟩, w.cell? ⟨b, 0, none⟩, w.cell? ⟨b, 1, none⟩ with
 | some (.int _ F), some (.slice _ n _), some (.int _ i) => if 0 ≤ F then 0 else 1 + (n - i.toNat)
 | _, _, _ => 0
theorem RSt.left {m F : Int} {B b i : Nat} {w : World} {L : List TokI} {o : List Nd} (h : RSt m B b w L i F o) : rLeft w b = if 0 ≤ F then 0 else 1 + (L.length - i) := by
 obtain ⟨tv, nv, h1, ⟨a, cap, rfl, _⟩, h3⟩ := h.ex
 unfold rLeft
 obtain ⟨c0, c1, c2, c3⟩ := cells4 h1
 rw [c0, c1, c3]
 simp only [Int.toNat_natCast]
def RPost (m : Int) (B b : Nat) (L : List TokI) (w : World) (o : List Nd) (x : PR) (e : Ending) (w' : World) : Prop :=
 e = .returned (.tuple #[]) ∧ Below B w w' ∧ match x with
 | .no y => ∃ (i j : Nat) (o' : List Nd), y = L.drop j ∧ RSt m B b w' L i j o'
 | .ok y ns => ∃ i : Nat, y = L.drop i ∧ RSt m B b w' L i (-1) (o ++ ns)
def RSub (m : Int) (B b : Nat) (L : List TokI) (sub : UInt8 → List TokI → PR) (n : Nat) : Prop :=
 ∀ (k : UInt8) (i : Nat) (o : List Nd) (w : World), RSt m B b w L i (-1) o → L.length - i ≤ n →
   Calls Tryz.prog 50 #[.pointer (some ⟨b, 0, none⟩), .int .u8 k.toNat] w (RPost m B b L w o (sub k (L.drop i)))
section
variable (sub : UInt8 → List TokI → PR)
def callA (text : List UInt8) (m : Nat) (ns : List Nd) (r : List TokI) : PR :=
 if atT 6 r = true then .ok r.tail (⟨5, 0, text, m⟩ :: ns)
 else if m = 0 then callL sub text 7 0 ns r
 else if m = 7 ∨ atT 9 r = false then .no r
 else callL sub text (7 - m) m ns r.tail
theorem callA_start (text : List UInt8) (r : List TokI) : callA sub text 0 [] r = callP sub text r := by
 unfold callA callP
 rw [if_pos rfl]
 rfl
theorem callL_step (text : List UInt8) (m : Nat) (hm : m < 7) (ns : List Nd) (r : List TokI) : callL sub text (7 - m) m ns r = match sub 101 r with
 | .no x => .no x
 | .ok r1 n1 => callA sub text (m + 1) (ns ++ n1) r1 := by
 obtain ⟨f, hf⟩ : ∃ f, 7 - m = f + 1 := ⟨6 - m, by omega⟩
 rw [hf, callL]
 cases sub 101 r with
 | no x => rfl
 | ok r1 n1 =>
   simp only []
   unfold callA
   rw [if_neg (show ¬ m + 1 = 0 by omega)]
   by_cases h6 : atT 6 r1 = true
   ·have h9 : atT 9 r1 = false := by
     cases r1 with
     | nil => rfl
     | cons t q =>
       have e : t.kind = 6 := by simpa [atT] using h6
       simp [atT, e]
    rw [if_pos (.inr h9), if_pos h6, if_pos h6]
   ·rw [if_neg h6, if_neg h6]
    by_cases h : m + 1 = 7 ∨ atT 9 r1 = false
    ·rw [if_pos h, if_pos h]
    ·rw [if_neg h, if_neg h, show 7 - (m + 1) = f by omega]
end
end
section
open Go.RowKit
attribute [local go_sem] ByteArray.mk_append_mk bs_get bs_cut bs_end
def lookP : List TokI → Nd
 | [] => ⟨0, 0, [], 0⟩
 | t :: _ => if t.kind = 3 then ⟨1, t.num, [], 0⟩ else if t.kind = 4 then ⟨2, 0, t.str, 0⟩
   else if t.kind = 1 then (if parOk t.str = true then ⟨3, 0, t.str, 0⟩ else ⟨0, 0, [], 0⟩)
   else if t.kind = 2 then (match varW t.str with | some (op, n) => ⟨op, n, [], 0⟩ | none => ⟨opW t.str, 0, [], 0⟩)
   else ⟨0, 0, [], 0⟩
theorem oth4 {w : World} {p : Nat} {o : Obj} (h : w.heap[p]? = some o) (b : Nat) (hb : p ≠ b) (a0 a1 a2 a3 : Value) : ((((w.setCell ⟨b, 0, none⟩ a0).setCell ⟨b, 1, none⟩ a1).setCell ⟨b, 2, none⟩ a2).setCell ⟨b, 3, none⟩ a3).heap[p]? = some o :=
 blk_other (blk_other (blk_other (blk_other h _ _ hb) _ _ hb) _ _ hb) _ _ hb
theorem ret_look (tmps : Array Value) (w : World) (b : Nat) (c0 c1 c2 c3 : Value) (h2 : tmps.getD 2 undef = .pointer (some ⟨b, 0, none⟩)) (hb : w.heap[b]? = some (.cells #[c0, c1, c2, c3] 42 (0, 0))) :
 (results Tryz.f100 tmps).run Tryz.prog w = .ok (.agg #[c0, c1, c2, c3]) w := by
 obtain ⟨e0, e1, e2, e3⟩ := cells4 hb
 have h2' : tmps[2]?.getD undef = .pointer (some ⟨b, 0, none⟩) := by rw [← h2]; simp
 simp [results]
 go_simp
set_option maxRecDepth 100000 in
set_option maxHeartbeats 8000000 in
theorem look_ref (m F : Int) (B b i : Nat) (w : World) (L : List TokI) (o : List Nd) (h : RSt m B b w L i F o) (hL : L.length ≤ 1000000) :
 Calls Tryz.prog 100 #[.pointer (some ⟨b, 0, none⟩)] w fun e w' => e = .returned (tokV (lookP (L.drop i)).kind (lookP (L.drop i)).num (lookP (L.drop i)).str (lookP (L.drop i)).pos) ∧ Below w.heap.size w w' := by
 obtain ⟨X, hX⟩ : ∃ X, Hid (lookP (L.drop i) = X) := ⟨_, Lib.hid rfl⟩
 rw [hX.out]
 have HB0 : Hid (Below w.heap.size w (w.alloc (nObj 0 0 [] 0))) := Lib.hid ((Below.refl _ _).alloc (Nat.le_refl _) _)
 have HE0 : Hid ((w.alloc (nObj 0 0 [] 0)).heap[w.heap.size]? = some (nObj 0 0 [] 0)) := Lib.hid (heap_alloc_new _ _)
 have H0 := Lib.hid (h.alloc (nObj 0 0 [] 0))
 obtain ⟨P, hP⟩ : ∃ P, w.heap.size = P := ⟨_, rfl⟩
 have HPE := Lib.hid hP
 have hgood := h.good
 clear h
 unfold tokV
 go_enter Tryz.func100, Tryz.ntmps100
 go_upto_region 1 with fail
 (try simp only [hP])
 rw [hP] at HB0 HE0
 generalize w.alloc (nObj 0 0 [] 0) = W0 at *
 clear hP
 have hszP : P < W0.heap.size := lt_of_block HE0.out
 cases hd : L.drop i with
 | nil =>
   obtain ⟨⟨tv, nv, h1, ⟨a, cap, rfl, hl, hc⟩, h3⟩, h4, h5, h6, h7, h8, h9, ha, hc', hd'⟩ := H0.out
   have HX : Hid (X = ⟨0, 0, [], 0⟩) := Lib.hid (by rw [← hX.out, hd] <;> rfl)
   have hi : (i : Int) ≥ (L.length : Int) := by
    have := congrArg List.length hd
    rw [List.length_drop] at this
    simp only [List.length_nil] at this
    omega
   obtain ⟨c0, c1, c2, c3⟩ := cells4 h1
   clear hc h3 h6 h8 h1 hd h7 hX hgood hd' hc' H0
   obtain ⟨p0, p1, p2, p3⟩ := cells4 HE0.out
   have f0 := free3 HE0.out 0
   have f1 := free3 HE0.out 1
   have f2 := free3 HE0.out 2
   have f3 := free3 HE0.out 3
   go_quiet (fail)
   go_wp2_with fail
   exact bodyPost_ret (ret_look _ _ _ _ _ _ _ rfl (put4 (blk_drewN HE0.out _) _ _ _ _)) rfl ⟨by rw [HX.out], by rw [HPE.out]; exact bel4 (below_drewN HB0.out _) (Nat.le_refl _) _ _ _ _⟩
 | cons t q =>
   obtain ⟨⟨tv, nv, h1, h2, h3⟩, h4, h5, h6, h7, h8, h9, ha, hc', hd'⟩ := H0.out
   obtain ⟨g, off, cap, rfl, hgB, hi, t0, t1, t2, t3⟩ := h2.drop_cells hd
   have hgt := hgood t (List.mem_of_mem_drop (by rw [hd]; exact List.mem_cons_self ..))
   have HX0 : Hid (X = lookP (t :: q)) := Lib.hid (by rw [← hX.out, hd])
   obtain ⟨c0, c1, c2, c3⟩ := cells4 h1
   have hi1 : ¬ (i : Int) ≥ (L.length : Int) := by omega
   have hi2 : (i : Int) < (L.length : Int) := by omega
   clear h3 h6 h8 h1 hd h7 h2 hX hgood hd' hc' h9 H0 ha
   obtain ⟨tk, tn, ts, tp⟩ := t
   simp only at t0 t1 t2 t3 hgt
   have HTS := Lib.hid hgt.1
   go_quiet (fail)
   go_upto_region 3 with fail
   have b0 := Lib.hid c0
   have b1 := Lib.hid c1
   have HD1 : Hid (Below P w (W0.drewN nq)) := Lib.hid (below_drewN HB0.out _)
   have HE1 : Hid ((W0.drewN nq).heap[P]? = some (nObj 0 0 [] 0)) := Lib.hid HE0.out
   have k0 : ∀ x, Grows (W0.drewN nq) x → x.cell? ⟨b, 0, none⟩ = some _ := fun x hx => (hx.cell (p := ⟨b, 0, none⟩) (World.block_lt_of_cell? _ ⟨b, 0, none⟩ c0)).trans c0
   have k1 : ∀ x, Grows (W0.drewN nq) x → x.cell? ⟨b, 1, none⟩ = some _ := fun x hx => (hx.cell (p := ⟨b, 1, none⟩) (World.block_lt_of_cell? _ ⟨b, 1, none⟩ c1)).trans c1
   have q0 : ∀ x, Grows (W0.drewN nq) x → x.cell? ⟨g, off + i * 4, none⟩ = some _ := fun x hx => (hx.cell (p := ⟨g, off + i * 4, none⟩) (World.block_lt_of_cell? _ ⟨g, off + i * 4, none⟩ t0)).trans t0
   have q1 : ∀ x, Grows (W0.drewN nq) x → x.cell? ⟨g, off + i * 4 + 1, none⟩ = some _ := fun x hx => (hx.cell (p := ⟨g, off + i * 4 + 1, none⟩) (World.block_lt_of_cell? _ ⟨g, off + i * 4 + 1, none⟩ t1)).trans t1
   have q2 : ∀ x, Grows (W0.drewN nq) x → x.cell? ⟨g, off + i * 4 + 2, none⟩ = some _ := fun x hx => (hx.cell (p := ⟨g, off + i * 4 + 2, none⟩) (World.block_lt_of_cell? _ ⟨g, off + i * 4 + 2, none⟩ t2)).trans t2
   have q3 : ∀ x, Grows (W0.drewN nq) x → x.cell? ⟨g, off + i * 4 + 3, none⟩ = some _ := fun x hx => (hx.cell (p := ⟨g, off + i * 4 + 3, none⟩) (World.block_lt_of_cell? _ ⟨g, off + i * 4 + 3, none⟩ t3)).trans t3
   generalize W0.drewN nq = W at *
   refine wp_region_plan (Grows W) 11 [.reads [0, 1, 2, 3, 4, 5, 6, 7, 8, 9], .act 10, .act 11] (by kernel_rfl) (by kernel_rfl) (by kernel_rfl) (by kernel_rfl) (by kernel_rfl) (fun _ _ d _ _ h => by cases d <;> exact h) (Grows.self _) ?_
   refine wpPlan_reads ?_
   simp only [pickOps, List.drop_succ_cons, List.drop_zero, List.take_succ_cons, List.take_zero, List.cons_append, List.nil_append]
   repeat (go_big_quiet_step (first | (intro hb; rw [q0 _ hb]; simp only [Result.andThen]; rw [q1 _ hb]; simp only; rw [q2 _ hb]; simp only; rw [q3 _ hb]; exact ⟨rfl, rfl⟩) | (intro hb; rw [k0 _ hb]; exact ⟨rfl, rfl⟩) | (intro hb; rw [k1 _ hb]; exact ⟨rfl, rfl⟩)))
   refine wpQuiet_nil ?_
   clear k0 k1 q0 q1 q2 q3 t0 t1 t2 t3 c0 c1 c2 c3 b0 b1
   refine wpPlan_act rfl ?_
   simp only [pickOps, List.drop_succ_cons, List.drop_zero, List.take_succ_cons, List.take_zero, List.cons_append, List.nil_append]
   go_wp2_with fail
   have hg : Grows W (W.alloc (tObj 0 0 [] 0)).drew := Below.drew ((Below.refl _ _).alloc (Nat.le_refl _) _)
   have HTB : Hid ((W.alloc (tObj 0 0 [] 0)).drew.heap[W.heap.size]? = some (tObj 0 0 [] 0)) := Lib.hid (heap_alloc_new _ _)
   have HE2 := Lib.hid (blk_below HE1.out hg)
   have hPT : P < W.heap.size := lt_of_block HE1.out
   have HBV : Hid (Below P w (W.alloc (tObj 0 0 [] 0)).drew) := Lib.hid (HD1.out.trans (hg.mono (by omega)))
   refine ⟨hg, ?_⟩
   clear hg HE0 HE1 HD1 HB0 hszP
   generalize (W.alloc (tObj 0 0 [] 0)).drew = V at *
   obtain ⟨T, hT⟩ : ∃ T, W.heap.size = T := ⟨_, rfl⟩
   simp only [hT] at HTB hPT ⊢
   clear hT
   refine wpPlan_act rfl ?_
   simp only [pickOps, List.drop_succ_cons, List.drop_zero, List.take_succ_cons, List.take_zero, List.cons_append, List.nil_append]
   have g0 := free3 HTB.out 0
   have g1 := free3 HTB.out 1
   have g2 := free3 HTB.out 2
   have g3 := free3 HTB.out 3
   obtain ⟨c0, c1, c2, c3⟩ := cells4 HTB.out
   go_wp2_with fail
   refine ⟨fun h => absurd h (by decide), wpPlan_nil ?_⟩
   have HTV := Lib.hid (put4 HTB.out (.int .i64 tk) (.int .u64 tn) (.string ⟨ts.toArray⟩) (.int .i64 tp))
   have HEV := Lib.hid (oth4 HE2.out T (by omega) (.int .i64 tk) (.int .u64 tn) (.string ⟨ts.toArray⟩) (.int .i64 tp))
   have HBX : Hid (Below P w ((((V.setCell ⟨T, 0, none⟩ (.int .i64 tk)).setCell ⟨T, 1, none⟩ (.int .u64 tn)).setCell ⟨T, 2, none⟩ (.string ⟨ts.toArray⟩)).setCell ⟨T, 3, none⟩ (.int .i64 tp))) := Lib.hid (bel4 HBV.out (by omega) _ _ _ _)
   clear c0 c1 c2 c3 g0 g1 g2 g3 HTB HE2 HBV
   generalize ((((V.setCell ⟨T, 0, none⟩ (.int .i64 tk)).setCell ⟨T, 1, none⟩ (.int .u64 tn)).setCell ⟨T, 2, none⟩ (.string ⟨ts.toArray⟩)).setCell ⟨T, 3, none⟩ (.int .i64 tp)) = V2 at *
   obtain ⟨t0, t1, t2, t3⟩ := cells4 HTV.out
   obtain ⟨p0, p1, p2, p3⟩ := cells4 HEV.out
   have f0 := free3 HEV.out 0
   have f1 := free3 HEV.out 1
   have f2 := free3 HEV.out 2
   have f3 := free3 HEV.out 3
   have hgt2 := hgt.2
   have HKS := Lib.hid hgt2
   clear hgt hgt2 hi1 hi2 hi
   by_cases c3 : tk = 3
   ·subst c3
    have HX : Hid (X = ⟨1, tn, [], 0⟩) := Lib.hid HX0.out
    go_wp2_with fail
    exact bodyPost_ret (ret_look _ _ _ _ _ _ _ rfl (put4 HEV.out _ _ _ _)) rfl ⟨by rw [HX.out], by rw [HPE.out]; exact bel4 HBX.out (Nat.le_refl _) _ _ _ _⟩
   have e3 : (tk == 3) = false := beq_eq_false_iff_ne.2 c3
   by_cases c4 : tk = 4
   ·subst c4
    have HX : Hid (X = ⟨2, 0, ts, 0⟩) := Lib.hid HX0.out
    go_wp2_with fail
    exact bodyPost_ret (ret_look _ _ _ _ _ _ _ rfl (put4 HEV.out _ _ _ _)) rfl ⟨by rw [HX.out], by rw [HPE.out]; exact bel4 HBX.out (Nat.le_refl _) _ _ _ _⟩
   have e4 : (tk == 4) = false := beq_eq_false_iff_ne.2 c4
   by_cases c1 : tk = 1
   ·subst c1
    have HX1 : Hid (X = if parOk ts = true then ⟨3, 0, ts, 0⟩ else ⟨0, 0, [], 0⟩) := Lib.hid HX0.out
    have HPA := Lib.hid (rparse_any ts V2 (by have := HTS.out; omega))
    unfold parPost PPost at HPA
    obtain ⟨O, hO⟩ : ∃ O, parOk ts = O := ⟨_, rfl⟩
    obtain ⟨R, hR⟩ : ∃ R, (parOk ts && parRoot ts) = R := ⟨_, rfl⟩
    obtain ⟨U, hU⟩ : ∃ U : Int, (if parOk ts = true then (parUp ts : Int) else 0) = U := ⟨_, rfl⟩
    obtain ⟨S, hS⟩ : ∃ S, (if parOk ts = true then parSegs ts else []) = S := ⟨_, rfl⟩
    rw [hR, hU, hS, hO] at HPA
    rw [hO] at HX1
    clear hR hU hS hO
    have hVP : P < V2.heap.size := lt_of_block HEV.out
    go_wp2_with fail
    ((with_reducible refine HPA.out.mono ?_))
    rintro e w1 ⟨v, rfl, hv, hb1⟩
    obtain ⟨va, vc, rfl⟩ := own_strs_form hv
    have hal : Below w1.heap.size w1 (w1.alloc (pObj R U (.slice va S.length vc))) := (Below.refl _ _).alloc (Nat.le_refl _) _
    have HB1 : Hid (Below P w w1) := Lib.hid (HBX.out.trans (hb1.mono (by omega)))
    have hVP1 : P < w1.heap.size := Nat.lt_of_lt_of_le hVP hb1.size
    have HB2 : Hid (Below P w (w1.alloc (pObj R U (.slice va S.length vc)))) := Lib.hid (HB1.out.trans (hal.mono (by omega)))
    have HE2 := Lib.hid (blk_below (blk_below HEV.out hb1) hal)
    have HT2 := Lib.hid (blk_below (blk_below HTV.out hb1) hal)
    clear hv hb1 hal HPA t0 t1 t2 t3 p0 p1 p2 p3 f0 f1 f2 f3
    go_upto_region 11 with fail
    generalize w1.alloc (pObj R U (.slice va S.length vc)) = V3 at *
    obtain ⟨t0, t1, t2, t3⟩ := cells4 HT2.out
    obtain ⟨p0, p1, p2, p3⟩ := cells4 HE2.out
    have f0 := free3 HE2.out 0
    have f1 := free3 HE2.out 1
    have f2 := free3 HE2.out 2
    have f3 := free3 HE2.out 3
    cases O with
    | true =>
      have HX : Hid (X = ⟨3, 0, ts, 0⟩) := Lib.hid HX1.out
      go_wp2_with fail
      exact bodyPost_ret (ret_look _ _ _ _ _ _ _ rfl (put4 HE2.out _ _ _ _)) rfl ⟨by rw [HX.out], by rw [HPE.out]; exact bel4 HB2.out (Nat.le_refl _) _ _ _ _⟩
    | false =>
      have HX : Hid (X = ⟨0, 0, [], 0⟩) := Lib.hid HX1.out
      go_wp2_with fail
      exact bodyPost_ret (ret_look _ _ _ _ _ _ _ rfl (put4 HE2.out _ _ _ _)) rfl ⟨by rw [HX.out], by rw [HPE.out]; exact bel4 HB2.out (Nat.le_refl _) _ _ _ _⟩
   have e1 : (tk == 1) = false := beq_eq_false_iff_ne.2 c1
   by_cases c2 : tk = 2
   ·subst c2
    have HX1 : Hid (X = match varW ts with | some (op, n) => ⟨op, n, [], 0⟩ | none => ⟨opW ts, 0, [], 0⟩) := Lib.hid HX0.out
    rw [varW_num] at HX1
    have hn8 := numV_lt ts [76, 111, 99, 97, 108] 8 (by omega)
    have hn7 := numV_lt ts [65, 114, 103] 7 (by omega)
    have HN8 := Lib.hid (fun w => numbered_any ts [76, 111, 99, 97, 108] 8 w (by have := HTS.out; omega) (by simp))
    have HN7 := Lib.hid (fun w => numbered_any ts [65, 114, 103] 7 w (by have := HTS.out; omega) (by simp))
    generalize numV ts [76, 111, 99, 97, 108] 8 = a8 at *
    generalize numV ts [65, 114, 103] 7 = a7 at *
    have HWO := Lib.hid (wordOf_any ts V2 (by have := HTS.out; omega))
    have hop := wordF_opW ts
    obtain ⟨R, hR⟩ : ∃ R, wordF ts = R := ⟨_, rfl⟩
    rw [hR] at HWO hop
    obtain ⟨ra, rb, rc, hab⟩ : ∃ a b c, rowR R = (a, b, c) := ⟨(rowR R).1, (rowR R).2.1, (rowR R).2.2, rfl⟩
    obtain ⟨ok, hok⟩ : ∃ ok, R.isSome = ok := ⟨_, rfl⟩
    rw [hab] at hop
    rw [hab, hok] at HWO
    have hop2 : ra = opW ts := hop
    rw [← hop2] at HX1
    clear hR hab hok hop hop2
    by_cases h8 : 0 ≤ a8
    ·have HX : Hid (X = ⟨6, a8, [], 0⟩) := Lib.hid (by rw [HX1.out, if_pos h8]; simp only []; congr 1; omega)
     go_wp2_with fail
     ((with_reducible refine (HN8.out _).mono ?_))
     rintro e w1 ⟨rfl, rfl⟩
     go_wp2_with fail
     exact bodyPost_ret (ret_look _ _ _ _ _ _ _ rfl (put4 HEV.out _ _ _ _)) rfl ⟨by rw [HX.out], by rw [HPE.out]; exact bel4 HBX.out (Nat.le_refl _) _ _ _ _⟩
    ·rw [if_neg h8] at HX1
     by_cases h7 : 0 ≤ a7
     ·have HX : Hid (X = ⟨7, a7, [], 0⟩) := Lib.hid (by rw [HX1.out, if_pos h7]; simp only []; congr 1; omega)
      go_wp2_with fail
      ((with_reducible refine (HN8.out _).mono ?_))
      rintro e w1 ⟨rfl, rfl⟩
      go_wp2_with fail
      ((with_reducible refine (HN7.out _).mono ?_))
      rintro e w1 ⟨rfl, rfl⟩
      go_wp2_with fail
      exact bodyPost_ret (ret_look _ _ _ _ _ _ _ rfl (put4 HEV.out _ _ _ _)) rfl ⟨by rw [HX.out], by rw [HPE.out]; exact bel4 HBX.out (Nat.le_refl _) _ _ _ _⟩
     ·have HX : Hid (X = ⟨ra, 0, [], 0⟩) := Lib.hid (by rw [HX1.out, if_neg h7])
      have hVP : P < V2.heap.size := lt_of_block HEV.out
      go_wp2_with fail
      ((with_reducible refine (HN8.out _).mono ?_))
      rintro e w1 ⟨rfl, rfl⟩
      go_wp2_with fail
      ((with_reducible refine (HN7.out _).mono ?_))
      rintro e w1 ⟨rfl, rfl⟩
      go_wp2_with fail
      ((with_reducible refine HWO.out.mono ?_))
      rintro e w1 ⟨rfl, hb1⟩
      have hal : Below w1.heap.size w1 (w1.alloc (rwObj ra rb rc)) := (Below.refl _ _).alloc (Nat.le_refl _) _
      have HB1 : Hid (Below P w w1) := Lib.hid (HBX.out.trans (hb1.mono (by omega)))
      have hVP1 : P < w1.heap.size := Nat.lt_of_lt_of_le hVP hb1.size
      have HB2 : Hid (Below P w (w1.alloc (rwObj ra rb rc))) := Lib.hid (HB1.out.trans (hal.mono (by omega)))
      have HE2 := Lib.hid (blk_below (blk_below HEV.out hb1) hal)
      have HR2 := Lib.hid (heap_alloc_new w1 (rwObj ra rb rc))
      clear hb1 hal HWO t0 t1 t2 t3 p0 p1 p2 p3 f0 f1 f2 f3
      go_upto_region 21 with fail
      generalize w1.alloc (rwObj ra rb rc) = V3 at *
      obtain ⟨r0, r1, r2⟩ := cells3 HR2.out
      obtain ⟨p0, p1, p2, p3⟩ := cells4 HE2.out
      have f0 := free3 HE2.out 0
      have f1 := free3 HE2.out 1
      have f2 := free3 HE2.out 2
      have f3 := free3 HE2.out 3
      go_wp2_with fail
      exact bodyPost_ret (ret_look _ _ _ _ _ _ _ rfl (put4 HE2.out _ _ _ _)) rfl ⟨by rw [HX.out], by rw [HPE.out]; exact bel4 HB2.out (Nat.le_refl _) _ _ _ _⟩
   have e2 : (tk == 2) = false := beq_eq_false_iff_ne.2 c2
   have HX : Hid (X = ⟨0, 0, [], 0⟩) := Lib.hid (by rw [HX0.out]; unfold lookP; simp only [c1, c2, c3, c4, if_false])
   go_wp2_with fail
   exact bodyPost_ret (ret_look _ _ _ _ _ _ _ rfl (put4 HEV.out _ _ _ _)) rfl ⟨by rw [HX.out], by rw [HPE.out]; exact bel4 HBX.out (Nat.le_refl _) _ _ _ _⟩
end
section
open Go.RowKit
attribute [local go_sem] ByteArray.mk_append_mk bs_get bs_cut bs_end
theorem take_run (m k : Int) (B b i : Nat) (w : World) (L : List TokI) (o : List Nd) (h : RSt m B b w L i (-1) o) (hL : L.length ≤ 1000000) (hk0 : k ≠ 0) :
 Calls Tryz.prog 144 #[.pointer (some ⟨b, 0, none⟩), .int .i64 k] w fun e w' => e = .returned (.tuple #[]) ∧ Below B w w' ∧ if atT k (L.drop i) = true then RSt m B b w' L (i + 1) (-1) o else RSt m B b w' L i i o := by
 cases hk : atT k (L.drop i) with
 | true => exact (take_yes m k B b i w L o h hL hk0 hk).mono (fun e w' h => ⟨h.1, h.2.2, by rw [if_pos rfl]; exact h.2.1⟩)
 | false => exact (take_no m k B b i w L o h hL hk0 hk).mono (fun e w' h => ⟨h.1, h.2.2, by rw [if_neg (by decide)]; exact h.2.1⟩)
set_option maxRecDepth 100000 in
set_option maxHeartbeats 8000000 in
theorem node_old (m F : Int) (B b i : Nat) (kd : UInt8) (w : World) (L : List TokI) (o : List Nd) (h : RSt m B b w L i F o) (hF : 0 ≤ F) (hL : L.length ≤ 1000000) :
 Calls Tryz.prog 50 #[.pointer (some ⟨b, 0, none⟩), .int .u8 kd.toNat] w fun e w' => e = .returned (.tuple #[]) ∧ Below w.heap.size w w' := by
 have HLK := Lib.hid (look_ref m F B b i w L o h hL)
 have H0 := Lib.hid h
 obtain ⟨⟨op, num, str, pos⟩, hx⟩ : ∃ x, lookP (L.drop i) = x := ⟨_, rfl⟩
 have HXX := Lib.hid hx
 rw [hx] at HLK
 unfold tokV at HLK
 simp only at HLK
 clear h hx
 go_enter Tryz.func50, Tryz.ntmps50
 go_wp2_with fail
 ((with_reducible refine HLK.out.mono ?_))
 rintro e w1 ⟨rfl, hb1⟩
 have hal : Below w1.heap.size w1 (w1.alloc (nObj op num str pos)) := (Below.refl _ _).alloc (Nat.le_refl _) _
 have hg2 : Below w.heap.size w (w1.alloc (nObj op num str pos)) := bel_then hb1 (Nat.le_refl _) hal
 have H2 := Lib.hid (H0.out.below hg2)
 have HB2 : Hid (Below B w (w1.alloc (nObj op num str pos))) := Lib.hid (hg2.mono H0.out.size)
 have HG2 := Lib.hid hg2
 have HQ2 := Lib.hid (heap_alloc_new w1 (nObj op num str pos))
 have hbQ : b < w1.heap.size := by
  obtain ⟨tv, nv, k1, _⟩ := (H0.out.below hb1).ex
  exact lt_of_block k1
 have hwQ : w.heap.size ≤ w1.heap.size := hb1.size
 clear hb1 hal hg2 HLK
 go_upto_region 1 with fail
 generalize w1.alloc (nObj op num str pos) = W2 at *
 generalize w1.heap.size = Q at *
 go_cut [5] (fun z wx => ∃ nq, z = .bool (op == 3 && atT 5 (L.drop (i + 1))) ∧ wx = W2.drewN nq)
 case first =>
  obtain ⟨q0, q1, q2, q3⟩ := cells4 HQ2.out
  obtain ⟨⟨tv, nv, h1, h2, h3⟩, h4, h5, h6, h7, h8, h9, ha, hc', hd'⟩ := H2.out
  obtain ⟨c0, c1, c2, c3⟩ := cells4 h1
  by_cases e3 : op = 3
  ·subst e3
   cases hd : L.drop (i + 1) with
   | nil =>
     obtain ⟨a, cap, rfl, hl, hc⟩ := h2
     have hi1 : ¬ (i : Int) + 1 < (L.length : Int) := by
      have := congrArg List.length hd
      rw [List.length_drop] at this
      simp only [List.length_nil] at this
      omega
     have HD := Lib.hid hd
     clear hc h3 h6 h8 h1 hd h7 ha hc' hd'
     go_quiet (fail)
     go_wp2_with fail
     go_meet
     exact ⟨_, by rw [HD.out]; simp [atT], rfl⟩
   | cons t q =>
     obtain ⟨g, off, cap, rfl, hgB, hi, t0, t1, t2, t3⟩ := h2.drop_cells hd
     have hi1 : (i : Int) + 1 < (L.length : Int) := by omega
     have HD := Lib.hid hd
     clear h3 h6 h8 h1 hd h7 h9 ha hc' hd' h2 hi
     obtain ⟨tk, tn, ts, tp⟩ := t
     simp only at t0
     go_quiet (fail)
     go_wp2_with fail
     go_meet
     exact ⟨_, by rw [HD.out]; simp [atT], rfl⟩
  ·have e3' : (op == 3) = false := beq_eq_false_iff_ne.2 e3
   clear h3 h6 h8 h1 h7 h9 ha hc' hd' h2
   go_quiet (fail)
   go_wp2_with fail
   go_meet
   exact ⟨_, by simp [e3'], rfl⟩
 case rest =>
 obtain ⟨nq, rfl, rfl⟩ := hcut
 have H3 : Hid (RSt m B b (W2.drewN nq) L i F o) := Lib.hid (H2.out.below (below_drewN (Below.refl _ _) _))
 have HB3 : Hid (Below B w (W2.drewN nq)) := Lib.hid (below_drewN HB2.out _)
 have HG3 : Hid (Below w.heap.size w (W2.drewN nq)) := Lib.hid (below_drewN HG2.out _)
 have HQ3 : Hid ((W2.drewN nq).heap[Q]? = some (nObj op num str pos)) := HQ2
 obtain ⟨op2, hop2⟩ : ∃ z, (if (op == 3 && (kd == 83 || (kd == 101 && atT 5 (L.drop (i + 1))))) = true then (5 : Int) else op) = z := ⟨_, rfl⟩
 have HOP2 := Lib.hid hop2
 generalize W2.drewN nq = W3 at *
 obtain ⟨cl, hcl⟩ : ∃ z, atT 5 (L.drop (i + 1)) = z := ⟨_, rfl⟩
 rw [hcl] at hop2 ⊢
 clear H2 HB2 HG2 HQ2 hcl
 have hk83 := byte_int kd 83
 have hk101 := byte_int kd 101
 obtain ⟨b83, hb83⟩ : ∃ z, (kd == 83) = z := ⟨_, rfl⟩
 obtain ⟨b101, hb101⟩ : ∃ z, (kd == 101) = z := ⟨_, rfl⟩
 obtain ⟨b3, hb3⟩ : ∃ z, (op == 3) = z := ⟨_, rfl⟩
 rw [hb83] at hk83 hop2
 rw [hb101] at hk101 hop2
 rw [hb3] at hop2 ⊢
 have hk83' : ((kd.toNat : Int) == 83) = b83 := hk83
 have hk101' : ((kd.toNat : Int) == 101) = b101 := hk101
 clear hb83 hb101 hk83 hk101
 obtain ⟨q0, q1, q2, q3⟩ := cells4 HQ3.out
 have fq := free3 HQ3.out 0
 go_upto_region 2 with fail
 go_cut [55] (fun z wx => z = .bool (b3 && (b83 || (b101 && (b3 && cl)))) ∧ W3 = wx)
 case first =>
  cases b3
  ·go_wp2_with fail
   go_meet
   exact ⟨by simp, rfl⟩
  ·cases b83
   ·cases b101
    ·go_wp2_with fail
     go_meet
     exact ⟨by simp, rfl⟩
    ·go_wp2_with fail
     go_meet
     exact ⟨by simp, rfl⟩
   ·go_wp2_with fail
    go_meet
    exact ⟨by simp, rfl⟩
 case rest =>
 obtain ⟨rfl, rfl⟩ := hcut
 obtain ⟨W3, rfl⟩ : ∃ y : World, y = W3 := ⟨_, rfl⟩
 go_upto_if 55 with fail
 go_cut [56] (fun z wx => Hid (wx.heap[Q]? = some (nObj op2 num str pos)) ∧ Hid (Below w.heap.size w wx))
 case first =>
  have HS5 : Hid ((W3.setCell ⟨Q, 0, none⟩ (.int .i64 5)).heap[Q]? = some (nObj 5 num str pos)) := Lib.hid (heap_setCell_same _ _ 0 _ _ _ HQ3.out)
  have HG5 : Hid (Below w.heap.size w (W3.setCell ⟨Q, 0, none⟩ (.int .i64 5))) := Lib.hid (HG3.out.setCell hwQ _)
  cases hcb : (b3 && (b83 || (b101 && (b3 && cl)))) with
  | true =>
    have e2 : op2 = 5 := by
     rw [← hop2]
     refine if_pos ?_
     revert hcb
     cases b3 <;> cases b83 <;> cases b101 <;> cases cl <;> decide
    have E2 := Lib.hid e2
    clear e2
    go_wp2_with fail
    go_meet
    rw [E2.out]
    exact ⟨HS5, HG5⟩
  | false =>
    have e2 : op2 = op := by
     rw [← hop2]
     refine if_neg ?_
     revert hcb
     cases b3 <;> cases b83 <;> cases b101 <;> cases cl <;> decide
    have E2 := Lib.hid e2
    clear e2
    go_wp2_with fail
    go_meet
    rw [E2.out]
    exact ⟨HQ3, HG3⟩
 case rest =>
 obtain ⟨HQ5, HG5⟩ := hcut
 obtain ⟨W5, rfl⟩ : ∃ y : World, y = wc := ⟨_, rfl⟩
 have H5 : Hid (RSt m B b W5 L i F o) := Lib.hid (H0.out.below HG5.out)
 clear H3 HB3 HG3 HQ3 q0 q1 q2 q3 fq hop2 hb3 hk83' hk101'
 obtain ⟨⟨tv, nv, k1, k2, k3⟩, _⟩ := H5.out
 obtain ⟨c0, c1, c2, c3⟩ := cells4 k1
 have hF2 : F ≥ 0 := hF
 have HFO := Lib.hid (fail_old m F B b i W5 L o H5.out hF)
 clear k1 k2 k3
 go_wp2_with fail
 ((with_reducible refine HFO.out.mono ?_))
 rintro e w6 ⟨rfl, rfl⟩
 go_wp2_with fail
 (try simp only [Exit.inBlock, Exit.then])
 refine bodyPost_ret (results_none rfl _ _ _) rfl ?_
 exact ⟨rfl, HG5.out⟩
end
section
open Go.RowKit
attribute [local go_sem] ByteArray.mk_append_mk bs_get bs_cut bs_end
theorem kindT_ne (k : Int) (hk : k ≠ 0) (r : List TokI) (b : Bool) (h : atT k r = b) : (kindT r != k) = !b := by
 rw [bne, kindT_at k hk, h]
theorem good_drop {L : List TokI} {i i' : Nat} {r : List TokI} {k : Nat} (hi' : i' ≤ L.length) (h1 : r = L.drop i') (h2 : r = (L.drop i).drop k) (hk1 : 1 ≤ k) (hk : k ≤ (L.drop i).length) : i < i' := by
 have e := congrArg List.length (h1.symm.trans h2)
 rw [List.length_drop, List.length_drop] at e
 rw [List.length_drop] at hk
 rw [List.length_drop] at e
 omega
set_option maxRecDepth 100000 in
set_option maxHeartbeats 8000000 in
theorem rcall_any (m : Int) (B b : Nat) (L : List TokI) (sub : UInt8 → List TokI → PR) (n : Nat) (hs : RSub m B b L sub n) (hg : ∀ k r, PGood1 r (sub k r)) (hL : L.length ≤ 100000) (text : List UInt8) (i0 : Nat) (o : List Nd) (w : World)
 (h : RSt m B b w L i0 (-1) (o ++ ⟨5, 0, text, 0⟩ :: [])) (hn : L.length - i0 ≤ n) :
 Calls Tryz.prog 104 #[.pointer (some ⟨b, 0, none⟩), .int .i64 o.length] w (RPost m B b L w o (if atT 5 (L.drop i0) = true then callP sub text (L.drop i0).tail else .no (L.drop i0))) := by
 have HS := Lib.hid hs
 have HGD := Lib.hid hg
 have HTK := Lib.hid (take_run m 5 B b i0 w L _ h (by omega) (by decide))
 obtain ⟨X, hX⟩ : ∃ X, Hid ((if atT 5 (L.drop i0) = true then callP sub text (L.drop i0).tail else .no (L.drop i0)) = X) := ⟨_, Lib.hid rfl⟩
 rw [hX.out]
 have hol0 : o.length ≤ 200000 := by
  have := h.ol
  have := h.ix
  simp only [List.length_append, List.length_cons] at *
  omega
 have HOL0 := Lib.hid hol0
 clear hs hg h hol0
 go_enter Tryz.func104, Tryz.ntmps104
 go_wp2_with fail
 ((with_reducible refine HTK.out.mono ?_))
 rintro e w1 ⟨rfl, hb1, hres⟩
 have HB1 := Lib.hid hb1
 have hrel : (∃ (j : Nat) (ns : List Nd) (i : Nat), j ≤ 7 ∧ (j = 0 → ns = []) ∧ L.length - i ≤ n ∧ Hid (callA sub text j ns (L.drop i) = X) ∧ Hid (RSt m B b w1 L i (-1) (o ++ ⟨5, 0, text, j⟩ :: ns)) ∧ Hid (Below B w w1)) ∨
  (∃ (i jf : Nat) (o' : List Nd), Hid (X = .no (L.drop jf)) ∧ Hid (RSt m B b w1 L i jf o') ∧ Hid (Below B w w1)) := by
  cases h5 : atT 5 (L.drop i0) with
  | true =>
    rw [h5, if_pos rfl] at hres
    exact .inl ⟨0, [], i0 + 1, by omega, fun _ => rfl, by omega, Lib.hid (by rw [← hX.out, h5, if_pos rfl, callA_start, List.tail_drop]), Lib.hid hres, HB1⟩
  | false =>
    rw [h5, if_neg (by decide)] at hres
    exact .inr ⟨i0, i0, _, Lib.hid (by rw [← hX.out, h5, if_neg (by decide)]), Lib.hid hres, HB1⟩
 have HREL : Hid (∃ z, w1 = z ∧ ((∃ (j : Nat) (ns : List Nd) (i : Nat), j ≤ 7 ∧ (j = 0 → ns = []) ∧ L.length - i ≤ n ∧ Hid (callA sub text j ns (L.drop i) = X) ∧ Hid (RSt m B b z L i (-1) (o ++ ⟨5, 0, text, j⟩ :: ns)) ∧ Hid (Below B w z)) ∨
  (∃ (i jf : Nat) (o' : List Nd), Hid (X = .no (L.drop jf)) ∧ Hid (RSt m B b z L i jf o') ∧ Hid (Below B w z)))) := Lib.hid ⟨_, rfl, hrel⟩
 clear hb1 hres hrel HTK HB1
 go_wp2_with fail
 go_loopw [49] (fun _ wr => Hid ((∃ (j : Nat) (ns : List Nd) (i : Nat), j ≤ 7 ∧ (j = 0 → ns = []) ∧ L.length - i ≤ n ∧ Hid (callA sub text j ns (L.drop i) = X) ∧ Hid (RSt m B b wr L i (-1) (o ++ ⟨5, 0, text, j⟩ :: ns)) ∧ Hid (Below B w wr)) ∨
  (∃ (i jf : Nat) (o' : List Nd), Hid (X = .no (L.drop jf)) ∧ Hid (RSt m B b wr L i jf o') ∧ Hid (Below B w wr)))) (fun _ wr => rLeft wr b)
 case atStart =>
  obtain ⟨z, rfl, h⟩ := HREL.out
  exact Lib.hid h
 case round =>
  clear HREL
  rcases hrel.out with ⟨j, ns, i, hj, hns, hin, HXA, HP, HB⟩ | ⟨i, jf, o', HXF, HP, HB⟩
  ·clear hrel
   obtain ⟨w3, rfl⟩ : ∃ y : World, y = wr := ⟨_, rfl⟩
   have HLF : Hid (rLeft w3 b = 1 + (L.length - i)) := Lib.hid (by rw [HP.out.left, if_neg (by omega)])
   have HIX := Lib.hid HP.out.ix
   have HK := Lib.hid (kind_ref m (-1) B b i w3 L _ HP.out (by omega))
   obtain ⟨tv, nv, k1, k2, k3⟩ := HP.out.ex
   obtain ⟨c0, c1, c2, c3⟩ := cells4 k1
   clear k1 k2 k3
   cases h6 : atT 6 (L.drop i) with
   | true =>
     have hz := kindT_ne 6 (by decide) (L.drop i) true h6
     have HX2 : Hid (X = .ok (L.drop (i + 1)) (⟨5, 0, text, j⟩ :: ns)) := Lib.hid (by rw [← HXA.out]; unfold callA; rw [if_pos h6, List.tail_drop])
     have HTY := Lib.hid (fun q => take_yes m 6 B b i (w3.drewN q) L _ (HP.out.below (below_drewN (Below.refl _ _) q)) (by omega) (by decide) h6)
     generalize kindT (L.drop i) = z at *
     clear h6 HXA
     go_wp2_with fail
     ((with_reducible refine HK.out.mono ?_))
     rintro e w4 ⟨rfl, q, rfl⟩
     go_wp2_with fail
     ((with_reducible refine (HTY.out q).mono ?_))
     rintro e w5 ⟨rfl, hp5, hb5⟩
     have HP5 := Lib.hid hp5
     have HB5 : Hid (Below B w w5) := Lib.hid ((below_drewN HB.out q).trans hb5)
     clear hp5 hb5
     go_wp2_with fail
     go_end0
     rw [HX2.out]
     exact ⟨rfl, HB5.out, _, rfl, HP5.out⟩
   | false =>
     have hz := kindT_ne 6 (by decide) (L.drop i) false h6
     have HXN : Hid (X = if j = 0 then callL sub text 7 0 ns (L.drop i) else if j = 7 ∨ atT 9 (L.drop i) = false then .no (L.drop i) else callL sub text (7 - j) j ns (L.drop i).tail) := Lib.hid (by rw [← HXA.out]; unfold callA; rw [if_neg (by rw [h6]; decide)])
     generalize kindT (L.drop i) = z at *
     clear h6 HXA
     go_wp2_with fail
     ((with_reducible refine HK.out.mono ?_))
     rintro e w4 ⟨rfl, q, rfl⟩
     have HP4 : Hid (RSt m B b (w3.drewN q) L i (-1) (o ++ ⟨5, 0, text, j⟩ :: ns)) := Lib.hid (HP.out.below (below_drewN (Below.refl _ _) q))
     have HB4 : Hid (Below B w (w3.drewN q)) := Lib.hid (below_drewN HB.out q)
     clear c0 c1 c2 c3 HP HB HK
     generalize w3.drewN q = W4 at *
     obtain ⟨tv, g, c, k1, k2, k3, k4⟩ := HP4.out.kids
     obtain ⟨c0, c1, c2, c3⟩ := cells4 k1
     obtain ⟨LL, hLL⟩ : ∃ z, (o ++ (⟨5, 0, text, j⟩ : Nd) :: ns).length = z := ⟨_, rfl⟩
     have hLo : o.length < LL := by rw [← hLL]; simp
     have hLo' : (o.length : Int) < (LL : Int) := by omega
     rw [hLL] at c2
     clear k1 k4 k3 hLL
     by_cases h0 : j = 0
     ·have hj0 : ¬ (0 : Int) < (j : Int) := by omega
      have HXS : Hid (X = match sub 101 (L.drop i) with | .no x => .no x | .ok r1 n1 => callA sub text (j + 1) (ns ++ n1) r1) := Lib.hid (by rw [HXN.out, if_pos h0]; have := callL_step sub text j (by omega) ns (L.drop i); rw [h0] at this ⊢; exact this)
      clear HXN h0 c0 c1 c2 c3 hLo hLo' k2
      obtain ⟨tv, g, c, k1, k2, k3, k4⟩ := HP4.out.kids
      have HU := Lib.hid (k4 ((j : Int) + 1))
      obtain ⟨c0, c1, c2, c3⟩ := cells4 k1
      obtain ⟨LL, hLL⟩ : ∃ z, (o ++ (⟨5, 0, text, j⟩ : Nd) :: ns).length = z := ⟨_, rfl⟩
      have hLo : o.length < LL := by rw [← hLL]; simp
      have hLo' : (o.length : Int) < (LL : Int) := by omega
      rw [hLL] at c2
      clear k1 k4 hLL
      go_upto_region 7 with fail
      have HP5 := Lib.hid HU.out.1
      have HB5 : Hid (Below B w (W4.setCell ⟨g, o.length * 4 + 3, none⟩ (.int .i64 ((j : Int) + 1)))) := Lib.hid (HB4.out.trans HU.out.2)
      generalize W4.setCell ⟨g, o.length * 4 + 3, none⟩ (.int .i64 ((j : Int) + 1)) = W5 at *
      clear c0 c1 c2 c3 k2 k3 HU hLo hLo'
      have HSUB : Hid (Calls Tryz.prog 50 #[.pointer (some ⟨b, 0, none⟩), .int .u8 101] W5 (RPost m B b L W5 (o ++ ⟨5, 0, text, (j : Int) + 1⟩ :: ns) (sub 101 (L.drop i)))) := Lib.hid (HS.out 101 i _ W5 HP5.out (by omega))
      have hgood := HGD.out 101 (L.drop i)
      cases hx : sub 101 (L.drop i) with
      | no x =>
        rw [hx] at HSUB HXS
        have HX2 : Hid (X = .no x) := HXS
        clear hx hgood
        go_wp2_with fail
        ((with_reducible refine HSUB.out.mono ?_))
        rintro e w6 ⟨rfl, hb6, i6, j6, o6, rfl, hp6⟩
        have HB6 : Hid (Below B w w6) := Lib.hid (HB5.out.trans hb6)
        have HP6 := Lib.hid hp6
        clear hb6 hp6
        go_wp2_with fail
        go_roundw
        case rel => refine Lib.hid ?_; exact .inr ⟨i6, j6, o6, HX2, HP6, HB6⟩
        case measure => rw [HLF.out, HP6.out.left, if_pos (by omega)]; omega
      | ok x n1 =>
        rw [hx] at HSUB HXS hgood
        have HX2 : Hid (callA sub text (j + 1) (ns ++ n1) x = X) := Lib.hid HXS.out.symm
        obtain ⟨d, hd1, hd2, hd3, hd4⟩ := hgood
        have HGOOD := Lib.hid hd3
        clear hx hd3
        go_wp2_with fail
        ((with_reducible refine HSUB.out.mono ?_))
        rintro e w6 ⟨rfl, hb6, i6, hi6, hp6⟩
        have hlt : i < i6 := good_drop hp6.ix hi6 HGOOD.out hd1 hd2
        subst hi6
        rw [List.append_assoc, List.cons_append] at hp6
        have HB6 : Hid (Below B w w6) := Lib.hid (HB5.out.trans hb6)
        have HP6 : Hid (RSt m B b w6 L i6 (-1) (o ++ ⟨5, 0, text, (j + 1 : Nat)⟩ :: (ns ++ n1))) := Lib.hid (by rw [show ((j + 1 : Nat) : Int) = (j : Int) + 1 by omega]; exact hp6)
        clear hb6 hp6
        go_wp2_with fail
        go_roundw
        case rel => refine Lib.hid ?_; exact .inl ⟨j + 1, ns ++ n1, i6, by omega, fun h => by omega, by omega, HX2, HP6, HB6⟩
        case measure => rw [HLF.out, HP6.out.left, if_neg (by omega)]; have := HP6.out.ix; omega
     ·have hj0 : (0 : Int) < (j : Int) := by omega
      rw [if_neg h0] at HXN
      by_cases h7 : j = 7
      ·have hj7 : ((j : Int) == 7) = true := by rw [beq_iff_eq]; omega
       have HX2 : Hid (X = .no (L.drop i)) := Lib.hid (by rw [HXN.out, if_pos (.inl h7)])
       have HFN := Lib.hid (fail_new m B b i W4 L _ HP4.out)
       clear HXN h7 h0
       go_wp2_with fail
       ((with_reducible refine HFN.out.mono ?_))
       rintro e w5 ⟨rfl, hp5, hb5⟩
       have HP5 := Lib.hid hp5
       have HB5 : Hid (Below B w w5) := Lib.hid (HB4.out.trans hb5)
       clear hp5 hb5
       go_wp2_with fail
       (try simp only [Exit.inBlock, Exit.then])
       refine bodyPost_ret (results_none rfl _ _ _) rfl ?_
       rw [HX2.out]
       exact ⟨rfl, HB5.out, _, _, _, rfl, HP5.out⟩
      ·have hj7 : ((j : Int) == 7) = false := by rw [beq_eq_false_iff_ne]; omega
       have HTR := Lib.hid (take_run m 9 B b i W4 L _ HP4.out (by omega) (by decide))
       cases h9 : atT 9 (L.drop i) with
       | false =>
         have HX2 : Hid (X = .no (L.drop i)) := Lib.hid (by rw [HXN.out, if_pos (.inr h9)])
         clear HXN h0
         go_wp2_with fail
         ((with_reducible refine HTR.out.mono ?_))
         rintro e w5 ⟨rfl, hb5, hres⟩
         rw [h9, if_neg (by decide)] at hres
         have HP9 := Lib.hid hres
         have HB9 : Hid (Below B w w5) := Lib.hid (HB4.out.trans hb5)
         clear hb5 hres c0 c1 c2 c3 hLo hLo' k2 h9
         obtain ⟨tv, g, c, k1, k2, k3, k4⟩ := HP9.out.kids
         have HU := Lib.hid (k4 ((j : Int) + 1))
         obtain ⟨c0, c1, c2, c3⟩ := cells4 k1
         obtain ⟨LL, hLL⟩ : ∃ z, (o ++ (⟨5, 0, text, j⟩ : Nd) :: ns).length = z := ⟨_, rfl⟩
         have hLo : o.length < LL := by rw [← hLL]; simp
         have hLo' : (o.length : Int) < (LL : Int) := by omega
         rw [hLL] at c2
         clear k1 k4 hLL
         go_upto_region 7 with fail
         have HP5 := Lib.hid HU.out.1
         have HB5 : Hid (Below B w (w5.setCell ⟨g, o.length * 4 + 3, none⟩ (.int .i64 ((j : Int) + 1)))) := Lib.hid (HB9.out.trans HU.out.2)
         generalize w5.setCell ⟨g, o.length * 4 + 3, none⟩ (.int .i64 ((j : Int) + 1)) = W5 at *
         clear c0 c1 c2 c3 k2 k3 HU hLo hLo'
         have HNO : Hid (Calls Tryz.prog 50 #[.pointer (some ⟨b, 0, none⟩), .int .u8 101] W5 fun e w' => e = .returned (.tuple #[]) ∧ Below W5.heap.size W5 w') := Lib.hid (node_old m i B b i 101 W5 L _ HP5.out (by omega) (by omega))
         go_wp2_with fail
         ((with_reducible refine HNO.out.mono ?_))
         rintro e w6 ⟨rfl, hb6⟩
         have HB6 : Hid (Below B w w6) := Lib.hid (HB5.out.trans (hb6.mono HP5.out.size))
         have HP6 := Lib.hid (HP5.out.below hb6)
         clear hb6
         go_wp2_with fail
         go_roundw
         case rel => refine Lib.hid ?_; exact .inr ⟨_, _, _, HX2, HP6, HB6⟩
         case measure => rw [HLF.out, HP6.out.left, if_pos (by omega)]; omega
       | true =>
         have HXS : Hid (X = match sub 101 (L.drop (i + 1)) with | .no x => .no x | .ok r1 n1 => callA sub text (j + 1) (ns ++ n1) r1) := Lib.hid (by rw [HXN.out, if_neg (fun e => by rcases e with e | e; exact h7 e; rw [h9] at e; cases e), List.tail_drop]; exact callL_step sub text j (by omega) ns _)
         clear HXN h0
         go_wp2_with fail
         ((with_reducible refine HTR.out.mono ?_))
         rintro e w5 ⟨rfl, hb5, hres⟩
         rw [h9, if_pos rfl] at hres
         have HP9 := Lib.hid hres
         have HB9 : Hid (Below B w w5) := Lib.hid (HB4.out.trans hb5)
         clear hb5 hres c0 c1 c2 c3 hLo hLo' k2 h9
         obtain ⟨tv, g, c, k1, k2, k3, k4⟩ := HP9.out.kids
         have HU := Lib.hid (k4 ((j : Int) + 1))
         obtain ⟨c0, c1, c2, c3⟩ := cells4 k1
         obtain ⟨LL, hLL⟩ : ∃ z, (o ++ (⟨5, 0, text, j⟩ : Nd) :: ns).length = z := ⟨_, rfl⟩
         have hLo : o.length < LL := by rw [← hLL]; simp
         have hLo' : (o.length : Int) < (LL : Int) := by omega
         rw [hLL] at c2
         clear k1 k4 hLL
         go_upto_region 7 with fail
         have HP5 := Lib.hid HU.out.1
         have HB5 : Hid (Below B w (w5.setCell ⟨g, o.length * 4 + 3, none⟩ (.int .i64 ((j : Int) + 1)))) := Lib.hid (HB9.out.trans HU.out.2)
         generalize w5.setCell ⟨g, o.length * 4 + 3, none⟩ (.int .i64 ((j : Int) + 1)) = W5 at *
         clear c0 c1 c2 c3 k2 k3 HU hLo hLo'
         have HSUB : Hid (Calls Tryz.prog 50 #[.pointer (some ⟨b, 0, none⟩), .int .u8 101] W5 (RPost m B b L W5 (o ++ ⟨5, 0, text, (j : Int) + 1⟩ :: ns) (sub 101 (L.drop (i + 1))))) := Lib.hid (HS.out 101 (i + 1) _ W5 HP5.out (by omega))
         have hgood := HGD.out 101 (L.drop (i + 1))
         cases hx : sub 101 (L.drop (i + 1)) with
         | no x =>
           rw [hx] at HSUB HXS
           have HX2 : Hid (X = .no x) := HXS
           clear hx hgood
           go_wp2_with fail
           ((with_reducible refine HSUB.out.mono ?_))
           rintro e w6 ⟨rfl, hb6, i6, j6, o6, rfl, hp6⟩
           have HB6 : Hid (Below B w w6) := Lib.hid (HB5.out.trans hb6)
           have HP6 := Lib.hid hp6
           clear hb6 hp6
           go_wp2_with fail
           go_roundw
           case rel => refine Lib.hid ?_; exact .inr ⟨i6, j6, o6, HX2, HP6, HB6⟩
           case measure => rw [HLF.out, HP6.out.left, if_pos (by omega)]; omega
         | ok x n1 =>
           rw [hx] at HSUB HXS hgood
           have HX2 : Hid (callA sub text (j + 1) (ns ++ n1) x = X) := Lib.hid HXS.out.symm
           obtain ⟨d, hd1, hd2, hd3, hd4⟩ := hgood
           have HGOOD := Lib.hid hd3
           clear hx hd3
           go_wp2_with fail
           ((with_reducible refine HSUB.out.mono ?_))
           rintro e w6 ⟨rfl, hb6, i6, hi6, hp6⟩
           have hlt : (i + 1) < i6 := good_drop hp6.ix hi6 HGOOD.out hd1 hd2
           subst hi6
           rw [List.append_assoc, List.cons_append] at hp6
           have HB6 : Hid (Below B w w6) := Lib.hid (HB5.out.trans hb6)
           have HP6 : Hid (RSt m B b w6 L i6 (-1) (o ++ ⟨5, 0, text, (j + 1 : Nat)⟩ :: (ns ++ n1))) := Lib.hid (by rw [show ((j + 1 : Nat) : Int) = (j : Int) + 1 by omega]; exact hp6)
           clear hb6 hp6
           go_wp2_with fail
           go_roundw
           case rel => refine Lib.hid ?_; exact .inl ⟨j + 1, ns ++ n1, i6, by omega, fun h => by omega, by omega, HX2, HP6, HB6⟩
           case measure => rw [HLF.out, HP6.out.left, if_neg (by omega)]; have := HP6.out.ix; omega
  ·clear hrel
   obtain ⟨w3, rfl⟩ : ∃ y : World, y = wr := ⟨_, rfl⟩
   have HTO := Lib.hid (take_old m jf 6 B b i w3 L o' HP.out (by omega))
   obtain ⟨tv, nv, k1, k2, k3⟩ := HP.out.ex
   obtain ⟨c0, c1, c2, c3⟩ := cells4 k1
   have hF2 : ¬ (jf : Int) < 0 := by omega
   clear k1 k2 k3
   go_wp2_with fail
   ((with_reducible refine HTO.out.mono ?_))
   rintro e w5 ⟨rfl, rfl⟩
   go_wp2_with fail
   go_end0
   rw [HXF.out]
   exact ⟨rfl, HB.out, _, _, _, rfl, HP.out⟩
end
section
open Go.RowKit
attribute [local go_sem] ByteArray.mk_append_mk bs_get bs_cut bs_end
theorem blockL_step (sub : UInt8 → List TokI → PR) (k : UInt8) (f m : Nat) (ns : List Nd) (r : List TokI) (h8 : atT 8 r = false) : blockL sub k (f + 1) m ns r = if listB k = true ∧ 0 < m ∧ atT 9 r = false then .no r
 else match sub k (if listB k = true ∧ 0 < m then r.tail else r) with
  | .no x => .no x
  | .ok r1 n1 => blockL sub k f (m + 1) (ns ++ n1) r1 := by
 rw [blockL, if_neg (by rw [h8]; decide)]
 rfl
set_option maxRecDepth 100000 in
set_option maxHeartbeats 8000000 in
theorem rblock_any (m : Int) (B b : Nat) (L : List TokI) (sub : UInt8 → List TokI → PR) (n : Nat) (hs : RSub m B b L sub n) (hg : ∀ k r, PGood1 r (sub k r)) (hL : L.length ≤ 100000) (kd : UInt8) (i0 : Nat) (o : List Nd) (w : World)
 (h : RSt m B b w L i0 (-1) o) (hn : L.length - i0 ≤ n + 1) :
 Calls Tryz.prog 107 #[.pointer (some ⟨b, 0, none⟩), .int .u8 kd.toNat] w (RPost m B b L w o (blockP sub kd (L.drop i0))) := by
 have HS := Lib.hid hs
 have HGD := Lib.hid hg
 have HTK := Lib.hid (take_run m 7 B b i0 w L _ h (by omega) (by decide))
 obtain ⟨X, hX⟩ : ∃ X, Hid (blockP sub kd (L.drop i0) = X) := ⟨_, Lib.hid rfl⟩
 rw [hX.out]
 have hol0 : o.length ≤ i0 := by
  have := h.ol
  omega
 have hix0 := h.ix
 clear hs hg h
 go_enter Tryz.func107, Tryz.ntmps107
 go_wp2_with fail
 ((with_reducible refine HTK.out.mono ?_))
 rintro e w1 ⟨rfl, hb1, hres⟩
 have HB1 := Lib.hid hb1
 have hst : ∃ i F : Int, ∃ i1 : Nat, i = i1 ∧ RSt m B b w1 L i1 F o ∧ (o.length : Int) ≤ i1 + F ∧
  ((F = -1 ∧ L.length - i1 ≤ n ∧ i1 ≤ L.length ∧ Hid (blockL sub kd ((L.drop i1).length + 1) 0 [] (L.drop i1) = X)) ∨ (∃ jf : Nat, F = jf ∧ Hid (X = .no (L.drop jf)))) := by
  cases h7 : atT 7 (L.drop i0) with
  | true =>
    rw [h7, if_pos rfl] at hres
    refine ⟨_, -1, i0 + 1, rfl, hres, by omega, .inl ⟨rfl, by omega, hres.ix, Lib.hid ?_⟩⟩
    rw [← hX.out]
    unfold blockP
    rw [if_pos h7, List.tail_drop]
    have hl := hres.ix
    rw [show (L.drop i0).length = (L.drop (i0 + 1)).length + 1 by rw [List.length_drop, List.length_drop]; omega]
  | false =>
    rw [h7, if_neg (by decide)] at hres
    exact ⟨_, i0, i0, rfl, hres, by omega, .inr ⟨i0, rfl, Lib.hid (by rw [← hX.out]; unfold blockP; rw [if_neg (by rw [h7]; decide)])⟩⟩
 obtain ⟨_, F, i1, _, hp1, hof, hcase⟩ := hst
 have HCASE := Lib.hid hcase
 have HA := Lib.hid (add_ref m F B b i1 4 0 0 [] w1 L o hp1 (by omega) hof)
 unfold tokV at HA
 clear hb1 hres hcase hp1 hof HTK
 go_wp2_with fail
 ((with_reducible refine HA.out.mono ?_))
 rintro e w2 ⟨rfl, hp2, hb2⟩
 have HB2 : Hid (Below B w w2) := Lib.hid (HB1.out.trans hb2)
 have hrel : (∃ (j : Nat) (ns : List Nd) (i f : Nat), j ≤ i ∧ (L.drop i).length + 1 ≤ f ∧ L.length - i ≤ n ∧ Hid (blockL sub kd f j ns (L.drop i) = X) ∧ Hid (RSt m B b w2 L i (-1) (o ++ ⟨4, 0, [], j⟩ :: ns)) ∧ Hid (Below B w w2)) ∨
  (∃ (i jf : Nat) (o' : List Nd), Hid (X = .no (L.drop jf)) ∧ Hid (RSt m B b w2 L i jf o') ∧ Hid (Below B w w2)) := by
  rcases HCASE.out with ⟨rfl, h1, h2, h3⟩ | ⟨jf, rfl, h3⟩
  ·exact .inl ⟨0, [], i1, _, by omega, Nat.le_refl _, h1, h3, Lib.hid hp2, HB2⟩
  ·exact .inr ⟨i1, jf, _, h3, Lib.hid hp2, HB2⟩
 have HREL : Hid (∃ z, w2 = z ∧ ((∃ (j : Nat) (ns : List Nd) (i f : Nat), j ≤ i ∧ (L.drop i).length + 1 ≤ f ∧ L.length - i ≤ n ∧ Hid (blockL sub kd f j ns (L.drop i) = X) ∧ Hid (RSt m B b z L i (-1) (o ++ ⟨4, 0, [], j⟩ :: ns)) ∧ Hid (Below B w z)) ∨
  (∃ (i jf : Nat) (o' : List Nd), Hid (X = .no (L.drop jf)) ∧ Hid (RSt m B b z L i jf o') ∧ Hid (Below B w z)))) := Lib.hid ⟨_, rfl, hrel⟩
 clear hb2 hp2 hrel HA HB1 HB2 HCASE
 go_wp2_with fail
 go_loopw [49] (fun _ wr => Hid ((∃ (j : Nat) (ns : List Nd) (i f : Nat), j ≤ i ∧ (L.drop i).length + 1 ≤ f ∧ L.length - i ≤ n ∧ Hid (blockL sub kd f j ns (L.drop i) = X) ∧ Hid (RSt m B b wr L i (-1) (o ++ ⟨4, 0, [], j⟩ :: ns)) ∧ Hid (Below B w wr)) ∨
  (∃ (i jf : Nat) (o' : List Nd), Hid (X = .no (L.drop jf)) ∧ Hid (RSt m B b wr L i jf o') ∧ Hid (Below B w wr)))) (fun _ wr => rLeft wr b)
 case atStart =>
  obtain ⟨z, rfl, h⟩ := HREL.out
  exact Lib.hid h
 case round =>
  clear HREL
  rcases hrel.out with ⟨j, ns, i, f, hj, hfl, hin, HXA, HP, HB⟩ | ⟨i, jf, o', HXF, HP, HB⟩
  ·clear hrel
   obtain ⟨w3, rfl⟩ : ∃ y : World, y = wr := ⟨_, rfl⟩
   have HLF : Hid (rLeft w3 b = 1 + (L.length - i)) := Lib.hid (by rw [HP.out.left, if_neg (by omega)])
   have hix := HP.out.ix
   have HIX := Lib.hid hix
   have HK := Lib.hid (kind_ref m (-1) B b i w3 L _ HP.out (by omega))
   obtain ⟨f, rfl⟩ : ∃ z, f = z + 1 := ⟨f - 1, by omega⟩
   have HFL := Lib.hid hfl
   obtain ⟨tv, nv, k1, k2, k3⟩ := HP.out.ex
   obtain ⟨c0, c1, c2, c3⟩ := cells4 k1
   clear k1 k2 k3 hfl
   cases h8 : atT 8 (L.drop i) with
   | true =>
     have hz := kindT_ne 8 (by decide) (L.drop i) true h8
     have HX2 : Hid (X = .ok (L.drop (i + 1)) (⟨4, 0, [], j⟩ :: ns)) := Lib.hid (by rw [← HXA.out]; rw [blockL, if_pos h8, List.tail_drop])
     have HTY := Lib.hid (fun q => take_yes m 8 B b i (w3.drewN q) L _ (HP.out.below (below_drewN (Below.refl _ _) q)) (by omega) (by decide) h8)
     generalize kindT (L.drop i) = z at *
     clear h8 HXA
     go_wp2_with fail
     ((with_reducible refine HK.out.mono ?_))
     rintro e w4 ⟨rfl, q, rfl⟩
     go_wp2_with fail
     ((with_reducible refine (HTY.out q).mono ?_))
     rintro e w5 ⟨rfl, hp5, hb5⟩
     have HP5 := Lib.hid hp5
     have HB5 : Hid (Below B w w5) := Lib.hid ((below_drewN HB.out q).trans hb5)
     clear hp5 hb5
     go_wp2_with fail
     go_end0
     rw [HX2.out]
     exact ⟨rfl, HB5.out, _, rfl, HP5.out⟩
   | false =>
     have hz := kindT_ne 8 (by decide) (L.drop i) false h8
     have HXN : Hid (X = if listB kd = true ∧ 0 < j ∧ atT 9 (L.drop i) = false then .no (L.drop i)
      else match sub kd (if listB kd = true ∧ 0 < j then (L.drop i).tail else L.drop i) with
       | .no x => .no x
       | .ok r1 n1 => blockL sub kd f (j + 1) (ns ++ n1) r1) := Lib.hid (by rw [← HXA.out, blockL_step sub kd f j ns _ h8])
     generalize kindT (L.drop i) = z at *
     clear h8 HXA
     go_wp2_with fail
     ((with_reducible refine HK.out.mono ?_))
     rintro e w4 ⟨rfl, q, rfl⟩
     have HP4 : Hid (RSt m B b (w3.drewN q) L i (-1) (o ++ ⟨4, 0, [], j⟩ :: ns)) := Lib.hid (HP.out.below (below_drewN (Below.refl _ _) q))
     have HB4 : Hid (Below B w (w3.drewN q)) := Lib.hid (below_drewN HB.out q)
     clear c0 c1 c2 c3 HP HB HK
     go_upto_region 3 with fail
     generalize w3.drewN q = W4 at *
     obtain ⟨lb, hlb⟩ : ∃ z, listB kd = z := ⟨_, rfl⟩
     rw [hlb] at HXN
     go_cut [36] (fun z wx => z = .bool (lb && decide (0 < j)) ∧ W4 = wx)
     case first =>
      have k73 := byte_int kd 73
      have k80 := byte_int kd 80
      obtain ⟨b73, hb73⟩ : ∃ z, (kd == 73) = z := ⟨_, rfl⟩
      obtain ⟨b80, hb80⟩ : ∃ z, (kd == 80) = z := ⟨_, rfl⟩
      unfold listB at hlb
      rw [hb73] at k73 hlb
      rw [hb80] at k80 hlb
      have k73' : ((kd.toNat : Int) == 73) = b73 := k73
      have k80' : ((kd.toNat : Int) == 80) = b80 := k80
      clear k73 k80 hb73 hb80
      obtain ⟨tv, g, c, k1, k2, k3, k4⟩ := HP4.out.kids
      obtain ⟨c0, c1, c2, c3⟩ := cells4 k1
      obtain ⟨LL, hLL⟩ : ∃ z, (o ++ (⟨4, 0, [], j⟩ : Nd) :: ns).length = z := ⟨_, rfl⟩
      have hLo : o.length < LL := by rw [← hLL]; simp
      have hLo' : (o.length : Int) < (LL : Int) := by omega
      rw [hLL] at c2
      clear k1 k4 k3 hLL
      subst hlb
      cases b73
      ·cases b80
       ·go_wp2_with fail
        go_meet
        exact ⟨by simp, rfl⟩
       ·go_wp2_with fail
        go_meet
        exact ⟨by simp, rfl⟩
      ·go_wp2_with fail
       go_meet
       exact ⟨by simp, rfl⟩
     case rest =>
     obtain ⟨rfl, rfl⟩ := hcut
     obtain ⟨W4, rfl⟩ : ∃ y : World, y = W4 := ⟨_, rfl⟩
     obtain ⟨cb, hcb⟩ : ∃ z, (lb && decide (0 < j)) = z := ⟨_, rfl⟩
     rw [hcb]
     have hcb2 : (lb = true ∧ 0 < j) ↔ cb = true := by rw [← hcb]; simp
     have HCB := Lib.hid hcb2
     clear hcb hlb hcb2
     cases cb with
     | false =>
       have HXS : Hid (X = match sub kd (L.drop i) with | .no x => .no x | .ok r1 n1 => blockL sub kd f (j + 1) (ns ++ n1) r1) := Lib.hid (by rw [HXN.out, if_neg (fun e => absurd (HCB.out.1 ⟨e.1, e.2.1⟩) (by decide)), if_neg (fun e => absurd (HCB.out.1 e) (by decide))])
       clear HXN
       obtain ⟨tv, g, c, k1, k2, k3, k4⟩ := HP4.out.kids
       have HU := Lib.hid (k4 ((j : Int) + 1))
       obtain ⟨c0, c1, c2, c3⟩ := cells4 k1
       obtain ⟨LL, hLL⟩ : ∃ z, (o ++ (⟨4, 0, [], j⟩ : Nd) :: ns).length = z := ⟨_, rfl⟩
       have hLo : o.length < LL := by rw [← hLL]; simp
       have hLo' : (o.length : Int) < (LL : Int) := by omega
       rw [hLL] at c2
       clear k1 k4 hLL
       go_upto_region 6 with fail
       have HP5 := Lib.hid HU.out.1
       have HB5 : Hid (Below B w (W4.setCell ⟨g, o.length * 4 + 3, none⟩ (.int .i64 ((j : Int) + 1)))) := Lib.hid (HB4.out.trans HU.out.2)
       generalize W4.setCell ⟨g, o.length * 4 + 3, none⟩ (.int .i64 ((j : Int) + 1)) = W5 at *
       clear c0 c1 c2 c3 k2 k3 HU hLo hLo'
       have HSUB := Lib.hid (HS.out kd i _ W5 HP5.out (by omega))
       have hgood := HGD.out kd (L.drop i)
       cases hx : sub kd (L.drop i) with
       | no x =>
         rw [hx] at HSUB HXS
         have HX2 : Hid (X = .no x) := HXS
         clear hx hgood
         go_wp2_with fail
         ((with_reducible refine HSUB.out.mono ?_))
         rintro e w6 ⟨rfl, hb6, i6, j6, o6, rfl, hp6⟩
         have HB6 : Hid (Below B w w6) := Lib.hid (HB5.out.trans hb6)
         have HP6 := Lib.hid hp6
         clear hb6 hp6
         go_wp2_with fail
         go_roundw
         case rel => refine Lib.hid ?_; exact .inr ⟨i6, j6, o6, HX2, HP6, HB6⟩
         case measure => rw [HLF.out, HP6.out.left, if_pos (by omega)]; omega
       | ok x n1 =>
         rw [hx] at HSUB HXS hgood
         have HX2 : Hid (blockL sub kd f (j + 1) (ns ++ n1) x = X) := Lib.hid HXS.out.symm
         obtain ⟨d, hd1, hd2, hd3, hd4⟩ := hgood
         have HGOOD := Lib.hid hd3
         clear hx hd3
         go_wp2_with fail
         ((with_reducible refine HSUB.out.mono ?_))
         rintro e w6 ⟨rfl, hb6, i6, hi6, hp6⟩
         have hlt : i < i6 := good_drop hp6.ix hi6 HGOOD.out hd1 hd2
         have hix6 := hp6.ix
         subst hi6
         rw [List.append_assoc, List.cons_append] at hp6
         have HB6 : Hid (Below B w w6) := Lib.hid (HB5.out.trans hb6)
         have HP6 : Hid (RSt m B b w6 L i6 (-1) (o ++ ⟨4, 0, [], (j + 1 : Nat)⟩ :: (ns ++ n1))) := Lib.hid (by rw [show ((j + 1 : Nat) : Int) = (j : Int) + 1 by omega]; exact hp6)
         have hfl6 : (L.drop i6).length + 1 ≤ f := by have := HFL.out; rw [List.length_drop] at this ⊢; omega
         clear hb6 hp6
         go_wp2_with fail
         go_roundw
         case rel => refine Lib.hid ?_; exact .inl ⟨j + 1, ns ++ n1, i6, f, by omega, hfl6, by omega, HX2, HP6, HB6⟩
         case measure => rw [HLF.out, HP6.out.left, if_neg (by omega)]; omega
     | true =>
       have hcd := HCB.out.2 rfl
       have HTR := Lib.hid (take_run m 9 B b i W4 L _ HP4.out (by omega) (by decide))
       cases h9 : atT 9 (L.drop i) with
       | false =>
         have HX2 : Hid (X = .no (L.drop i)) := Lib.hid (by rw [HXN.out, if_pos ⟨hcd.1, hcd.2, h9⟩])
         clear HXN hcd
         go_wp2_with fail
         ((with_reducible refine HTR.out.mono ?_))
         rintro e w5 ⟨rfl, hb5, hres⟩
         rw [h9, if_neg (by decide)] at hres
         have HP9 := Lib.hid hres
         have HB9 : Hid (Below B w w5) := Lib.hid (HB4.out.trans hb5)
         clear hb5 hres h9
         obtain ⟨tv, g, c, k1, k2, k3, k4⟩ := HP9.out.kids
         have HU := Lib.hid (k4 ((j : Int) + 1))
         obtain ⟨c0, c1, c2, c3⟩ := cells4 k1
         obtain ⟨LL, hLL⟩ : ∃ z, (o ++ (⟨4, 0, [], j⟩ : Nd) :: ns).length = z := ⟨_, rfl⟩
         have hLo : o.length < LL := by rw [← hLL]; simp
         have hLo' : (o.length : Int) < (LL : Int) := by omega
         rw [hLL] at c2
         clear k1 k4 hLL
         go_upto_region 6 with fail
         have HP5 := Lib.hid HU.out.1
         have HB5 : Hid (Below B w (w5.setCell ⟨g, o.length * 4 + 3, none⟩ (.int .i64 ((j : Int) + 1)))) := Lib.hid (HB9.out.trans HU.out.2)
         generalize w5.setCell ⟨g, o.length * 4 + 3, none⟩ (.int .i64 ((j : Int) + 1)) = W5 at *
         clear c0 c1 c2 c3 k2 k3 HU hLo hLo'
         have HNO := Lib.hid (node_old m i B b i kd W5 L _ HP5.out (by omega) (by omega))
         go_wp2_with fail
         ((with_reducible refine HNO.out.mono ?_))
         rintro e w6 ⟨rfl, hb6⟩
         have HB6 : Hid (Below B w w6) := Lib.hid (HB5.out.trans (hb6.mono HP5.out.size))
         have HP6 := Lib.hid (HP5.out.below hb6)
         clear hb6
         go_wp2_with fail
         go_roundw
         case rel => refine Lib.hid ?_; exact .inr ⟨_, _, _, HX2, HP6, HB6⟩
         case measure => rw [HLF.out, HP6.out.left, if_pos (by omega)]; omega
       | true =>
         have HXS : Hid (X = match sub kd (L.drop (i + 1)) with | .no x => .no x | .ok r1 n1 => blockL sub kd f (j + 1) (ns ++ n1) r1) := Lib.hid (by rw [HXN.out, if_neg (fun e => by rw [h9] at e; exact absurd e.2.2 (by decide)), if_pos hcd, List.tail_drop])
         clear HXN hcd
         go_wp2_with fail
         ((with_reducible refine HTR.out.mono ?_))
         rintro e w5 ⟨rfl, hb5, hres⟩
         rw [h9, if_pos rfl] at hres
         have HP9 := Lib.hid hres
         have HB9 : Hid (Below B w w5) := Lib.hid (HB4.out.trans hb5)
         clear hb5 hres h9
         obtain ⟨tv, g, c, k1, k2, k3, k4⟩ := HP9.out.kids
         have HU := Lib.hid (k4 ((j : Int) + 1))
         obtain ⟨c0, c1, c2, c3⟩ := cells4 k1
         obtain ⟨LL, hLL⟩ : ∃ z, (o ++ (⟨4, 0, [], j⟩ : Nd) :: ns).length = z := ⟨_, rfl⟩
         have hLo : o.length < LL := by rw [← hLL]; simp
         have hLo' : (o.length : Int) < (LL : Int) := by omega
         rw [hLL] at c2
         clear k1 k4 hLL
         go_upto_region 6 with fail
         have HP5 := Lib.hid HU.out.1
         have HB5 : Hid (Below B w (w5.setCell ⟨g, o.length * 4 + 3, none⟩ (.int .i64 ((j : Int) + 1)))) := Lib.hid (HB9.out.trans HU.out.2)
         generalize w5.setCell ⟨g, o.length * 4 + 3, none⟩ (.int .i64 ((j : Int) + 1)) = W5 at *
         clear c0 c1 c2 c3 k2 k3 HU hLo hLo'
         have HSUB := Lib.hid (HS.out kd (i + 1) _ W5 HP5.out (by omega))
         have hgood := HGD.out kd (L.drop (i + 1))
         cases hx : sub kd (L.drop (i + 1)) with
         | no x =>
           rw [hx] at HSUB HXS
           have HX2 : Hid (X = .no x) := HXS
           clear hx hgood
           go_wp2_with fail
           ((with_reducible refine HSUB.out.mono ?_))
           rintro e w6 ⟨rfl, hb6, i6, j6, o6, rfl, hp6⟩
           have HB6 : Hid (Below B w w6) := Lib.hid (HB5.out.trans hb6)
           have HP6 := Lib.hid hp6
           clear hb6 hp6
           go_wp2_with fail
           go_roundw
           case rel => refine Lib.hid ?_; exact .inr ⟨i6, j6, o6, HX2, HP6, HB6⟩
           case measure => rw [HLF.out, HP6.out.left, if_pos (by omega)]; omega
         | ok x n1 =>
           rw [hx] at HSUB HXS hgood
           have HX2 : Hid (blockL sub kd f (j + 1) (ns ++ n1) x = X) := Lib.hid HXS.out.symm
           obtain ⟨d, hd1, hd2, hd3, hd4⟩ := hgood
           have HGOOD := Lib.hid hd3
           clear hx hd3
           go_wp2_with fail
           ((with_reducible refine HSUB.out.mono ?_))
           rintro e w6 ⟨rfl, hb6, i6, hi6, hp6⟩
           have hlt : (i + 1) < i6 := good_drop hp6.ix hi6 HGOOD.out hd1 hd2
           have hix6 := hp6.ix
           subst hi6
           rw [List.append_assoc, List.cons_append] at hp6
           have HB6 : Hid (Below B w w6) := Lib.hid (HB5.out.trans hb6)
           have HP6 : Hid (RSt m B b w6 L i6 (-1) (o ++ ⟨4, 0, [], (j + 1 : Nat)⟩ :: (ns ++ n1))) := Lib.hid (by rw [show ((j + 1 : Nat) : Int) = (j : Int) + 1 by omega]; exact hp6)
           have hfl6 : (L.drop i6).length + 1 ≤ f := by have := HFL.out; rw [List.length_drop] at this ⊢; omega
           clear hb6 hp6
           go_wp2_with fail
           go_roundw
           case rel => refine Lib.hid ?_; exact .inl ⟨j + 1, ns ++ n1, i6, f, by omega, hfl6, by omega, HX2, HP6, HB6⟩
           case measure => rw [HLF.out, HP6.out.left, if_neg (by omega)]; omega
  ·clear hrel
   obtain ⟨w3, rfl⟩ : ∃ y : World, y = wr := ⟨_, rfl⟩
   have HTO := Lib.hid (take_old m jf 8 B b i w3 L o' HP.out (by omega))
   obtain ⟨tv, nv, k1, k2, k3⟩ := HP.out.ex
   obtain ⟨c0, c1, c2, c3⟩ := cells4 k1
   have hF2 : ¬ (jf : Int) < 0 := by omega
   clear k1 k2 k3
   go_wp2_with fail
   ((with_reducible refine HTO.out.mono ?_))
   rintro e w5 ⟨rfl, rfl⟩
   go_wp2_with fail
   go_end0
   rw [HXF.out]
   exact ⟨rfl, HB.out, _, _, _, rfl, HP.out⟩
end
section
open Go.RowKit
attribute [local go_sem] ByteArray.mk_append_mk bs_get bs_cut bs_end
section
variable (sub : UInt8 → List TokI → PR)
def argsK (kinds : List UInt8) (a j : Nat) (ns : List Nd) (r : List TokI) : PR :=
 match argsL sub (kinds.drop j) (j == 0) ns r with
 | .no x => .no x
 | .ok r1 n1 => blksL sub (kinds.drop a) n1 r1
theorem argsK_start {kinds : List UInt8} {a : Nat} (hk : KindsOk kinds a) (hne : kinds ≠ []) (r : List TokI) : opsP sub kinds r = if atT 5 r = false then .no r else argsK sub kinds a 0 [] r.tail := by
 unfold opsP argsK
 rw [if_neg hne, List.drop_zero, kinds_drop kinds a hk.1 hk.2.1]
 by_cases h5 : atT 5 r = false
 ·rw [if_pos h5, if_pos h5]
 ·rw [if_neg h5, if_neg h5]
  rw [show ((0 : Nat) == 0) = true from rfl]
  cases argsL sub kinds true [] r.tail <;> rfl
theorem argsK_arg {kinds : List UInt8} {a j : Nat} (hk : KindsOk kinds a) (h : j < a) (hj : j < kinds.length) (ns : List Nd) (q : List TokI) :
 argsK sub kinds a j ns q = if j ≠ 0 ∧ atT 9 q = false then .no q else match sub kinds[j] (if j = 0 then q else q.tail) with
  | .no x => .no x
  | .ok r1 n1 => argsK sub kinds a (j + 1) (ns ++ n1) r1 := by
 unfold argsK
 rw [args_step sub hk h hj]
 by_cases h0 : j = 0
 ·rw [show (j == 0) = true by rw [h0]; rfl, if_neg (fun e => by cases e.1), if_neg (by decide), if_neg (fun e => e.1 h0), if_pos h0]
  cases sub kinds[j] q with
  | no x => rfl
  | ok r1 n1 => simp only []; rw [show (j + 1 == 0) = false from rfl]
 ·have e : (j == 0) = false := beq_eq_false_iff_ne.2 h0
  rw [e]
  by_cases h9 : atT 9 q = false
  ·rw [if_pos ⟨rfl, h9⟩, if_pos ⟨h0, h9⟩]
  ·rw [if_neg (fun e => h9 e.2), if_pos rfl, if_neg (fun e => h9 e.2), if_neg h0]
   cases sub kinds[j] q.tail with
   | no x => rfl
   | ok r1 n1 => simp only []; rw [show (j + 1 == 0) = false from rfl]
theorem argsK_end {kinds : List UInt8} {a : Nat} (hk : KindsOk kinds a) (ha : 0 < a) (ns : List Nd) (q : List TokI) : argsK sub kinds a a ns q = if atT 6 q = true then blksL sub (kinds.drop a) ns q.tail else .no q := by
 unfold argsK
 rw [show (a == 0) = false from beq_eq_false_iff_ne.2 (by omega), args_end sub hk]
 by_cases h6 : atT 6 q = true
 ·rw [if_pos h6, if_pos h6]
 ·rw [if_neg h6, if_neg h6]
theorem blksL_step {kinds : List UInt8} {j : Nat} (hj : j < kinds.length) (ns : List Nd) (q : List TokI) :
 blksL sub (kinds.drop j) ns q = match blockP sub kinds[j] q with
  | .no x => .no x
  | .ok r1 n1 => blksL sub (kinds.drop (j + 1)) (ns ++ n1) r1 := by
 rw [List.drop_eq_getElem_cons hj, blksL]
 rfl
end
set_option maxRecDepth 100000 in
set_option maxHeartbeats 8000000 in
theorem rchildren_any (m : Int) (B b : Nat) (L : List TokI) (sub : UInt8 → List TokI → PR) (n : Nat) (hs : RSub m B b L sub n) (hg : ∀ k r, PGood1 r (sub k r)) (hL : L.length ≤ 100000)
 (kinds : List UInt8) (a : Nat) (hk : KindsOk kinds a) (hne : kinds ≠ []) (hkr : ∀ k ∈ kinds, blkR k = blkB k) (op num p : Int) (str : List UInt8) (i0 : Nat) (o : List Nd) (w : World)
 (h : RSt m B b w L i0 (-1) (o ++ ⟨op, num, str, p⟩ :: [])) (hn : L.length - i0 ≤ n) :
 Calls Tryz.prog 106 #[.pointer (some ⟨b, 0, none⟩), .int .i64 o.length, .string ⟨kinds.toArray⟩] w (RPost m B b L w o (wrapP ⟨op, num, str, (kinds.length : Nat)⟩ (opsP sub kinds (L.drop i0)))) := by
 have HS := Lib.hid hs
 have HGD := Lib.hid hg
 have HK := Lib.hid hk
 have HKR := Lib.hid hkr
 have hk10 := hk.2.2.2
 have ha0 : 0 < a := by
  rcases hk.2.2.1 with e | e
  ·exact absurd e hne
  ·exact e
 have haN := hk.1
 obtain ⟨Z, hZ⟩ : ∃ Z, Hid (opsP sub kinds (L.drop i0) = Z) := ⟨_, Lib.hid rfl⟩
 have HZ0 : Hid (Z = if atT 5 (L.drop i0) = false then .no (L.drop i0) else argsK sub kinds a 0 [] (L.drop i0).tail) := Lib.hid (by rw [← hZ.out, argsK_start sub hk hne])
 rw [hZ.out]
 obtain ⟨N, hN⟩ : ∃ N, kinds.length = N := ⟨_, rfl⟩
 rw [hN]
 rw [hN] at hk10 haN
 have HN := Lib.hid hN
 have hol0 : o.length ≤ 200000 := by
  have := h.ol
  have := h.ix
  simp only [List.length_append, List.length_cons] at *
  omega
 obtain ⟨tv, g, c, k1, k2, k3, k4⟩ := h.kids
 have HU := Lib.hid (k4 (N : Int))
 obtain ⟨c0, c1, c2, c3⟩ := cells4 k1
 obtain ⟨LL, hLL⟩ : ∃ z, (o ++ (⟨op, num, str, p⟩ : Nd) :: []).length = z := ⟨_, rfl⟩
 have hLo : o.length < LL := by rw [← hLL]; simp
 have hLo' : (o.length : Int) < (LL : Int) := by omega
 rw [hLL] at c2
 clear h k1 k4 hLL hs hg hk hkr hne hZ
 go_enter Tryz.func106, Tryz.ntmps106
 go_upto_region 1 with fail
 (try simp only [hN])
 have HP1 := Lib.hid HU.out.1
 have HB1 := Lib.hid HU.out.2
 generalize w.setCell ⟨g, o.length * 4 + 3, none⟩ (.int .i64 (N : Int)) = W1 at *
 clear c0 c1 c2 c3 k2 k3 HU hLo hLo'
 have HTK := Lib.hid (take_run m 5 B b i0 W1 L _ HP1.out (by omega) (by decide))
 go_wp2_with fail
 ((with_reducible refine HTK.out.mono ?_))
 rintro e w2 ⟨rfl, hb2, hres⟩
 have HB2 : Hid (Below B w w2) := Lib.hid (HB1.out.trans hb2)
 have HREL : Hid (∃ z, w2 = z ∧ ((∃ (ns : List Nd) (i : Nat), 0 ≤ a ∧ (0 = 0 → ns = []) ∧ L.length - i ≤ n ∧ Hid (argsK sub kinds a 0 ns (L.drop i) = Z) ∧ Hid (RSt m B b z L i (-1) (o ++ ⟨op, num, str, (N : Nat)⟩ :: ns)) ∧ Hid (Below B w z)) ∨ (∃ (i jf : Nat) (o' : List Nd), Hid (Z = .no (L.drop jf)) ∧ Hid (RSt m B b z L i jf o') ∧ Hid (Below B w z)))) := Lib.hid (by
  refine ⟨_, rfl, ?_⟩
  cases h5 : atT 5 (L.drop i0) with
  | true =>
    rw [h5, if_pos rfl] at hres
    exact .inl ⟨[], i0 + 1, Nat.zero_le _, fun _ => rfl, by omega, Lib.hid (by rw [HZ0.out, h5, if_neg (by decide), List.tail_drop]), Lib.hid hres, HB2⟩
  | false =>
    rw [h5, if_neg (by decide)] at hres
    exact .inr ⟨i0, i0, _, Lib.hid (by rw [HZ0.out, h5, if_pos rfl]), Lib.hid hres, HB2⟩)
 clear hb2 hres HTK HB2 HB1 HP1
 go_upto_block 0 with fail
 go_cut [6] (fun x wx => ∃ j : Nat, x = .int .i64 j ∧ j ≤ N ∧ Hid ((j = a ∧ ((∃ (ns : List Nd) (i : Nat), j ≤ a ∧ (j = 0 → ns = []) ∧ L.length - i ≤ n ∧ Hid (argsK sub kinds a j ns (L.drop i) = Z) ∧ Hid (RSt m B b wx L i (-1) (o ++ ⟨op, num, str, (N : Nat)⟩ :: ns)) ∧ Hid (Below B w wx)) ∨ (∃ (i jf : Nat) (o' : List Nd), Hid (Z = .no (L.drop jf)) ∧ Hid (RSt m B b wx L i jf o') ∧ Hid (Below B w wx)))) ∨ (∃ (i jf : Nat) (o' : List Nd), Hid (Z = .no (L.drop jf)) ∧ Hid (RSt m B b wx L i jf o') ∧ Hid (Below B w wx))))
 case first =>
  go_wp2_with fail
  go_loopw [6] (fun x wr => ∃ j : Nat, x = .int .i64 j ∧ j ≤ N ∧ Hid ((∃ (ns : List Nd) (i : Nat), j ≤ a ∧ (j = 0 → ns = []) ∧ L.length - i ≤ n ∧ Hid (argsK sub kinds a j ns (L.drop i) = Z) ∧ Hid (RSt m B b wr L i (-1) (o ++ ⟨op, num, str, (N : Nat)⟩ :: ns)) ∧ Hid (Below B w wr)) ∨ (∃ (i jf : Nat) (o' : List Nd), Hid (Z = .no (L.drop jf)) ∧ Hid (RSt m B b wr L i jf o') ∧ Hid (Below B w wr)))) (fun _ wr => rLeft wr b)
  case atStart =>
   obtain ⟨z, rfl, h⟩ := HREL.out
   exact ⟨0, rfl, by omega, Lib.hid (by simpa using h)⟩
  case round =>
   clear HREL
   obtain ⟨j, rfl, hjN, hrel⟩ := hrel
   rcases hrel.out with ⟨ns, i, hja, hns, hin, HXA, HP, HB⟩ | ⟨i, jf, o', HXF, HP, HB⟩
   ·clear hrel
    obtain ⟨w3, rfl⟩ : ∃ y : World, y = wr := ⟨_, rfl⟩
    have HLF : Hid (rLeft w3 b = 1 + (L.length - i)) := Lib.hid (by rw [HP.out.left, if_neg (by omega)])
    have hix := HP.out.ix
    go_upto_region 3 with fail
    go_cut [35] (fun z wx => z = .bool (decide (j < a)) ∧ w3 = wx)
    case first =>
     obtain ⟨tv, nv, k1, k2, k3⟩ := HP.out.ex
     obtain ⟨c0, c1, c2, c3⟩ := cells4 k1
     clear k1 k2 k3
     by_cases hlt : j < N
     ·have hlt' : (j : Int) < (N : Int) := by omega
      have hjk : j < kinds.length := by rw [HN.out]; exact hlt
      obtain ⟨kj, hkj⟩ : ∃ x, kinds[j] = x := ⟨_, rfl⟩
      have HBK : Hid (blkR kj = decide (a ≤ j)) := Lib.hid (by rw [← hkj, HKR.out _ (List.getElem_mem hjk)]; exact HK.out.2.1 j hjk)
      by_cases hlta : j < a
      ·have HI := Lib.hid (fun w => rblk_is kj false (Lib.hid (by rw [HBK.out]; simp; omega)) w)
       clear HBK
       go_wp2_with fail
       ((with_reducible refine (HI.out _).mono ?_))
       rintro e w4 ⟨rfl, rfl⟩
       go_wp2_with fail
       go_meet
       exact ⟨by simp [hlta], rfl⟩
      ·have HI := Lib.hid (fun w => rblk_is kj true (Lib.hid (by rw [HBK.out]; simp; omega)) w)
       clear HBK
       go_wp2_with fail
       ((with_reducible refine (HI.out _).mono ?_))
       rintro e w4 ⟨rfl, rfl⟩
       go_wp2_with fail
       go_meet
       exact ⟨by simp [hlta], rfl⟩
     ·have hlt' : ¬ (j : Int) < (N : Int) := by omega
      have hlta : ¬ j < a := by omega
      go_wp2_with fail
      go_meet
      exact ⟨by simp [hlta], rfl⟩
    case rest =>
    obtain ⟨rfl, rfl⟩ := hcut
    obtain ⟨w3, rfl⟩ : ∃ y : World, y = w3 := ⟨_, rfl⟩
    by_cases hlta : j < a
    ·have hdt : decide (j < a) = true := decide_eq_true hlta
     have hjk : j < kinds.length := by rw [HN.out]; omega
     have hjk' : (j : Int) < (N : Int) := by omega
     obtain ⟨kj, hkj⟩ : ∃ x, kinds[j] = x := ⟨_, rfl⟩
     have HX1 : Hid (Z = if j ≠ 0 ∧ atT 9 (L.drop i) = false then .no (L.drop i) else match sub kj (if j = 0 then L.drop i else (L.drop i).tail) with
      | .no x => .no x
      | .ok r1 n1 => argsK sub kinds a (j + 1) (ns ++ n1) r1) := Lib.hid (by rw [← HXA.out, argsK_arg sub HK.out hlta hjk, hkj])
     clear HXA
     by_cases h0 : j = 0
     ·have hj0 : ¬ (0 : Int) < (j : Int) := by omega
      have HXS : Hid (Z = match sub kj (L.drop i) with | .no x => .no x | .ok r1 n1 => argsK sub kinds a (j + 1) (ns ++ n1) r1) := Lib.hid (by rw [HX1.out, if_neg (fun e => e.1 h0), if_pos h0])
      clear HX1 h0
      have HSUB := Lib.hid (HS.out kj i _ w3 HP.out (by omega))
      have hgood := HGD.out kj (L.drop i)
      cases hx : sub kj (L.drop i) with
      | no x =>
        rw [hx] at HSUB HXS
        have HX2 : Hid (Z = .no x) := HXS
        clear hx hgood
        go_wp2_with fail
        ((with_reducible refine HSUB.out.mono ?_))
        rintro e w6 ⟨rfl, hb6, i6, j6, o6, rfl, hp6⟩
        have HB6 : Hid (Below B w w6) := Lib.hid (HB.out.trans hb6)
        have HP6 := Lib.hid hp6
        clear hb6 hp6
        go_wp2_with fail
        go_roundw
        case rel => exact ⟨j + 1, by go_num, by omega, Lib.hid (.inr ⟨i6, j6, o6, HX2, HP6, HB6⟩)⟩
        case measure => rw [HLF.out, HP6.out.left, if_pos (by omega)]; omega
      | ok x n1 =>
        rw [hx] at HSUB HXS hgood
        have HX2 : Hid (argsK sub kinds a (j + 1) (ns ++ n1) x = Z) := Lib.hid HXS.out.symm
        obtain ⟨d, hd1, hd2, hd3, hd4⟩ := hgood
        have HGOOD := Lib.hid hd3
        clear hx hd3
        go_wp2_with fail
        ((with_reducible refine HSUB.out.mono ?_))
        rintro e w6 ⟨rfl, hb6, i6, hi6, hp6⟩
        have hlt6 : i < i6 := good_drop hp6.ix hi6 HGOOD.out hd1 hd2
        have hix6 := hp6.ix
        subst hi6
        rw [List.append_assoc, List.cons_append] at hp6
        have HB6 : Hid (Below B w w6) := Lib.hid (HB.out.trans hb6)
        have HP6 := Lib.hid hp6
        clear hb6 hp6
        go_wp2_with fail
        go_roundw
        case rel => exact ⟨j + 1, by go_num, by omega, Lib.hid (.inl ⟨ns ++ n1, i6, by omega, fun h => by omega, by omega, HX2, HP6, HB6⟩)⟩
        case measure => rw [HLF.out, HP6.out.left, if_neg (by omega)]; omega
     ·have hj0 : (0 : Int) < (j : Int) := by omega
      have HTR := Lib.hid (take_run m 9 B b i w3 L _ HP.out (by omega) (by decide))
      cases h9 : atT 9 (L.drop i) with
      | false =>
        have HX2 : Hid (Z = .no (L.drop i)) := Lib.hid (by rw [HX1.out, if_pos ⟨h0, h9⟩])
        clear HX1
        go_wp2_with fail
        ((with_reducible refine HTR.out.mono ?_))
        rintro e w5 ⟨rfl, hb5, hres⟩
        rw [h9, if_neg (by decide)] at hres
        have HP5 := Lib.hid hres
        have HB5 : Hid (Below B w w5) := Lib.hid (HB.out.trans hb5)
        clear hb5 hres h9
        have HNO := Lib.hid (node_old m i B b i kj w5 L _ HP5.out (by omega) (by omega))
        go_wp2_with fail
        ((with_reducible refine HNO.out.mono ?_))
        rintro e w6 ⟨rfl, hb6⟩
        have HB6 : Hid (Below B w w6) := Lib.hid (HB5.out.trans (hb6.mono HP5.out.size))
        have HP6 := Lib.hid (HP5.out.below hb6)
        clear hb6
        go_wp2_with fail
        go_roundw
        case rel => exact ⟨j + 1, by go_num, by omega, Lib.hid (.inr ⟨_, _, _, HX2, HP6, HB6⟩)⟩
        case measure => rw [HLF.out, HP6.out.left, if_pos (by omega)]; omega
      | true =>
        have HXS : Hid (Z = match sub kj (L.drop (i + 1)) with | .no x => .no x | .ok r1 n1 => argsK sub kinds a (j + 1) (ns ++ n1) r1) := Lib.hid (by rw [HX1.out, if_neg (fun e => by rw [h9] at e; exact absurd e.2 (by decide)), if_neg h0, List.tail_drop])
        clear HX1
        go_wp2_with fail
        ((with_reducible refine HTR.out.mono ?_))
        rintro e w5 ⟨rfl, hb5, hres⟩
        rw [h9, if_pos rfl] at hres
        have HP5 := Lib.hid hres
        have HB5 : Hid (Below B w w5) := Lib.hid (HB.out.trans hb5)
        clear hb5 hres h9
        have HSUB := Lib.hid (HS.out kj (i + 1) _ w5 HP5.out (by omega))
        have hgood := HGD.out kj (L.drop (i + 1))
        cases hx : sub kj (L.drop (i + 1)) with
        | no x =>
          rw [hx] at HSUB HXS
          have HX2 : Hid (Z = .no x) := HXS
          clear hx hgood
          go_wp2_with fail
          ((with_reducible refine HSUB.out.mono ?_))
          rintro e w6 ⟨rfl, hb6, i6, j6, o6, rfl, hp6⟩
          have HB6 : Hid (Below B w w6) := Lib.hid (HB5.out.trans hb6)
          have HP6 := Lib.hid hp6
          clear hb6 hp6
          go_wp2_with fail
          go_roundw
          case rel => exact ⟨j + 1, by go_num, by omega, Lib.hid (.inr ⟨i6, j6, o6, HX2, HP6, HB6⟩)⟩
          case measure => rw [HLF.out, HP6.out.left, if_pos (by omega)]; omega
        | ok x n1 =>
          rw [hx] at HSUB HXS hgood
          have HX2 : Hid (argsK sub kinds a (j + 1) (ns ++ n1) x = Z) := Lib.hid HXS.out.symm
          obtain ⟨d, hd1, hd2, hd3, hd4⟩ := hgood
          have HGOOD := Lib.hid hd3
          clear hx hd3
          go_wp2_with fail
          ((with_reducible refine HSUB.out.mono ?_))
          rintro e w6 ⟨rfl, hb6, i6, hi6, hp6⟩
          have hlt6 : (i + 1) < i6 := good_drop hp6.ix hi6 HGOOD.out hd1 hd2
          have hix6 := hp6.ix
          subst hi6
          rw [List.append_assoc, List.cons_append] at hp6
          have HB6 : Hid (Below B w w6) := Lib.hid (HB5.out.trans hb6)
          have HP6 := Lib.hid hp6
          clear hb6 hp6
          go_wp2_with fail
          go_roundw
          case rel => exact ⟨j + 1, by go_num, by omega, Lib.hid (.inl ⟨ns ++ n1, i6, by omega, fun h => by omega, by omega, HX2, HP6, HB6⟩)⟩
          case measure => rw [HLF.out, HP6.out.left, if_neg (by omega)]; omega
    ·have hdt : decide (j < a) = false := decide_eq_false hlta
     obtain rfl : j = a := by omega
     go_wp2_with fail
     go_meet
     exact ⟨j, rfl, hjN, Lib.hid (.inl ⟨rfl, .inl ⟨ns, i, hja, hns, hin, HXA, HP, HB⟩⟩)⟩
   ·clear hrel
    obtain ⟨w3, rfl⟩ : ∃ y : World, y = wr := ⟨_, rfl⟩
    go_upto_region 3 with fail
    go_cut [35] (fun z wx => z = .bool false ∧ w3 = wx)
    case first =>
     obtain ⟨tv, nv, k1, k2, k3⟩ := HP.out.ex
     obtain ⟨c0, c1, c2, c3⟩ := cells4 k1
     have hF2 : ¬ (jf : Int) < 0 := by omega
     clear k1 k2 k3
     by_cases hlt : j < N
     ·have hlt' : (j : Int) < (N : Int) := by omega
      have hjk : j < kinds.length := by rw [HN.out]; exact hlt
      obtain ⟨kj, hkj⟩ : ∃ x, kinds[j] = x := ⟨_, rfl⟩
      obtain ⟨bk, hbk⟩ : ∃ z, Hid (blkR kj = z) := ⟨_, Lib.hid rfl⟩
      have HI := Lib.hid (fun w => rblk_is kj bk hbk w)
      cases bk
      all_goals
       go_wp2_with fail
       ((with_reducible refine (HI.out _).mono ?_))
       rintro e w4 ⟨rfl, rfl⟩
       go_wp2_with fail
       go_meet
       exact ⟨rfl, rfl⟩
     ·have hlt' : ¬ (j : Int) < (N : Int) := by omega
      go_wp2_with fail
      go_meet
      exact ⟨rfl, rfl⟩
    case rest =>
    obtain ⟨rfl, rfl⟩ := hcut
    obtain ⟨w3, rfl⟩ : ∃ y : World, y = w3 := ⟨_, rfl⟩
    go_wp2_with fail
    go_meet
    exact ⟨j, rfl, hjN, Lib.hid (.inr ⟨i, jf, o', HXF, HP, HB⟩)⟩
 case rest =>
 clear HREL HZ0
 obtain ⟨j, rfl, hjN, hcs⟩ := hcut
 obtain ⟨w3, rfl⟩ : ∃ y : World, y = wc := ⟨_, rfl⟩
 have HREL2 : Hid (Calls Tryz.prog 144 #[.pointer (some ⟨b, 0, none⟩), .int .i64 6] w3 fun e w' => e = .returned (.tuple #[]) ∧ Hid (∃ z, w' = z ∧ ((a ≤ j ∧ (∃ (ns : List Nd) (i : Nat), L.length - i ≤ n + 1 ∧ Hid (blksL sub (kinds.drop j) ns (L.drop i) = Z) ∧ Hid (RSt m B b z L i (-1) (o ++ ⟨op, num, str, (N : Nat)⟩ :: ns)) ∧ Hid (Below B w z))) ∨ (∃ (i jf : Nat) (o' : List Nd), Hid (Z = .no (L.drop jf)) ∧ Hid (RSt m B b z L i jf o') ∧ Hid (Below B w z))))) := Lib.hid (by
  rcases hcs.out with ⟨rfl, ⟨ns, i, hja, hns, hin, HXA, HP, HB⟩ | ⟨i, jf, o', HXF, HP, HB⟩⟩ | ⟨i, jf, o', HXF, HP, HB⟩
  ·refine (take_run m 6 B b i w3 L _ HP.out (by omega) (by decide)).mono ?_
   rintro e w4 ⟨rfl, hb4, hres⟩
   refine ⟨rfl, Lib.hid ⟨_, rfl, ?_⟩⟩
   have HXE := HXA.out
   rw [argsK_end sub HK.out ha0] at HXE
   cases h6 : atT 6 (L.drop i) with
   | true =>
     rw [h6, if_pos rfl] at hres HXE
     rw [List.tail_drop] at HXE
     exact .inl ⟨Nat.le_refl _, ns, i + 1, by omega, Lib.hid HXE, Lib.hid hres, Lib.hid (HB.out.trans hb4)⟩
   | false =>
     rw [h6, if_neg (by decide)] at hres HXE
     exact .inr ⟨i, i, _, Lib.hid HXE.symm, Lib.hid hres, Lib.hid (HB.out.trans hb4)⟩
  ·refine (take_old m jf 6 B b i w3 L o' HP.out (by omega)).mono ?_
   rintro e w4 ⟨rfl, rfl⟩
   exact ⟨rfl, Lib.hid ⟨_, rfl, .inr ⟨i, jf, o', HXF, HP, HB⟩⟩⟩
  ·refine (take_old m jf 6 B b i w3 L o' HP.out (by omega)).mono ?_
   rintro e w4 ⟨rfl, rfl⟩
   exact ⟨rfl, Lib.hid ⟨_, rfl, .inr ⟨i, jf, o', HXF, HP, HB⟩⟩⟩)
 clear hcs
 go_wp2_with fail
 ((with_reducible refine HREL2.out.mono ?_))
 rintro e w4 ⟨rfl, HREL⟩
 clear HREL2
 go_wp2_with fail
 go_loopw [6] (fun x wr => ∃ j : Nat, x = .int .i64 j ∧ j ≤ N ∧ Hid ((a ≤ j ∧ (∃ (ns : List Nd) (i : Nat), L.length - i ≤ n + 1 ∧ Hid (blksL sub (kinds.drop j) ns (L.drop i) = Z) ∧ Hid (RSt m B b wr L i (-1) (o ++ ⟨op, num, str, (N : Nat)⟩ :: ns)) ∧ Hid (Below B w wr))) ∨ (∃ (i jf : Nat) (o' : List Nd), Hid (Z = .no (L.drop jf)) ∧ Hid (RSt m B b wr L i jf o') ∧ Hid (Below B w wr)))) (fun x _ => N - (intOf x).toNat)
 case atStart =>
  obtain ⟨z, rfl, h⟩ := HREL.out
  exact ⟨j, rfl, hjN, Lib.hid h⟩
 case round =>
  clear HREL hjN
  obtain ⟨j, rfl, hjN, hrel⟩ := hrel
  rcases hrel.out with ⟨haj, ns, i, hin, HXA, HP, HB⟩ | ⟨i, jf, o', HXF, HP, HB⟩
  ·clear hrel
   obtain ⟨w3, rfl⟩ : ∃ y : World, y = wr := ⟨_, rfl⟩
   obtain ⟨tv, nv, k1, k2, k3⟩ := HP.out.ex
   obtain ⟨c0, c1, c2, c3⟩ := cells4 k1
   clear k1 k2 k3
   by_cases hlt : j < N
   ·have hlt' : (j : Int) < (N : Int) := by omega
    have hjk : j < kinds.length := by rw [HN.out]; exact hlt
    obtain ⟨kj, hkj⟩ : ∃ x, kinds[j] = x := ⟨_, rfl⟩
    have HBL := Lib.hid (rblock_any m B b L sub n HS.out HGD.out (by omega) kj i _ w3 HP.out (by omega))
    have HX1 : Hid (Z = match blockP sub kj (L.drop i) with | .no x => .no x | .ok r1 n1 => blksL sub (kinds.drop (j + 1)) (ns ++ n1) r1) := Lib.hid (by rw [← HXA.out, blksL_step sub hjk, hkj])
    have hgood := blockP_good HGD.out kj (L.drop i)
    clear HXA
    cases hx : blockP sub kj (L.drop i) with
    | no x =>
      rw [hx] at HBL HX1
      have HX2 : Hid (Z = .no x) := HX1
      clear hx hgood
      go_wp2_with fail
      ((with_reducible refine HBL.out.mono ?_))
      rintro e w6 ⟨rfl, hb6, i6, j6, o6, rfl, hp6⟩
      have HB6 : Hid (Below B w w6) := Lib.hid (HB.out.trans hb6)
      have HP6 := Lib.hid hp6
      clear hb6 hp6 c0 c1 c2 c3
      go_wp2_with fail
      go_roundw
      case rel => exact ⟨j + 1, by go_num, by omega, Lib.hid (.inr ⟨i6, j6, o6, HX2, HP6, HB6⟩)⟩
      case measure => simp [intOf]; omega
    | ok x n1 =>
      rw [hx] at HBL HX1 hgood
      have HX2 : Hid (blksL sub (kinds.drop (j + 1)) (ns ++ n1) x = Z) := Lib.hid HX1.out.symm
      obtain ⟨d, hd1, hd2, hd3, hd4⟩ := hgood
      have HGOOD := Lib.hid hd3
      clear hx hd3
      go_wp2_with fail
      ((with_reducible refine HBL.out.mono ?_))
      rintro e w6 ⟨rfl, hb6, i6, hi6, hp6⟩
      have hlt6 : i < i6 := good_drop hp6.ix hi6 HGOOD.out hd1 hd2
      subst hi6
      rw [List.append_assoc, List.cons_append] at hp6
      have HB6 : Hid (Below B w w6) := Lib.hid (HB.out.trans hb6)
      have HP6 := Lib.hid hp6
      clear hb6 hp6 c0 c1 c2 c3
      go_wp2_with fail
      go_roundw
      case rel => exact ⟨j + 1, by go_num, by omega, Lib.hid (.inl ⟨by omega, ns ++ n1, i6, by omega, HX2, HP6, HB6⟩)⟩
      case measure => simp [intOf]; omega
   ·have hlt' : ¬ (j : Int) < (N : Int) := by omega
    have HX2 : Hid (Z = .ok (L.drop i) ns) := Lib.hid (by rw [← HXA.out, List.drop_eq_nil_of_le (by rw [HN.out]; omega), blksL])
    clear HXA
    go_wp2_with fail
    go_end0
    rw [HX2.out]
    exact ⟨rfl, HB.out, _, rfl, HP.out⟩
  ·clear hrel
   obtain ⟨w3, rfl⟩ : ∃ y : World, y = wr := ⟨_, rfl⟩
   obtain ⟨tv, nv, k1, k2, k3⟩ := HP.out.ex
   obtain ⟨c0, c1, c2, c3⟩ := cells4 k1
   have hF2 : ¬ (jf : Int) < 0 := by omega
   have hjj : (j : Int) < (N : Int) ∨ ¬ (j : Int) < (N : Int) := by omega
   clear k1 k2 k3
   rcases hjj with hjj | hjj
   all_goals
    go_wp2_with fail
    go_end0
    rw [HXF.out]
    exact ⟨rfl, HB.out, _, _, _, rfl, HP.out⟩
end
section
open Go.RowKit
attribute [local go_sem] ByteArray.mk_append_mk bs_get bs_cut bs_end
attribute [local go_sem] SameB.some SameB.all
theorem lookP_pos (r : List TokI) : (lookP r).pos = 0 := by
 unfold lookP
 cases r with
 | nil => rfl
 | cons t q => simp only []; repeat' split
               all_goals rfl
theorem lookP_str {r : List TokI} (h : TGood r) : (lookP r).str.length ≤ 65536 := by
 unfold lookP
 cases r with
 | nil => simp
 | cons t q =>
   have := (h t (by simp)).1
   simp only []
   repeat' split
   all_goals first | exact this | simp
def nodeP (sub : UInt8 → List TokI → PR) (k : UInt8) (r : List TokI) : PR :=
 let op : Int := if ((lookP r).kind == 3 && (k == 83 || (k == 101 && atT 5 r.tail))) = true then 5 else (lookP r).kind
 if (op == 0 || !accB k op || (k == 115 && !segB (lookP r).str)) = true then .no r
 else if op = 5 then (if atT 5 r.tail = true then callP sub (lookP r).str r.tail.tail else .no r.tail)
 else if op = 33 then (if atT 5 r.tail = true then wrapP ⟨33, 0, [], 1⟩ (opsP sub [101] r.tail) else .ok r.tail [⟨33, 0, [], 0⟩])
 else if op = 31 then (match opsP sub [101, 83] r.tail with
  | .no x => .no x
  | .ok r1 n1 => if elseT r1 = true then (match blockP sub 83 r1.tail with | .no x => .no x | .ok r2 n2 => .ok r2 (⟨31, 0, [], 3⟩ :: (n1 ++ n2))) else .ok r1 (⟨31, 0, [], 2⟩ :: n1))
 else if op = 1 ∨ op = 2 ∨ op = 3 ∨ op = 6 ∨ op = 7 ∨ op = 34 ∨ op = 35 then .ok r.tail [⟨op, (lookP r).num, (lookP r).str, 0⟩]
 else wrapP ⟨op, 0, [], ((formP op).2.length : Nat)⟩ (opsP sub (formP op).2 r.tail)
theorem form_few : ∀ n : Fin 100, (formP (n.val : Int)).2 = [] → inTab (n.val : Int) = true → n.val = 33 ∨ n.val = 34 ∨ n.val = 35 := by decide +kernel
theorem acc_s_n {k : UInt8} {op : Int} (hk : k = 115) (h : accB k op = true) : op = 3 := by
 subst hk
 exact beq_iff_eq.1 h
theorem opW_ne {w : List UInt8} (op : Int) (h : inTab op = false) (h0 : op ≠ 0) : opW w ≠ op := by
 intro e
 have := opW_tab (s := w) (by rw [e]; exact h0)
 rw [e, h] at this
 cases this
theorem nodeP_subP (f : Nat) (k : UInt8) (r : List TokI) : nodeP (subP f) k r = subP (f + 1) k r := by
 cases r with
 | nil => rfl
 | cons t q =>
   unfold subP nodeP
   dsimp only
   rw [List.tail_cons]
   by_cases h1 : t.kind = 1
   ·have hlk : lookP (t :: q) = if parOk t.str = true then ⟨3, 0, t.str, 0⟩ else ⟨0, 0, [], 0⟩ := by
     unfold lookP
     simp only [h1, show ((1 : Int) = 3) = False by decide, show ((1 : Int) = 4) = False by decide, if_true, if_false]
    rw [if_pos h1, hlk]
    unfold nameP nameB
    rw [List.tail_cons]
    cases hok : parOk t.str with
    | false => simp
    | true =>
      rw [if_pos rfl, Bool.true_and, singB_seg hok]
      dsimp only
      by_cases hop : ((3 : Int) == 3 && (k == 83 || (k == 101 && atT 5 q))) = true
      ·rw [if_pos hop]
       have hk : (k = 83 ∨ (k = 101 ∧ atT 5 q = true)) := by simpa using hop
       have ha5 : accB k 5 = true := by rcases hk with rfl | ⟨rfl, _⟩ <;> rfl
       have hk115 : (k == 115) = false := by rcases hk with rfl | ⟨rfl, _⟩ <;> rfl
       have hk115' : (k != 115) = true := by rw [bne, hk115]; rfl
       by_cases h5 : atT 5 q = true
       ·simp [h5, ha5, hk115, hk115']
       ·have hk83 : k = 83 := by
         rcases hk with h | h
         ·exact h
         ·exact absurd h.2 h5
        subst hk83
        simp [h5, show accB 83 3 = false from rfl, show accB 83 5 = true from rfl]
      ·rw [if_neg hop]
       have hk : ¬ (k = 83 ∨ (k = 101 ∧ atT 5 q = true)) := by simpa using hop
       have hn5 : ¬ (accB k 5 = true ∧ atT 5 q = true) := by
        rintro ⟨ha, hb⟩
        refine hk ?_
        by_cases h83 : k = 83
        ·exact .inl h83
        ·refine .inr ⟨?_, hb⟩
         by_cases h101 : k = 101
         ·exact h101
         ·exfalso
          revert ha
          unfold accB exprB dataB elemB
          simp only [h83, h101, if_false]
          repeat' split
          all_goals simp
       rw [show ((3 : Int) == 0) = false from rfl, Bool.false_or]
       by_cases hs : (k == 115 && !segB t.str) = true
       ·rw [hs, Bool.or_true, if_pos rfl]
        simp only [Bool.and_eq_true, beq_iff_eq, Bool.not_eq_true'] at hs
        rw [hs.1, hs.2]
        rfl
       ·have hs' : (k == 115 && !segB t.str) = false := by simpa using hs
        have hnb : ¬ ((k != 115 || segB t.str) = false) := by
         intro e
         apply hs
         simp only [Bool.or_eq_false_iff, bne_eq_false_iff_eq] at e
         simp [e.1, e.2]
        rw [hs', Bool.or_false, if_neg hnb]
        cases ha3 : accB k 3 with
        | false =>
          rw [Bool.not_false, if_pos rfl]
          by_cases ha5 : accB k 5 = false
          ·rw [if_pos ⟨rfl, ha5⟩]
          ·have h83 : k = 83 := by
            by_cases h83 : k = 83
            ·exact h83
            ·exfalso
             apply ha5
             by_cases h101 : k = 101
             ·subst h101; cases ha3
             ·unfold accB exprB dataB elemB
              simp only [h83, h101, if_false]
              repeat' split
              all_goals simp
           exact absurd (.inl h83) hk
        | true =>
          have h5 : accB k 5 = true → atT 5 q = false := fun ha => by
           cases h : atT 5 q with
           | false => rfl
           | true => exact absurd ⟨ha, h⟩ hn5
          cases ha5 : accB k 5 with
          | true => simp [h5 ha5]
          | false => simp
   rw [if_neg h1]
   by_cases h2 : t.kind = 2
   ·rw [if_pos h2]
    have hlk : lookP (t :: q) = match varW t.str with | some (op, n) => ⟨op, n, [], 0⟩ | none => ⟨opW t.str, 0, [], 0⟩ := by
     unfold lookP
     simp only [h2, show ((2 : Int) = 3) = False by decide, show ((2 : Int) = 4) = False by decide, show ((2 : Int) = 1) = False by decide, if_true, if_false]
     try rfl
    rw [hlk]
    unfold wordP
    rw [List.tail_cons]
    cases hv : varW t.str with
    | some x =>
      obtain ⟨op, n⟩ := x
      have hop : op = 6 ∨ op = 7 := by
       unfold varW at hv
       cases hl : t.str.getLast? with
       | none => rw [hl] at hv; cases hv
       | some c =>
         rw [hl] at hv
         simp only [] at hv
         split at hv
         ·injection hv with e; injection e with e1 _; exact .inl e1.symm
         ·split at hv
          ·injection hv with e; injection e with e1 _; exact .inr e1.symm
          ·cases hv
      have h3 : (op == 3) = false := by rcases hop with rfl | rfl <;> rfl
      simp only [h3, Bool.false_and, Bool.false_eq_true, if_false]
      cases ha : accB k op with
      | false => simp
      | true =>
        have hk115 : (k == 115) = false := by
         rw [beq_eq_false_iff_ne]
         intro e
         have := acc_s_n e ha
         omega
        rw [hk115]
        rcases hop with rfl | rfl <;> simp
    | none =>
      have hop3 : (opW t.str == 3) = false := beq_eq_false_iff_ne.2 (opW_ne 3 rfl (by decide))
      simp only [hop3, Bool.false_and, Bool.false_eq_true, if_false]
      by_cases h0 : opW t.str = 0
      ·simp [h0]
      cases ha : accB k (opW t.str) with
      | false => simp
      | true =>
        have hk115 : (k == 115) = false := by
         rw [beq_eq_false_iff_ne]
         intro e
         exact opW_ne 3 rfl (by decide) (acc_s_n e ha)
        have h00 : (opW t.str == 0) = false := beq_eq_false_iff_ne.2 h0
        rw [if_neg (show ¬ ((opW t.str == 0 || !true || (k == 115 && !segB [])) = true) by rw [h00, hk115]; simp), if_neg (show ¬ (opW t.str = 0 ∨ true = false) by simp [h0])]
        rw [if_neg (opW_ne 5 rfl (by decide))]
        by_cases h33 : opW t.str = 33
        ·rw [if_pos h33, if_pos h33]
         by_cases h5 : atT 5 q = true
         ·rw [if_pos h5, if_pos h5]
          cases opsP (subP f) [101] q <;> rfl
         ·rw [if_neg h5, if_neg h5]
        rw [if_neg h33, if_neg h33]
        by_cases h31 : opW t.str = 31
        ·rw [if_pos h31, h31]
         have e31 : (formP 31).2 = [101, 83] := by decide +kernel
         rw [e31]
         cases opsP (subP f) [101, 83] q with
         | no x => rfl
         | ok r1 n1 =>
           simp only [true_and]
           by_cases he : elseT r1 = true
           ·rw [if_pos he, if_pos he]; rfl
           ·rw [if_neg he, if_neg he]; rfl
        rw [if_neg h31]
        obtain ⟨n, hn⟩ := inTab_lt (opW_tab h0)
        by_cases h3435 : opW t.str = 34 ∨ opW t.str = 35
        ·rw [if_pos (by rcases h3435 with h | h <;> simp [h])]
         have e : (formP (opW t.str)).2 = [] := by rcases h3435 with h | h <;> rw [h] <;> decide +kernel
         rw [e]
         unfold opsP
         rw [if_pos rfl]
         simp only []
         rw [if_neg (fun e => h31 e.1)]
         rfl
        ·rw [if_neg (by
          rintro (h | h | h | h | h | h | h)
          ·exact opW_ne 1 rfl (by decide) h
          ·exact opW_ne 2 rfl (by decide) h
          ·exact opW_ne 3 rfl (by decide) h
          ·exact opW_ne 6 rfl (by decide) h
          ·exact opW_ne 7 rfl (by decide) h
          ·exact h3435 (.inl h)
          ·exact h3435 (.inr h))]
         cases opsP (subP f) (formP (opW t.str)).2 q with
         | no x => rfl
         | ok r1 n1 =>
           simp only []
           rw [if_neg (fun e => h31 e.1)]
           rfl
   rw [if_neg h2]
   by_cases h3 : t.kind = 3
   ·have hlk : lookP (t :: q) = ⟨1, t.num, [], 0⟩ := by unfold lookP; simp only [h3, if_true]
    rw [hlk]
    cases ha : accB k 1 with
    | false => simp [h3, ha]
    | true =>
      have hk115 : (k == 115) = false := by
       rw [beq_eq_false_iff_ne]; intro e; have := acc_s_n e ha; omega
      simp [h3, ha, hk115]
   by_cases h4 : t.kind = 4
   ·have hlk : lookP (t :: q) = ⟨2, 0, t.str, 0⟩ := by
     unfold lookP
     simp only [h4, show ((4 : Int) = 3) = False by decide, if_true, if_false]
    rw [hlk]
    cases ha : accB k 2 with
    | false => simp [h4, ha]
    | true =>
      have hk115 : (k == 115) = false := by
       rw [beq_eq_false_iff_ne]; intro e; have := acc_s_n e ha; omega
      simp [h4, ha, hk115]
   ·have hlk : lookP (t :: q) = ⟨0, 0, [], 0⟩ := by unfold lookP; simp only [h1, h2, h3, h4, if_false]
    rw [hlk]
    simp [h3, h4]
set_option maxRecDepth 100000 in
set_option maxHeartbeats 2000000 in
theorem add_ref4 (m F : Int) (B b i : Nat) (k n p : Int) (s : List UInt8) (w : World) (r : List TokI) (o : List Nd) (h : RSt m B b w r i F o) (hl : o.length ≤ 900000) (hol : (o.length : Int) ≤ i + F) :
 Calls Tryz.prog 103 #[.pointer (some ⟨b, 0, none⟩), tokV k n s p] w fun e w' => e = .returned (.int .i64 o.length) ∧ RSt m B b w' r i F (o ++ [⟨k, n, s, p⟩]) ∧ Below B w w' ∧ ∀ Q, Q < w.heap.size → Q ≠ b → (∀ tv nv, w.heap[b]? = some (rpObj tv i nv F) → nv.ownBlock ≠ some Q) → w'.heap[Q]? = w.heap[Q]? := by
 have H0 := Lib.hid (h.alloc (nObj k n s p))
 have HN0 := Lib.hid (heap_alloc_new w (nObj k n s p))
 have HB0 : Hid (Below B w (w.alloc (nObj k n s p))) := Lib.hid ((Below.refl _ _).alloc h.size _)
 obtain ⟨tv, nv, h1, h2, h3⟩ := h.ex
 obtain ⟨na, nc, rfl⟩ := h3.form
 have hal : Below w.heap.size w (w.alloc (nObj k n s p)) := (Below.refl _ _).alloc (Nat.le_refl _) _
 have HP1 := Lib.hid (blk_below h1 hal)
 have HT1 := Lib.hid (h2.below (hal.mono h.size))
 have HO1 := Lib.hid (h3.below hal)
 have HNE : Hid (∀ g, (Value.slice na o.length nc).ownBlock = some g → g < w.heap.size) := Lib.hid (fun g hg => own_lt h3 hg)
 have HF0 : Hid (∀ Q, Q < w.heap.size → (w.alloc (nObj k n s p)).heap[Q]? = w.heap[Q]?) := Lib.hid (fun Q hQ => hal.block Q hQ)
 have HFQ : Hid (∀ Q, (∀ tv nv, w.heap[b]? = some (rpObj tv i nv F) → nv.ownBlock ≠ some Q) → (Value.slice na o.length nc).ownBlock ≠ some Q) := Lib.hid (fun Q hQ => hQ _ _ h1)
 have HSZW : Hid (w.heap.size ≤ (w.alloc (nObj k n s p)).heap.size) := Lib.hid hal.size
 clear h h1 h2 h3 hal
 unfold tokV
 go_enter Tryz.func103, Tryz.ntmps103
 go_upto_region 1 with fail
 obtain ⟨P, hP⟩ : ∃ P, w.heap.size = P := ⟨_, rfl⟩
 obtain ⟨PW, hPW⟩ : ∃ z : World, z = w := ⟨_, rfl⟩
 have HPE : Hid (w.heap.size = P) := Lib.hid hP
 rw [hP] at HN0 HNE
 simp only [hP]
 clear hPW
 generalize w.alloc (nObj k n s p) = W at *
 have k0 : ∀ x, SameB W b P x → x.cell? ⟨b, 2, none⟩ = some (.slice na o.length nc) := fun x hx => (cells4 (hx.1.trans HP1.out)).2.2.1
 have q0 : ∀ x, SameB W b P x → x.cell? ⟨P, 0, none⟩ = some (.int .i64 k) := fun x hx => (cells4 (hx.2.trans HN0.out)).1
 have q1 : ∀ x, SameB W b P x → x.cell? ⟨P, 1, none⟩ = some (.int .u64 n) := fun x hx => (cells4 (hx.2.trans HN0.out)).2.1
 have q2 : ∀ x, SameB W b P x → x.cell? ⟨P, 2, none⟩ = some (.string ⟨s.toArray⟩) := fun x hx => (cells4 (hx.2.trans HN0.out)).2.2.1
 have q3 : ∀ x, SameB W b P x → x.cell? ⟨P, 3, none⟩ = some (.int .i64 p) := fun x hx => (cells4 (hx.2.trans HN0.out)).2.2.2
 have HPL : Hid (P < W.heap.size) := Lib.hid (lt_of_block HN0.out)
 have HBL : Hid (b < W.heap.size) := Lib.hid (lt_of_block HP1.out)
 clear hP
 refine wp_region_plan (SameB W b P) 8 [.reads [0, 1, 2, 3, 4, 5], .act 6, .act 7, .act 8, .act 9, .act 10] (by kernel_rfl) (by kernel_rfl) (by kernel_rfl) (by kernel_rfl) (by kernel_rfl) (fun _ _ d _ _ h => by cases d <;> exact h) ⟨rfl, rfl⟩ ?_
 refine wpPlan_reads ?_
 simp only [pickOps, List.drop_succ_cons, List.drop_zero, List.take_succ_cons, List.take_zero, List.cons_append, List.nil_append]
 repeat (go_big_quiet_step (first | (intro hb; rw [k0 _ hb]; exact ⟨rfl, rfl⟩) | (intro hb; rw [q0 _ hb]; simp only [Result.andThen]; rw [q1 _ hb]; simp only; rw [q2 _ hb]; simp only; rw [q3 _ hb]; exact ⟨rfl, rfl⟩)))
 refine wpQuiet_nil ?_
 refine wpPlan_act rfl ?_
 simp only [pickOps, List.drop_succ_cons, List.drop_zero, List.take_succ_cons, List.take_zero, List.cons_append, List.nil_append]
 go_wp2_with fail
 have hg1 : Grows W (W.alloc (nObj k n s p)).drew := Below.drew ((Below.refl _ _).alloc (Nat.le_refl _) _)
 have H1 := Lib.hid (H0.out.below hg1)
 have HP2 := Lib.hid (blk_below HP1.out hg1)
 have HPP := Lib.hid (blk_below HN0.out hg1)
 have HT2 := Lib.hid (HT1.out.below (hg1.mono H0.out.size))
 have HO2 := Lib.hid (HO1.out.below hg1)
 have HNN : Hid ((W.alloc (nObj k n s p)).drew.heap[W.heap.size]? = some (nObj k n s p)) := Lib.hid (heap_alloc_new W _)
 have HB2 : Hid (Below B w (W.alloc (nObj k n s p)).drew) := Lib.hid (HB0.out.trans (hg1.mono H0.out.size))
 have HF1 : Hid (∀ Q, Q < w.heap.size → (W.alloc (nObj k n s p)).drew.heap[Q]? = w.heap[Q]?) := Lib.hid (fun Q hQ => (hg1.block Q (Nat.lt_of_lt_of_le hQ HSZW.out)).trans (HF0.out Q hQ))
 have HSZV : Hid (w.heap.size ≤ (W.alloc (nObj k n s p)).drew.heap.size) := Lib.hid (Nat.le_trans HSZW.out hg1.size)
 refine ⟨fun _ => ⟨hg1.block b HBL.out, hg1.block P HPL.out⟩, ?_⟩
 have HS2 : Hid (SameB W b P (W.alloc (nObj k n s p)).drew) := Lib.hid ⟨hg1.block b HBL.out, hg1.block P HPL.out⟩
 generalize (W.alloc (nObj k n s p)).drew = V at *
 clear hg1 H0 HN0 HP1 HT1 HO1 HB0 k0 q0 q1 q2 q3
 refine wpPlan_act rfl ?_
 simp only [pickOps, List.drop_succ_cons, List.drop_zero, List.take_succ_cons, List.take_zero, List.cons_append, List.nil_append]
 go_wp2_with (at_builtin; refine wpList_append_node rfl _ _ rfl B _ o rfl HO2.out W.heap.size ⟨k, n, s, p⟩ rfl HNN.out (by omega) H1.out.size ?_; intro v2 w2 ho hg; obtain ⟨a2, c2, rfl⟩ := NodesI.form ho; have HO3 := Lib.hid ho; have HG3 := Lib.hid hg; clear ho hg)
 refine ⟨fun _ => ⟨(HG3.out.block b (lt_of_block HP2.out) (fun e => own_rp HO2.out HP2.out e.symm)).trans HS2.out.1, (HG3.out.block P (lt_of_block HPP.out) (fun e => absurd (HNE.out P e.symm) (Nat.lt_irrefl _))).trans HS2.out.2⟩, ?_⟩
 refine wpPlan_act rfl ?_
 simp only [pickOps, List.drop_succ_cons, List.drop_zero, List.take_succ_cons, List.take_zero, List.cons_append, List.nil_append]
 go_wp2_with fail
 refine ⟨fun h => absurd h (by decide), ?_⟩
 refine wpPlan_act rfl ?_
 simp only [pickOps, List.drop_succ_cons, List.drop_zero, List.take_succ_cons, List.take_zero, List.cons_append, List.nil_append]
 go_wp2_with fail
 refine ⟨fun h => absurd h (by decide), ?_⟩
 refine wpPlan_act rfl ?_
 simp only [pickOps, List.drop_succ_cons, List.drop_zero, List.take_succ_cons, List.take_zero, List.cons_append, List.nil_append]
 have hb3 := (HG3.out.block b (lt_of_block HP2.out) (fun e => own_rp HO2.out HP2.out e.symm)).trans HP2.out
 have f3 := free3 hb3 2
 have c3 := (cells4 hb3).2.2.1
 clear hb3
 go_wp2_with fail
 refine ⟨fun h => absurd h (by decide), wpPlan_nil ?_⟩
 obtain ⟨hr, hlw⟩ := H1.out.grown HP2.out HT2.out HO2.out HG3.out HO3.out (by simp only [List.length_append, List.length_cons, List.length_nil]; omega)
 have HR := Lib.hid hr
 have HL := Lib.hid hlw
 have hb9 := (HG3.out.block b (lt_of_block HP2.out) (fun e => own_rp HO2.out HP2.out e.symm)).trans HP2.out
 have c9 := (cells4 (heap_setCell_same _ _ 2 _ _ (.slice a2 (o ++ [(⟨k, n, s, p⟩ : Nd)]).length c2) hb9)).2.2.1
 have HF9 : Hid (∀ Q, Q < w.heap.size → Q ≠ b → (∀ tv nv, w.heap[b]? = some (rpObj tv i nv F) → nv.ownBlock ≠ some Q) → (w2.setCell ⟨b, 2, none⟩ (.slice a2 (o ++ [(⟨k, n, s, p⟩ : Nd)]).length c2)).heap[Q]? = w.heap[Q]?) := Lib.hid (fun Q hQ hb hr => (heap_setCell_other _ _ _ _ hb).trans ((HG3.out.block Q (Nat.lt_of_lt_of_le hQ HSZV.out) (fun e => HFQ.out Q hr e.symm)).trans (HF1.out Q hQ)))
 clear c3 f3 hr hlw HG3 HO3 HP2 HT2 HO2 H1 HPP HNN HS2 hb9
 obtain ⟨O, hO⟩ : ∃ O, o ++ [(⟨k, n, s, p⟩ : Nd)] = O := ⟨_, rfl⟩
 have hOl : O.length = o.length + 1 := by rw [← hO]; simp
 rw [hO] at HR HL c9
 rw [hOl] at HR HL c9
 rw [hO, hOl] at HF9
 have HO := Lib.hid hO
 clear hO hOl
 generalize w2.setCell ⟨b, 2, none⟩ (.slice a2 (o.length + 1) c2) = W9 at *
 go_wp2_with fail
 go_ret
 exact ⟨rfl, by rw [HO.out]; exact HR.out, HB2.out.trans HL.out, HF9.out⟩
theorem lookP_facts (r : List TokI) : (lookP r).kind ≠ 5 ∧ ((lookP r).kind = 3 → (lookP r).num = 0) ∧ ((lookP r).kind ≠ 0 → (lookP r).kind ≠ 1 → (lookP r).kind ≠ 2 → (lookP r).kind ≠ 3 → (lookP r).kind ≠ 6 → (lookP r).kind ≠ 7 → (lookP r).num = 0 ∧ (lookP r).str = [] ∧ inTab (lookP r).kind = true) := by
 cases r with
 | nil => exact ⟨by decide, fun h => rfl, fun h => absurd rfl h⟩
 | cons t q =>
   unfold lookP
   simp only []
   split
   ·simp
   split
   ·simp
   split
   ·split
    ·simp
    ·simp
   split
   ·cases hv : varW t.str with
    | some x =>
      obtain ⟨op, n⟩ := x
      have hop : op = 6 ∨ op = 7 := by
       rw [varW_num] at hv
       split at hv
       ·injection hv with e; injection e with e1 _; exact .inl e1.symm
       ·split at hv
        ·injection hv with e; injection e with e1 _; exact .inr e1.symm
        ·cases hv
      simp only []
      rcases hop with rfl | rfl
      ·simp
      ·simp
    | none =>
      simp only []
      exact ⟨opW_ne 5 rfl (by decide), fun h => absurd h (opW_ne 3 rfl (by decide)), fun h0 _ _ _ _ _ => ⟨by trivial, by trivial, opW_tab h0⟩⟩
   ·simp
theorem forms_blk : ∀ n : Fin 100, ∀ k ∈ (formP (n.val : Int)).2, blkR k = blkB k := by decide +kernel
theorem inR_s {k : UInt8} (h : (k == 115) = false) : ((k.toNat : Int) == 115) = false := (byte_int k 115).trans h
theorem kids101 : KindsOk [101] 1 := ⟨by decide, fun j h => by have : j = 0 := by simp at h; exact h
                                                               subst this; rfl, .inr (by decide), by decide⟩
theorem kids10183 : KindsOk [101, 83] 1 := ⟨by decide, fun j h => by
 match j, h with
 | 0, _ => rfl
 | 1, _ => rfl, .inr (by decide), by decide⟩
end
end Go.Proofs.YtnicnfchkdmieaaGreatDoor
