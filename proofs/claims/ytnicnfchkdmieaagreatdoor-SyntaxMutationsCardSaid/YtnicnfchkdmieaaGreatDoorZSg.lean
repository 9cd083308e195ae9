/- Sg -/
import Derived.Test.YtnicnfchkdmieaaGreatDoorZSf
set_option linter.unusedVariables false
set_option linter.unusedSimpArgs false
namespace Go.Proofs.YtnicnfchkdmieaaGreatDoor
open Go.RowKit
attribute [local go_sem] ByteArray.mk_append_mk bs_get bs_cut bs_end
theorem tcI_set (o ns : List Nd) (a n : Int) (s : List UInt8) (p u : Int) : (tcI (o ++ ⟨a, n, s, p⟩ :: ns)).set (o.length * 4 + 3) (.int .i64 u) = tcI (o ++ ⟨a, n, s, u⟩ :: ns) := by
 rw [tcI_app, tcI_app, List.set_append_right _ _ (by rw [tcI_len]; omega), tcI_len, show o.length * 4 + 3 - o.length * 4 = 3 by omega]
 rfl
theorem tcI_kids (o ns : List Nd) (a n : Int) (s : List UInt8) (p : Int) : (tcI (o ++ ⟨a, n, s, p⟩ :: ns))[o.length * 4 + 3]? = some (.int .i64 p) := by
 rw [tcI_app, List.getElem?_append_right (by rw [tcI_len]; omega), tcI_len, show o.length * 4 + 3 - o.length * 4 = 3 by omega]
 rfl
theorem PSt.kids {m E : Int} {B b : Nat} {w : World} {r : List TokI} {o ns : List Nd} {a n : Int} {s : List UInt8} {p : Int} (h : PSt m E B b w r (o ++ ⟨a, n, s, p⟩ :: ns)) :
 ∃ tv bad g c, w.heap[b]? = some (psObj tv E bad (.slice (some ⟨g, 0, none⟩) (o ++ ⟨a, n, s, p⟩ :: ns).length c)) ∧ w.cell? ⟨g, o.length * 4 + 3, none⟩ = some (.int .i64 p) ∧ w.frozen? ⟨g, o.length * 4 + 3, none⟩ = false ∧
   ∀ u : Int, PSt m E B b (w.setCell ⟨g, o.length * 4 + 3, none⟩ (.int .i64 u)) r (o ++ ⟨a, n, s, u⟩ :: ns) ∧ Below B w (w.setCell ⟨g, o.length * 4 + 3, none⟩ (.int .i64 u)) := by
 obtain ⟨⟨tv, bad, nv, h1, h2, h3⟩, h4, h5, h6, h7, h8⟩ := h
 have hne := own_ps h3 h1
 obtain ⟨g, c, hnv, hB⟩ : ∃ g c, nv = .slice (some ⟨g, 0, none⟩) (o ++ ⟨a, n, s, p⟩ :: ns).length c ∧ B ≤ g := by
  rcases h3.2 with ⟨_, h0⟩ | ⟨g, cap, cur, e, hb, _⟩
  ·simp at h0
  ·exact ⟨g, cap, e, hb⟩
 subst hnv
 refine ⟨tv, bad, g, c, h1, ?_, World.ownsRow.frozenAt h3 _, fun u => ?_⟩
 ·rw [World.ownsRow.cellAt h3 _ (by simp; omega)]
  exact tcI_kids o ns a n s p
 ·obtain ⟨k1, k2⟩ := World.ownsRow.stored h3 (o.length * 4 + 3) (.int .i64 u)
  rw [tcI_set] at k1
  have hL : (o ++ ⟨a, n, s, p⟩ :: ns).length = (o ++ (⟨a, n, s, u⟩ : Nd) :: ns).length := by simp
  have hb : Below B w (w.setCell ⟨g, o.length * 4 + 3, none⟩ (.int .i64 u)) := (Below.refl _ _).setCell hB _
  rw [hL] at k1 h1
  refine ⟨⟨⟨tv, bad, _, blk_other h1 _ _ (fun e => hne (by simp [Value.ownBlock, e])), h2.below hb, k1⟩, h4, Nat.le_trans h5 hb.size, h6.below hb h7, h7, h8⟩, hb⟩
def tokLen (w : World) (b : Nat) : Nat := match w.cell? ⟨b, 0, none⟩ with
 | some (.slice _ n _) => n
 | _ => 0
theorem PSt.tokLen {m E : Int} {B b : Nat} {w : World} {r : List TokI} {o : List Nd} (h : PSt m E B b w r o) : tokLen w b = r.length := by
 obtain ⟨tv, bad, nv, h1, ⟨a, cap, rfl, _⟩, h3⟩ := h.ex
 unfold Go.Proofs.YtnicnfchkdmieaaGreatDoor.tokLen
 rw [(cells4 h1).1]
def SubOk (m E : Int) (B b : Nat) (sub : UInt8 → List TokI → PR) (n : Nat) : Prop :=
 ∀ (k : UInt8) (r : List TokI) (o : List Nd) (w : World), PSt m E B b w r o → r.length ≤ n → o.length + r.length ≤ 100000 →
   Calls Tryz.prog 47 #[.pointer (some ⟨b, 0, none⟩), .int .u8 k.toNat] w (SynPost m E B b w o (sub k r))
set_option maxRecDepth 100000 in
set_option maxHeartbeats 4000000 in
theorem call_any (m E : Int) (B b : Nat) (sub : UInt8 → List TokI → PR) (n : Nat) (hs : SubOk m E B b sub n) (hg : ∀ k r, PGood1 r (sub k r)) (text : List UInt8) (t : TokI) (r : List TokI) (o : List Nd) (w : World)
 (h : PSt m E B b w (t :: r) o) (hn : r.length ≤ n) (hl : o.length + r.length ≤ 99999) :
 Calls Tryz.prog 130 #[.pointer (some ⟨b, 0, none⟩), .string ⟨text.toArray⟩] w (SynPost m E B b w o (callP sub text r)) := by
 have HS := Lib.hid hs
 have HGD := Lib.hid hg
 have H0 := Lib.hid (skip_any m E B b w t r o h (by omega))
 clear hs hg h
 go_enter Tryz.func130, Tryz.ntmps130
 go_wp2_with fail
 ((with_reducible refine H0.out.mono ?_))
 rintro e w1 ⟨rfl, h1, hb1⟩
 have HB1 := Lib.hid hb1
 have HA := Lib.hid (add_any m E B b 5 0 0 text w1 r o h1 (by omega))
 clear h1 hb1 H0
 unfold tokV at HA
 go_wp2_with fail
 ((with_reducible refine HA.out.mono ?_))
 rintro e w2 ⟨rfl, h2, hb2⟩
 have HB2 : Hid (Below B w w2) := Lib.hid (HB1.out.trans hb2)
 have H2 := Lib.hid h2
 have HAT := Lib.hid (at_any m E B b 6 w2 r _ h2 (by omega))
 clear HA HB1 hb2
 cases hk : atT 6 r with
 | true =>
   have HX : Hid (callP sub text r = .ok r.tail [⟨5, 0, text, 0⟩]) := Lib.hid (by unfold callP; rw [if_pos hk])
   rw [hk] at HAT
   cases r with
   | nil => cases hk
   | cons t2 q =>
     have HK := Lib.hid (skip_any m E B b w2 t2 q _ h2 (by simp at hl; omega))
     clear h2 hk
     go_wp2_with fail
     ((with_reducible refine HAT.out.mono ?_))
     rintro e w3 ⟨rfl, rfl⟩
     go_wp2_with fail
     ((with_reducible refine HK.out.mono ?_))
     rintro e w3 ⟨rfl, h3, hb3⟩
     have HB3 : Hid (Below B w w3) := Lib.hid (HB2.out.trans hb3)
     have H3 := Lib.hid h3
     clear h3 hb3
     go_wp2_with fail
     go_ret
     rw [HX.out]
     exact ⟨HB3.out, rfl, H3.out⟩
 | false =>
   obtain ⟨X, hX⟩ : ∃ X, Hid (callP sub text r = X) := ⟨_, Lib.hid rfl⟩
   have HX : Hid (callL sub text 7 0 [] r = X) := Lib.hid (by rw [← hX.out]; unfold callP; rw [if_neg (by rw [hk]; decide)])
   rw [hk] at HAT
   clear h2 hk
   go_wp2_with fail
   ((with_reducible refine HAT.out.mono ?_))
   rintro e w3 ⟨rfl, rfl⟩
   clear HAT
   go_wp2_with fail
   go_loopw [18] (fun i wr => ∃ (j : Nat) (ns : List Nd) (q : List TokI), j ≤ 6 ∧ ns.length + q.length ≤ r.length ∧ Hid (callL sub text (7 - j) j ns q = X) ∧ Hid (PSt m E B b wr q (o ++ ⟨5, 0, text, j⟩ :: ns)) ∧ Hid (Below B w wr)) (fun _ wr => tokLen wr b)
   case atStart => exact ⟨0, [], r, by omega, by simp, HX, H2, HB2⟩
   case round =>
    clear H2 HB2 HX
    obtain ⟨j, ns, q, hj, hnq, HX, HP, HB⟩ := hrel
    obtain ⟨w3, rfl⟩ : ∃ y : World, y = wr := ⟨_, rfl⟩
    have HTL : Hid (tokLen w3 b = q.length) := Lib.hid HP.out.tokLen
    have HSUB : Hid (Calls Tryz.prog 47 #[.pointer (some ⟨b, 0, none⟩), .int .u8 101] w3 (SynPost m E B b w3 (o ++ ⟨5, 0, text, j⟩ :: ns) (sub 101 q))) :=
     Lib.hid (HS.out 101 q _ w3 HP.out (by omega) (by simp only [List.length_append, List.length_cons]; omega))
    have hgood := HGD.out 101 q
    obtain ⟨f, hf⟩ : ∃ f, 7 - j = f + 1 := ⟨6 - j, by omega⟩
    rw [hf] at HX
    cases hx : sub 101 q with
    | no x =>
      rw [hx] at HSUB
      have HX2 : Hid (X = .no x) := Lib.hid (by rw [← HX.out, callL, hx])
      clear hx hgood HX HP HTL
      go_wp2_with fail
      ((with_reducible refine HSUB.out.mono ?_))
      rintro e w4 ⟨hb4, rfl, hbad⟩
      have HB4 : Hid (Below B w w4) := Lib.hid (HB.out.trans hb4)
      have HBAD := Lib.hid hbad
      clear hb4 hbad
      go_wp2_with fail
      go_ret
      rw [hX.out, HX2.out]
      exact ⟨HB4.out, rfl, HBAD.out⟩
    | ok q1 n1 =>
      rw [hx] at HSUB hgood
      obtain ⟨d, hd1, hd2, hd3, hd4⟩ := hgood
      have hql : q1.length + d = q.length := by rw [hd3, List.length_drop]; omega
      have HX2 : Hid (X = if j + 1 = 7 ∨ atT 9 q1 = false then (if atT 6 q1 = true then .ok q1.tail (⟨5, 0, text, (j + 1 : Nat)⟩ :: (ns ++ n1)) else .no q1) else callL sub text f (j + 1) (ns ++ n1) q1.tail) := Lib.hid (by rw [← HX.out, callL, hx])
      clear hx hd3 HX HP
      go_wp2_with fail
      ((with_reducible refine HSUB.out.mono ?_))
      rintro e w4 ⟨hb4, rfl, hp4⟩
      rw [List.append_assoc, List.cons_append] at hp4
      have HB4 : Hid (Below B w w4) := Lib.hid (HB.out.trans hb4)
      obtain ⟨tv, bad, g, c, k1, k2, k3, k4⟩ := hp4.kids
      have HU := Lib.hid (k4 ((j : Int) + 1))
      obtain ⟨c0, c1, c2, c3⟩ := cells4 k1
      obtain ⟨L, hL⟩ : ∃ L, (o ++ (⟨5, 0, text, j⟩ : Nd) :: (ns ++ n1)).length = L := ⟨_, rfl⟩
      have hLo : o.length < L := by rw [← hL]; simp
      have hLo' : (o.length : Int) < (L : Int) := by omega
      rw [hL] at c3
      clear hp4 hb4 k1 k4 hL HSUB HB
      go_upto_region 9 with fail
      have HP5 := Lib.hid HU.out.1
      have HB5 : Hid (Below B w (w4.setCell ⟨g, o.length * 4 + 3, none⟩ (.int .i64 ((j : Int) + 1)))) := Lib.hid (HB4.out.trans HU.out.2)
      generalize w4.setCell ⟨g, o.length * 4 + 3, none⟩ (.int .i64 ((j : Int) + 1)) = W5 at *
      clear c0 c1 c2 c3 k2 k3 HU HB4 hLo hLo'
      obtain ⟨tv5, bad5, g5, c5, k1, k2, k3, k4⟩ := HP5.out.kids
      obtain ⟨c0, c1, c2, c3⟩ := cells4 k1
      obtain ⟨L5, hL⟩ : ∃ L, (o ++ (⟨5, 0, text, (j : Int) + 1⟩ : Nd) :: (ns ++ n1)).length = L := ⟨_, rfl⟩
      have hLo : o.length < L5 := by rw [← hL]; simp
      have hLo' : (o.length : Int) < (L5 : Int) := by omega
      have hLn : L5 = o.length + 1 + ns.length + n1.length := by rw [← hL]; simp; omega
      rw [hL] at c3
      clear k1 k4 k3 hL
      have HAT := Lib.hid (at_any m E B b 9 W5 q1 _ HP5.out (by omega))
      have HPU := Lib.hid (punct_any m E B b 6 W5 q1 _ HP5.out (by omega))
      by_cases h7 : j + 1 = 7
      ·have e7 : ((j : Int) + 1 == 7) = true := by rw [beq_iff_eq]; omega
       have HX3 : Hid (X = if atT 6 q1 = true then .ok q1.tail (⟨5, 0, text, (j : Int) + 1⟩ :: (ns ++ n1)) else .no q1) := Lib.hid (by rw [HX2.out, if_pos (.inl h7)]; simp)
       clear h7 HX2
       go_wp2_with fail
       ((with_reducible refine HPU.out.mono ?_))
       rintro e w6 ⟨hb6, hres⟩
       have HB6 : Hid (Below B w w6) := Lib.hid (HB5.out.trans hb6)
       clear hb6
       cases h6 : atT 6 q1 with
       | true =>
         rw [h6, if_pos rfl] at hres HX3
         obtain ⟨rfl, hp6⟩ := hres
         have HP6 := Lib.hid hp6
         clear hp6
         go_wp2_with fail
         go_ret
         rw [hX.out, HX3.out]
         rw [List.append_nil] at HP6
         exact ⟨HB6.out, rfl, HP6.out⟩
       | false =>
         rw [h6, if_neg (by decide)] at hres HX3
         obtain ⟨rfl, hp6⟩ := hres
         have HP6 := Lib.hid hp6
         clear hp6
         go_wp2_with fail
         go_ret
         rw [hX.out, HX3.out]
         exact ⟨HB6.out, rfl, HP6.out⟩
      ·have e7 : ((j : Int) + 1 == 7) = false := by rw [beq_eq_false_iff_ne]; omega
       cases h9 : atT 9 q1 with
       | false =>
         have HX3 : Hid (X = if atT 6 q1 = true then .ok q1.tail (⟨5, 0, text, (j : Int) + 1⟩ :: (ns ++ n1)) else .no q1) := Lib.hid (by rw [HX2.out, if_pos (.inr h9)]; simp)
         rw [h9] at HAT
         clear h7 HX2 h9
         go_wp2_with fail
         ((with_reducible refine HAT.out.mono ?_))
         rintro e w6 ⟨rfl, rfl⟩
         go_wp2_with fail
         ((with_reducible refine HPU.out.mono ?_))
         rintro e w6 ⟨hb6, hres⟩
         have HB6 : Hid (Below B w w6) := Lib.hid (HB5.out.trans hb6)
         clear hb6
         cases h6 : atT 6 q1 with
         | true =>
           rw [h6, if_pos rfl] at hres HX3
           obtain ⟨rfl, hp6⟩ := hres
           have HP6 := Lib.hid hp6
           clear hp6
           go_wp2_with fail
           go_ret
           rw [hX.out, HX3.out]
           rw [List.append_nil] at HP6
           exact ⟨HB6.out, rfl, HP6.out⟩
         | false =>
           rw [h6, if_neg (by decide)] at hres HX3
           obtain ⟨rfl, hp6⟩ := hres
           have HP6 := Lib.hid hp6
           clear hp6
           go_wp2_with fail
           go_ret
           rw [hX.out, HX3.out]
           exact ⟨HB6.out, rfl, HP6.out⟩
       | true =>
         have HX3 : Hid (callL sub text f (j + 1) (ns ++ n1) q1.tail = X) := Lib.hid (by rw [HX2.out, if_neg (fun h => by rcases h with h | h; exact h7 h; rw [h9] at h; cases h)])
         rw [h9] at HAT
         cases q1 with
         | nil => cases h9
         | cons t2 q2 =>
           have HK := Lib.hid (skip_any m E B b W5 t2 q2 _ HP5.out (by simp at hql; omega))
           have hq2 : q2.length + 1 + d = q.length := by simpa using hql
           clear HX2 h9 HP5 HPU
           go_wp2_with fail
           ((with_reducible refine HAT.out.mono ?_))
           rintro e w6 ⟨rfl, rfl⟩
           go_wp2_with fail
           ((with_reducible refine HK.out.mono ?_))
           rintro e w6 ⟨rfl, h6, hb6⟩
           have HB6 : Hid (Below B w w6) := Lib.hid (HB5.out.trans hb6)
           have HP6 := Lib.hid h6
           clear h6 hb6 c0 c1 c2 c3 k2
           go_wp2_with fail
           go_roundw
           case rel => exact ⟨j + 1, ns ++ n1, q2, by omega, by simp only [List.length_append]; omega, by rw [show 7 - (j + 1) = f by omega]; exact HX3, HP6, HB6⟩
           case measure => rw [HTL.out, HP6.out.tokLen]; omega
end Go.Proofs.YtnicnfchkdmieaaGreatDoor
