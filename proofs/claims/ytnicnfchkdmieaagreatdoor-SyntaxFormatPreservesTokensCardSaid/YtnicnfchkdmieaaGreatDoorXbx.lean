/- Kb -/
import Derived.Test.YtnicnfchkdmieaaGreatDoorXbe
import Derived.Test.YtnicnfchkdmieaaGreatDoorXbw
import Derived.Test.YtnicnfchkdmieaaGreatDoorXad
set_option linter.unusedVariables false
set_option linter.unusedSimpArgs false
namespace Go.Proofs.YtnicnfchkdmieaaGreatDoor
open Go.RowKit
attribute [local go_sem] ByteArray.mk_append_mk bs_get bs_cut bs_end
abbrev sepO : Obj:=.cells #[.string ⟨#[32]⟩,.string ⟨#[10,9]⟩,.string ⟨#[47,42,32,123,32,42,47]⟩,.string ⟨#[32,47,47,32,41,10]⟩] 9
theorem sepO_cell {w : World} {A : Nat} (h : w.heap[A]? = some sepO) (k : Nat) (hk : k < 4) : w.cell? ⟨A,k,none⟩ = some (.string ⟨(sep4.getD k []).toArray⟩):=by
 match k,hk with
 | 0,_ => exact cell_of_row w A 0 _ _ (0,0) h
 | 1,_ => exact cell_of_row w A 1 _ _ (0,0) h
 | 2,_ => exact cell_of_row w A 2 _ _ (0,0) h
 | 3,_ => exact cell_of_row w A 3 _ _ (0,0) h
theorem rem4 (c : UInt8) : (c.toNat : Int).tmod 4 = ((c.toNat % 4 : Nat) : Int):=by
 rw [Int.tmod_eq_emod_of_nonneg (by omega)]; omega
theorem tok_text (t : TokI) (g off cap : Nat) (w : World) (h : TAtK w g off t) (hok : OkT t ∧ t.str.length ≤ 65536) :
  Calls Tryz.prog 15 #[.slice (some ⟨g,off,none⟩) 1 cap] w fun e w' => e = .returned (.string ⟨(fmtT t).toArray⟩) ∧ Below w.heap.size w w':=by
 have h2:=rtoks_any [t] _ w (TSl.single (cap:=cap) h) (fun x hx => by
  simp only [List.mem_cons,List.not_mem_nil,or_false] at hx; subst hx; exact hok) (by simp)
 have e : textP (wordsP true [t]) = fmtT t:=by simp [wordsP,textP_cons,textP_nil]
 rw [e] at h2
 exact h2
theorem txtX_len {M : List TokI} (hok : ∀ t ∈ M,TV t) (sp : List UInt8) : ∀ k,k ≤ M.length → (txtX M sp k).length ≤ 70000 * k
 | 0,_ => by simp [txtX,catX]
 | k + 1,h => by
   have h1:=txtX_len hok sp k (by omega)
   have h2:=(sepX_ok sp k).2
   have h3:=hok _ (List.getElem_mem (show k < M.length by omega))
   have h4:=okT_len h3.1 h3.2
   rw [txtX_succ (by omega),List.length_append,List.length_append]
   omega
theorem core_at {A B : List Tok} (h : A.map coreT = B.map coreT) (i : Nat) (ha : i < A.length) (hb : i < B.length) : A[i].kind = B[i].kind ∧ A[i].num = B[i].num ∧ A[i].str = B[i].str:=by
 have h1:=congrArg (fun l => l[i]?) h
 simp only [List.getElem?_map,List.getElem?_eq_getElem ha,List.getElem?_eq_getElem hb,Option.map_some,Option.some.injEq] at h1
 unfold coreT at h1
 injection h1 with h1 h2
 injection h2 with h2 h3
 exact ⟨h1,h2,h3⟩
set_option maxRecDepth 100000 in
set_option maxHeartbeats 32000000 in
theorem law_preserves (l : List Int) (v0 : Value) (sp : List UInt8) (v1 : Value) (m : Int) (W : World) (hl : IArg W v0 l) (hsp : BArg W v1 sp) (hm : SynG m W) (hT : Tz16 W) :
  Calls Tryz.prog 8 #[v0,v1] W fun e w' => e = .returned (.bool true) ∧ Below W.heap.size W w':=by
 have HM0:=Lib.hid hm
 have HZ0:=Lib.hid hT
 have HSP0:=Lib.hid hsp
 have HPR:=Lib.hid (program_any v0 l W hl)
 unfold ProgPost at HPR
 obtain ⟨ia,ic,rfl,_⟩:=hl
 obtain ⟨sa,sc,rfl,hsl,_⟩:=hsp
 obtain ⟨IL,hIL⟩ : ∃ L,l.length = L:=⟨_,rfl⟩
 rw [hIL] at HPR ⊢
 obtain ⟨SL,hSL⟩ : ∃ L,sp.length = L:=⟨_,rfl⟩
 have HSLE:=Lib.hid hSL
 rw [hSL] at HSP0 hsl ⊢
 clear hm hT hIL hSL
 go_enter Tryz.func8,Tryz.ntmps8
 go_wp2_with fail
 ((with_reducible refine HPR.out.mono ?_))
 rintro e w1 ⟨v,ns,rfl,hn,hg,⟨hv,hf6⟩,hb⟩
 have HNU : Hid (NumsOk ns):=Lib.hid (fun t ht => (hg t ht).2)
 have HST : Hid (∀ t ∈ ns,t.str.length ≤ 65536):=Lib.hid (fun t ht => by have:=(hg t ht).1; omega)
 have HRF:=Lib.hid (rformat_any ns v w1 (hn.slG hg) HST.out HNU.out hv)
 have HSF:=Lib.hid (fun w vb (h1 : NSl w vb ns) (h2 : SynG m w) (h3 : Tz16 w) => sformat_any ns vb m w h1 HST.out HNU.out hv h2 h3)
 have HSLB : Hid (∀ w B vb,NodesI w B vb ns → NSl w vb ns):=Lib.hid (fun w B vb h => h.slG hg)
 have hln:=fmtP_ln6 ns hg hv hf6
 obtain ⟨T,hscT,htv,htl,htx⟩:=prog_seps ns HNU.out hg hv hf6 sp
 have HB1:=Lib.hid hb
 have HM1:=Lib.hid (HM0.out.bel hb)
 have HZ1:=Lib.hid (HZ0.out.bel hb)
 have HSP1:=Lib.hid (HSP0.out.below hb)
 obtain ⟨qa,qc,rfl⟩:=hn.form
 obtain ⟨F,hF⟩ : ∃ F,fmtP ns = F:=⟨_,rfl⟩
 rw [hF] at HRF HSF hln hscT
 obtain ⟨NL,hNL⟩ : ∃ F,ns.length = F:=⟨_,rfl⟩
 rw [hNL] at HRF ⊢
 have HTX:=Lib.hid htx
 have HTV:=Lib.hid htv
 clear hn hg hv hb hF HNU HPR HM0 HZ0 hf6 HST HSP0 htx htv
 go_wp2_with fail
 ((with_reducible refine HRF.out.mono ?_))
 rintro e w2 ⟨rfl,hb2⟩
 have HB2:=Lib.hid (bel_then HB1.out (Nat.le_refl _) hb2)
 have HM2:=Lib.hid (HM1.out.bel hb2)
 have HZ2:=Lib.hid (HZ1.out.bel hb2)
 have HSP2:=Lib.hid (HSP1.out.below hb2)
 have HSC:=Lib.hid (rScan_any F w2 (by omega))
 rw [hscT] at HSC
 unfold ScanPost at HSC
 have HSCF:=Lib.hid (fun w h => tScan_any F m w (by omega) h)
 rw [hscT] at HSCF
 unfold ScanPost at HSCF
 clear hb2 HRF HB1 HM1 HZ1 HSP1
 go_wp2_with fail
 ((with_reducible refine HSC.out.mono ?_))
 rintro e w3 ⟨v2,rfl,ht3,hb3⟩
 have HB3:=Lib.hid (bel_then HB2.out (Nat.le_refl _) hb3)
 have HM3:=Lib.hid (HM2.out.bel hb3)
 have HZ3:=Lib.hid (HZ2.out.bel hb3)
 have HSP3:=Lib.hid (HSP2.out.below hb3)
 have HO3:=Lib.hid ht3.toI
 obtain ⟨M,hM⟩ : ∃ M,T.map Tok.toI = M:=⟨_,rfl⟩
 have HO3 : Hid (ToksI w3 w2.heap.size v2 (T.map Tok.toI)):=HO3
 rw [hM] at HO3 HTV HTX
 obtain ⟨n,hn⟩ : ∃ n,M.length = n:=⟨_,rfl⟩
 have hTn : T.length = n:=by rw [← hn,← hM,List.length_map]
 rw [hTn] at HTX htl
 have HNL:=Lib.hid hn
 obtain ⟨a2,c2,hve,hc2⟩:=HO3.out.room
 subst hve
 rw [hn] at hc2 ⊢
 have HT3 : Hid (TSl w3 (.slice a2 n c2) M):=Lib.hid (by have:=HO3.out.sl; rw [hn] at this; exact this)
 have HTN:=Lib.hid hTn
 have HTM:=Lib.hid hM
 clear ht3 hb3 HSC HB2 HM2 HZ2 HSP2 HO3 hM hn hTn hln hscT
 have hal : Below w3.heap.size w3 (w3.alloc sepO):=(Below.refl _ _).alloc (Nat.le_refl _) _
 have HA4 : Hid ((w3.alloc sepO).heap[w3.heap.size]? = some sepO):=Lib.hid (heap_alloc_new _ _)
 have HB4:=Lib.hid (bel_then HB3.out (Nat.le_refl _) hal)
 have HM4:=Lib.hid (HM3.out.bel hal)
 have HZ4:=Lib.hid (HZ3.out.bel hal)
 have HSP4:=Lib.hid (HSP3.out.below hal)
 have HT4:=Lib.hid (HT3.out.below hal)
 obtain ⟨C,hC⟩ : ∃ C,w3.heap.size = C:=⟨_,rfl⟩
 rw [hC] at HA4
 clear hal HB3 HM3 HZ3 HSP3 HT3
 go_upto_region 3 with fail
 (try simp only [hC])
 generalize w3.alloc sepO = w4 at HA4 HB4 HM4 HZ4 HSP4 HT4 ⊢
 clear hC
 go_wp2_with fail
 go_loopw [9,10] (fun z i wr => ∃ (k : Nat) (x : List UInt8),z = .string ⟨x.toArray⟩ ∧ i = .int .i64 k ∧ k ≤ n ∧ x.length ≤ 5000000000 ∧ Hid (x = txtX M sp k) ∧ Hid (Below w4.heap.size w4 wr)) (fun _ i _ => n - (intOf i).toNat)
 case atStart => exact ⟨0,[],rfl,rfl,by omega,by simp,Lib.hid rfl,Lib.hid (Below.refl _ _)⟩
 case round =>
  obtain ⟨k,x,rfl,rfl,hk,hxl,HX,HBW⟩:=hrel
  obtain ⟨w5,rfl⟩ : ∃ y : World,y = wr:=⟨_,rfl⟩
  by_cases hlt : k < n
  ·have hlt' : (k : Int) < (n : Int):=by omega
   have hkM : k < M.length:=by rw [HNL.out]; exact hlt
   obtain ⟨b,off,rfl,hcell⟩:=HT4.out.at k hkM
   have htk:=HTV.out _ (List.getElem_mem hkM)
   have hsucc:=txtX_succ (sp:=sp) hkM
   obtain ⟨t,ht⟩ : ∃ t,M[k] = t:=⟨_,rfl⟩
   rw [ht] at hcell htk hsucc
   obtain ⟨G,hG⟩ : ∃ z,fmtT t = z:=⟨_,rfl⟩
   have HFT:=Lib.hid (tok_text t b (off + k * 4) (c2 - k) w5 (hcell.below HBW.out) htk)
   have hGl : G.length ≤ 65536:=by rw [← hG]; exact okT_len htk.1 htk.2
   have hTXL : Hid ((txtX M sp (k + 1)).length ≤ 5000000000):=Lib.hid (by have:=txtX_len HTV.out sp (k + 1) (by omega); omega)
   rw [hG] at HFT hsucc
   have HSU:=Lib.hid hsucc
   clear hcell htk hsucc ht hG
   go_wp2_with fail
   ((with_reducible refine HFT.out.mono ?_))
   rintro e w6 ⟨rfl,hb6⟩
   have HB6:=Lib.hid (bel_then HBW.out (Nat.le_refl _) hb6)
   clear hb6 HFT HBW
   by_cases hks : k < SL
   ·have hks' : (k : Int) < (SL : Int):=by omega
    have hkl : k < sp.length:=by rw [HSLE.out]; exact hks
    obtain ⟨sa',sc',hve,_,hcs⟩:=HSP4.out.below HB6.out
    injection hve with e1 e2 e3
    subst e1 e3
    clear e2
    obtain ⟨sb,so,rfl,hcc⟩:=hcs (by rintro rfl; simp at hkl)
    have c0:=hcc k hkl
    obtain ⟨q,hq⟩ : ∃ q,sp[k] = q:=⟨_,rfl⟩
    have hr:=rem4 q
    have hmod : q.toNat % 4 < 4:=Nat.mod_lt _ (by decide)
    have c1:=sepO_cell (blk_below HA4.out HB6.out) _ hmod
    have HSE : Hid (sepX sp k = sep4.getD (q.toNat % 4) []):=Lib.hid (by
     unfold sepX
     rw [if_pos hkl]
     have : sp.getD k 0 = q:=by rw [← hq]; simp [List.getD,hkl]
     rw [this])
    rw [hq] at c0
    obtain ⟨S,hS⟩ : ∃ S,sep4.getD (q.toNat % 4) [] = S:=⟨_,rfl⟩
    rw [hS] at c1 HSE
    have hSl : S.length ≤ 7:=by rw [← HSE.out]; exact (sepX_ok sp k).2
    have HX2 : Hid (x ++ (G ++ S) = txtX M sp (k + 1)):=Lib.hid (by rw [HSU.out,HSE.out,HX.out])
    have hX2l : (x ++ (G ++ S)).length ≤ 5000000000:=by rw [HX2.out]; exact hTXL.out
    have HX2L:=Lib.hid hX2l
    have hq0:=q.toNat_lt
    obtain ⟨R,hR⟩ : ∃ R,q.toNat % 4 = R:=⟨_,rfl⟩
    rw [hR] at hr hmod c1
    have hmod' : (R : Int) < 4:=by omega
    obtain ⟨Q,hQ⟩ : ∃ Q,q.toNat = Q:=⟨_,rfl⟩
    rw [hQ] at hr c0 hq0
    clear hcc hcs hq hS hR hQ HSE HSU HX hX2l
    go_wp2_with fail
    go_roundw
    case rel => exact ⟨k + 1,x ++ (G ++ S),by simp,by go_num,by omega,HX2L.out,HX2,HB6⟩
    case measure => simp [intOf]; omega
   ·have hks' : ¬ (k : Int) < (SL : Int):=by omega
    have HSE : Hid (sepX sp k = [32]):=Lib.hid (by unfold sepX; rw [if_neg (by rw [HSLE.out]; exact hks)])
    have HX2 : Hid (x ++ (G ++ [32]) = txtX M sp (k + 1)):=Lib.hid (by rw [HSU.out,HSE.out,HX.out])
    have hX2l : (x ++ (G ++ [32])).length ≤ 5000000000:=by rw [HX2.out]; exact hTXL.out
    have HX2L:=Lib.hid hX2l
    clear HSE HSU HX hX2l
    go_wp2_with fail
    go_roundw
    case rel => exact ⟨k + 1,x ++ (G ++ [32]),by simp,by go_num,by omega,HX2L.out,HX2,HB6⟩
    case measure => simp [intOf]; omega
  ·have hlt' : ¬ (k : Int) < (n : Int):=by omega
   have hkn : k = n:=by omega
   have HBX:=Lib.hid (bel_then HB4.out (Nat.le_refl _) HBW.out)
   have HMX:=Lib.hid (HM4.out.bel HBW.out)
   have HZX:=Lib.hid (HZ4.out.bel HBW.out)
   by_cases hbig : 65536 < x.length
   ·have hbig' : (65536 : Int) < (x.length : Int):=by omega
    have HAW:=Lib.hid (awake_any m w5 HMX.out)
    go_wp2_with fail
    ((with_reducible refine HAW.out.mono ?_))
    rintro e w6 ⟨rfl,hb6⟩
    have HB6:=Lib.hid (bel_then HBX.out (Nat.le_refl _) hb6)
    clear hb6
    go_wp2_with fail
    go_ret
    exact ⟨rfl,HB6.out⟩
   ·have hbig' : ¬ (65536 : Int) < (x.length : Int):=by omega
    have hxn : x = txtX M sp n:=by rw [← hkn]; exact HX.out
    obtain ⟨T2,hs2,hp2,hcore⟩:=HTX.out (by rw [← hxn]; omega)
    rw [← hxn] at hs2 hp2
    have HPA:=Lib.hid (parse_is x ns 0 0 m (Lib.hid hp2) w5 HMX.out (by omega))
    have HSX:=Lib.hid (fun w h => tScan_any x m w (by omega) h)
    rw [hs2] at HSX
    unfold ScanPost at HSX
    have hT2n : T2.length = n:=by have:=congrArg List.length hcore; rw [List.length_map,List.length_map,HTN.out] at this; exact this
    have HCO:=Lib.hid hcore
    have HT2:=Lib.hid hT2n
    clear hs2 hp2 hcore hT2n hxn HX HTX HBW HT4 HSP4 HA4 HB4 HM4 HZ4 HTV hkn
    go_wp2_with fail
    ((with_reducible refine HPA.out.mono ?_))
    rintro e w6 ⟨vq,rfl,hq6,hb6⟩
    have HB6:=Lib.hid (bel_then HBX.out (Nat.le_refl _) hb6)
    have HM6:=Lib.hid (HMX.out.bel hb6)
    have HZ6:=Lib.hid (HZX.out.bel hb6)
    have HN6:=Lib.hid (HSLB.out _ _ _ hq6)
    obtain ⟨ra,rc,rfl⟩:=hq6.form
    rw [hNL] at HN6 ⊢
    clear hq6 hb6 HPA HBX HMX HZX
    go_wp2_with fail
    have HX6:=Lib.hid (HSX.out _ HM6.out.1)
    ((with_reducible refine HX6.out.mono ?_))
    rintro e w7 ⟨va,rfl,ha7,hb7⟩
    have HB7:=Lib.hid (bel_then HB6.out (Nat.le_refl _) hb7)
    have HM7:=Lib.hid (HM6.out.bel hb7)
    have HZ7:=Lib.hid (HZ6.out.bel hb7)
    have HN7:=Lib.hid (HN6.out.below hb7)
    have HA7 : Hid (TSl w7 va (T2.map Tok.toI)):=Lib.hid ha7.toI.sl
    clear ha7 hb7 HSX HB6 HM6 HZ6 HN6
    go_wp2_with fail
    ((with_reducible refine (HSF.out _ _ HN7.out HM7.out HZ7.out).mono ?_))
    rintro e w8 ⟨rfl,hb8⟩
    have HB8:=Lib.hid (bel_then HB7.out (Nat.le_refl _) hb8)
    have HM8:=Lib.hid (HM7.out.bel hb8)
    have HA8:=Lib.hid (HA7.out.below hb8)
    clear hb8 HSF HB7 HM7 HZ7 HN7 HA7
    go_wp2_with fail
    have HX8:=Lib.hid (HSCF.out _ HM8.out.1)
    ((with_reducible refine HX8.out.mono ?_))
    rintro e w9 ⟨vb,rfl,hb9',hb9⟩
    have HB9:=Lib.hid (bel_then HB8.out (Nat.le_refl _) hb9)
    have HM9:=Lib.hid (HM8.out.bel hb9)
    have HA9:=Lib.hid (HA8.out.below hb9)
    have HV9 : Hid (TSl w9 vb (T.map Tok.toI)):=Lib.hid hb9'.toI.sl
    clear hb9 hb9' HSCF HB8 HM8 HA8
    have HAW:=Lib.hid (awake_any m w9 HM9.out)
    go_wp2_with fail
    ((with_reducible refine HAW.out.mono ?_))
    rintro e w10 ⟨rfl,hb10⟩
    have HB10:=Lib.hid (bel_then HB9.out (Nat.le_refl _) hb10)
    have HA10:=Lib.hid (HA9.out.below hb10)
    have HV10:=Lib.hid (HV9.out.below hb10)
    clear hb10 HAW HB9 HM9 HA9 HV9
    obtain ⟨ta,tc,hve,_⟩:=HA10.out
    obtain ⟨ua,uc,hue,_⟩:=HV10.out
    rw [List.length_map,HT2.out] at hve
    rw [List.length_map,HTN.out] at hue
    subst hve hue
    go_wp2_with fail
    go_loopw [20] (fun i wr => ∃ j : Nat,i = .int .i64 j ∧ j ≤ n ∧ Hid (Below w10.heap.size w10 wr)) (fun i _ => n - (intOf i).toNat)
    case atStart => exact ⟨0,rfl,by omega,Lib.hid (Below.refl _ _)⟩
    case round =>
     obtain ⟨j,rfl,hj,HBW⟩:=hrel
     obtain ⟨w11,rfl⟩ : ∃ y : World,y = wr:=⟨_,rfl⟩
     by_cases hjn : j < n
     ·have hjn' : (j : Int) < (n : Int):=by omega
      have hj2 : j < T2.length:=by rw [HT2.out]; exact hjn
      have hj1 : j < T.length:=by rw [HTN.out]; exact hjn
      obtain ⟨e1,e2,e3⟩:=core_at HCO.out j hj2 hj1
      obtain ⟨b1,o1,rfl,hc1⟩:=HA10.out.at j (by rw [List.length_map]; exact hj2)
      obtain ⟨b2,o2,rfl,hc2'⟩:=HV10.out.at j (by rw [List.length_map]; exact hj1)
      rw [List.getElem_map] at hc1 hc2'
      obtain ⟨⟨tk,tn,ts,tp⟩,htt⟩ : ∃ z,T2[j] = z:=⟨_,rfl⟩
      obtain ⟨⟨uk,un,us,up⟩,htu⟩ : ∃ z,T[j] = z:=⟨_,rfl⟩
      rw [htt,htu] at e1 e2 e3
      rw [htt] at hc1
      rw [htu] at hc2'
      simp only at e1 e2 e3
      subst e1 e2 e3
      obtain ⟨x0,x1,x2,x3⟩:=hc1.below HBW.out
      obtain ⟨y0,y1,y2,y3⟩:=hc2'.below HBW.out
      unfold Tok.toI at x0 x1 x2 y0 y1 y2
      simp only at x0 x1 x2 y0 y1 y2
      have n1 : ((tk : Int) != (tk : Int)) = false:=by simp
      have n2 : ((tn : Int) != (tn : Int)) = false:=by simp
      clear hc1 hc2' x3 y3 htt htu
      go_upto_region 21 with fail
      go_quiet (fail)
      go_wp2_with fail
      go_roundw
      case rel => exact ⟨j + 1,by go_num,by omega,Lib.hid (below_drewN HBW.out _)⟩
      case measure => simp [intOf]; omega
     ·have hjn' : ¬ (j : Int) < (n : Int):=by omega
      go_wp2_with fail
      go_ret
      exact ⟨rfl,bel_then HB10.out (Nat.le_refl _) HBW.out⟩
end Go.Proofs.YtnicnfchkdmieaaGreatDoor
