/- Opx Opy -/
import Derived.Test.YtnicnfchkdmieaaGreatDoorXad
import Derived.Test.YtnicnfchkdmieaaGreatDoorChecked
import Derived.ProofKit
import Derived.OpenShut
import Derived.SizedLaws
import Derived.SliceStrings
import Derived.Lib.SmallJoins
import Derived.ChangeSlices
import Derived.Shelf.Vars
import Derived.Test.YtnicnfchkdmieaaGreatDoorXaz
import Derived.Test.YtnicnfchkdmieaaGreatDoorXax
import Derived.Test.YtnicnfchkdmieaaGreatDoorCards
import Derived.Deep.Slices
import Derived.ChangeSame
set_option linter.unusedVariables false
set_option linter.unusedSimpArgs false
namespace Go.Proofs.YtnicnfchkdmieaaGreatDoor
section
open Go.ChangeShapes Go.WideShapes Go.RowKit Go.Joins
theorem cellsT5 : Tryz.prog.cellsOf 5 = 1:=by kernel_rfl
theorem bytesT5 : Tryz.prog.bytesOf 5 = 1:=by kernel_rfl
theorem add_zero_addr (b o k : Nat) : (⟨b,o,none⟩ : Addr).add k = ⟨b,o + k,none⟩:=by by_cases h : k = 0 <;> simp [Addr.add,h]
theorem open_bytesV {H : Type} {enc : TypeId × Value → H} {W : World} {fuel : Nat} {v : Value} {y : DataW H × List MemPlace} (h : DataW.trod enc Tryz.prog W 0 (fun _ => true) true fuel 22 [v] = some y) (hw : ∀ m ∈ y.1.weights Tryz.prog 22,m ≤ reachBytes) :
  ∃ l,BArg W v l:=by
 rcases open_ints Tryz.underlying22 Tryz.underlying5 cellsT5 h with ⟨hcs,hx⟩ | ⟨a,len,cap,zs,hcs,_,hl,hm,hz,hx,hcell,hwz⟩
 ·cases hcs
  exact ⟨[],none,0,rfl,by simp,fun h => absurd rfl h⟩
 ·cases hcs
  subst hx
  simp only [if_true] at hz
  have h1 : ((lits (H:=H) .u8 (zs.take len)).length + (lits (H:=H) .u8 (zs.drop len)).length) * Tryz.prog.bytesOf 5 ≤ reachBytes:=by
   apply hw
   simp only [DataW.weights,Tryz.underlying22]
   exact List.mem_cons_self ..
  rw [bytesT5] at h1
  simp only [lits,List.length_map,List.length_take,List.length_drop] at h1
  have hr : reachBytes = 140737488351232:=rfl
  rw [hr] at h1
  have hlen : ((zs.take len).map (fun z => UInt8.ofNat z.toNat)).length = len:=by simp; omega
  refine ⟨(zs.take len).map (fun z => UInt8.ofNat z.toNat),some a,cap,by rw [hlen],by rw [hlen]; omega,fun hn => ?_⟩
  have hpos : 0 < len:=by
   rcases Nat.eq_zero_or_pos len with h0 | h0
   ·subst h0; simp at hn
   ·exact h0
  obtain ⟨b,o,spot⟩:=a
  have hsp : spot = none:=by
   have h1:=hcell 0 (by omega)
   simpa [Addr.add] using World.cell?_spot h1
  subst hsp
  refine ⟨b,o,rfl,fun k hk => ?_⟩
  rw [hlen] at hk
  have h2:=hcell k (by omega)
  rw [add_zero_addr] at h2
  rw [h2]
  have hb:=bounds_u8 (hwz zs[k] (List.getElem_mem _))
  simp [List.getD,List.getElem?_eq_getElem (show k < zs.length by omega)]
  omega
set_option maxRecDepth 100000 in
theorem open_bytesA {H : Type} {enc : TypeId × Value → H} {W : World} {b0 : Nat} {v : Value} {d : DataW H} {p : List MemPlace} (hv : Value.okWide Tryz.prog W .any b0 22 v) (h : DataW.Trod enc Tryz.prog W 0 (fun _ => true) true 22 v d p) (hw : ∀ m ∈ d.weights Tryz.prog 22,m ≤ reachBytes) :
  ∃ l,BArg W v l:=by
 obtain ⟨a0,len,cap,rfl⟩:=okWide_slice Tryz.underlying22 hv
 obtain ⟨fuel,hf⟩:=h
 exact open_bytesV (by simpa [Value.cells] using hf) hw
theorem sized_each {H : Type} {P : Program} {ts : List TypeId} {ds : List (DataW H)} (h : (DataW.weightsEach P ts ds).all (· ≤ reachBytes) = true) {j : Nat} {t : TypeId} {d : DataW H} (ht : ts[j]? = some t) (hd : ds[j]? = some d) : ∀ m ∈ d.weights P t,m ≤ reachBytes:=by
 intro m hm
 have:=List.all_eq_true.1 h m (DataW.weights_mem_each ht hd m hm)
 simpa using this
end
section
open Go.ChangeShapes Go.WideShapes Go.Deep Go.RowKit Go.Joins
theorem cellsT_int : Tryz.prog.cellsOf 3 = 1:=by kernel_rfl
theorem bytesT_int : Tryz.prog.bytesOf 3 = 8:=by kernel_rfl
theorem add_zero_addr' (b o k : Nat) : (⟨b,o,none⟩ : Addr).add k = ⟨b,o + k,none⟩:=by by_cases h : k = 0 <;> simp [Addr.add,h]
theorem open_intsV {H : Type} {enc : TypeId × Value → H} {W : World} {fuel : Nat} {v : Value} {y : DataW H × List MemPlace} (h : DataW.trod enc Tryz.prog W 0 (fun _ => true) true fuel 27 [v] = some y) (hw : ∀ m ∈ y.1.weights Tryz.prog 27,m ≤ reachBytes) :
  ∃ l,IArg W v l:=by
 rcases open_ints Tryz.underlying27 Tryz.underlying3 cellsT_int h with ⟨hcs,hx⟩ | ⟨a,len,cap,zs,hcs,_,hl,hm,hz,hx,hcell,hwz⟩
 ·cases hcs
  exact ⟨[],none,0,rfl,by simp,(fun h => absurd rfl h),by simp⟩
 ·cases hcs
  subst hx
  simp only [if_true] at hz
  have h1 : ((lits (H:=H) .i64 (zs.take len)).length + (lits (H:=H) .i64 (zs.drop len)).length) * Tryz.prog.bytesOf 3 ≤ reachBytes:=by
   apply hw
   simp only [DataW.weights,Tryz.underlying27]
   exact List.mem_cons_self ..
  rw [bytesT_int] at h1
  simp only [lits,List.length_map,List.length_take,List.length_drop] at h1
  have hr : reachBytes = 140737488351232:=rfl
  rw [hr] at h1
  have hlen : (zs.take len).length = len:=by simp; omega
  refine ⟨zs.take len,some a,cap,by rw [hlen],by rw [hlen]; omega,(fun hn => ?_),fun x hx => bounds_i64 (hwz x (List.mem_of_mem_take hx))⟩
  have hpos : 0 < len:=by
   rcases Nat.eq_zero_or_pos len with h0 | h0
   ·subst h0; simp at hn
   ·exact h0
  obtain ⟨b,o,spot⟩:=a
  have hsp : spot = none:=by
   have h1:=hcell 0 (by omega)
   simpa [Addr.add] using World.cell?_spot h1
  subst hsp
  refine ⟨b,o,rfl,fun k hk => ?_⟩
  rw [hlen] at hk
  have h2:=hcell k (by omega)
  rw [add_zero_addr'] at h2
  rw [h2]
  simp [List.getD,List.getElem?_eq_getElem (show k < zs.length by omega)]
set_option maxRecDepth 100000 in
theorem open_intsA {H : Type} {enc : TypeId × Value → H} {W : World} {b0 : Nat} {v : Value} {d : DataW H} {p : List MemPlace} (hv : Value.okWide Tryz.prog W .any b0 27 v) (h : DataW.Trod enc Tryz.prog W 0 (fun _ => true) true 27 v d p) (hw : ∀ m ∈ d.weights Tryz.prog 27,m ≤ reachBytes) :
  ∃ l,IArg W v l:=by
 obtain ⟨a0,len,cap,rfl⟩:=okWide_slice Tryz.underlying27 hv
 obtain ⟨fuel,hf⟩:=h
 exact open_intsV (by simpa [Value.cells] using hf) hw
end
end Go.Proofs.YtnicnfchkdmieaaGreatDoor
