/- Math Fnum Fkit Fints Flens Fawk -/
import Derived.Test.YtoohondkpddmcaaGreatDoorYzz
import Derived.Laws.BitsAllLaws
import Derived.Laws.BitsLemmas
import Derived.IntWalk
import Derived.Test.YtoohondkpddmcaaGreatDoorProg
import Derived.WalkKit
import Derived.WalkLawsBesides
import Derived.WalkSpells
import Derived.Lib.Hide
import Derived.Test.YtoohondkpddmcaaGreatDoorYae
import Derived.Deep.Light
namespace Go.Proofs.YtoohondkpddmcaaGreatDoor
set_option maxHeartbeats 32000000
set_option linter.unusedVariables false
set_option linter.unusedSimpArgs false
section
def num:List UInt8->Nat
 | []=>0
 | b::r=>b.toNat+256 * num r
def QaF (v:Nat):Nat->List UInt8
 | 0=>[]
 | n+1=>UInt8.ofNat (v % 256)::QaF (v / 256) n
theorem Qhq (l:List UInt8):num l<256 ^ l.length:=by
 induction l with
 | nil=>simp [num]
 | cons b r ih =>
   have:=b.toNat_lt;simp only [num,List.length_cons,Nat.pow_succ];omega
theorem Qnp (a b:List UInt8):num (a++b)=num a+256 ^ a.length * num b:=by
 induction a with
 | nil=>simp [num]
 | cons x r ih =>
   simp only [List.cons_append,num,ih,List.length_cons,Nat.pow_succ];rw [Nat.mul_add,Nat.mul_comm (256 ^ r.length) 256,Nat.mul_assoc,Nat.add_assoc]
theorem Qq0 (a:List UInt8) (b:UInt8):num (a++[b])=num a+256 ^ a.length * b.toNat:=by
 rw [Qnp];simp [num]
theorem Qbe (v n:Nat):(QaF v n).length=n:=by
 induction n generalizing v with
 | zero=>rfl
 | succ n ih=>simp [QaF,ih]
theorem Qgj (l:List UInt8):QaF (num l) l.length=l:=by
 induction l with
 | nil=>rfl
 | cons b r ih =>
   have hb:=b.toNat_lt;simp only [List.length_cons,QaF,num];have h1:(b.toNat+256 * num r) % 256=b.toNat:=by omega
   have h2:(b.toNat+256 * num r) / 256=num r:=by omega
   rw [h1,h2,ih];simp
theorem Ql0 (v n:Nat):QaF v (n+1)=QaF v n++[UInt8.ofNat (v / 256 ^ n % 256)]:=by
 induction n generalizing v with
 | zero=>simp [QaF]
 | succ n ih =>
   rw [QaF,ih (v / 256),QaF];simp only [List.cons_append,List.cons.injEq,List.append_cancel_left_eq,true_and,and_true];rw [Nat.div_div_eq_div_mul,Nat.pow_succ,Nat.mul_comm 256]
theorem Qnq (k:Nat):256 ^ k=2 ^ (8 * k):=by rw [Nat.pow_mul]
theorem Ql1 (b:UInt8) (k:Nat) (hk:k<8):b.toNat * 2 ^ (8 * k)<18446744073709551616:=by
 have h1:b.toNat * 2 ^ (8 * k)<256 * 2 ^ (8 * k):=Nat.mul_lt_mul_of_pos_right b.toNat_lt (Nat.two_pow_pos _);have h2:(256:Nat) * 2 ^ (8 * k)=2 ^ (8 * k+8):=by rw [Nat.pow_add];omega
 have h3:(2:Nat) ^ (8 * k+8)<=2 ^ 64:=Nat.pow_le_pow_right (by omega) (by omega);omega
theorem QsM (l:List UInt8) (b:UInt8) (h:l.length<8) :
  bits .or .u64 (num l:Int) (IntKind.u64.wrap (IntKind.u64.wrap (b.toNat:Int) * 2 ^ (8 * l.length)))=(num (l++[b]):Nat):=by
 have hb:=b.toNat_lt;have h0:IntKind.u64.wrap (b.toNat:Int)=b.toNat:=IntWalk.u64_in _ ⟨by omega,by omega⟩;have hlt:=Ql1 b l.length h;have hc:((b.toNat:Int) * 2 ^ (8 * l.length))=((b.toNat * 2 ^ (8 * l.length):Nat):Int):=by
  rw [Int.natCast_mul,Int.natCast_pow];rfl
 have hn:=Qhq l;rw [Qnq] at hn;have hp:(2:Nat) ^ (8 * l.length)<=2 ^ 64:=Nat.pow_le_pow_right (by omega) (by omega);have h1:IntKind.u64.wrap ((b.toNat * 2 ^ (8 * l.length):Nat):Int)=((b.toNat * 2 ^ (8 * l.length):Nat):Int):=IntWalk.u64_in _ ⟨by omega,by omega⟩;rw [h0,hc,h1,u64_or_nat _ _ (by omega) hlt,Nat.or_comm,nat_join (8 * l.length) _ _ (Nat.mul_mod_left _ _) hn,Qq0,Qnq,Nat.mul_comm];omega
theorem Qli (b:UInt8) (l:List UInt8) (h:l.length<8) :
  bits .or .u64 (IntKind.u64.wrap ((num l:Int) * 256)) (IntKind.u64.wrap (b.toNat:Int))=(num (b::l):Nat):=by
 have hb:=b.toNat_lt;have h0:IntKind.u64.wrap (b.toNat:Int)=b.toNat:=IntWalk.u64_in _ ⟨by omega,by omega⟩;have hn:=Qhq l;have hp:(256:Nat) ^ l.length<=256 ^ 7:=Nat.pow_le_pow_right (by omega) (by omega);have hc:((num l:Int) * 256)=((num l * 256:Nat):Int):=by rw [Int.natCast_mul];rfl
 have h1:IntKind.u64.wrap ((num l * 256:Nat):Int)=((num l * 256:Nat):Int):=IntWalk.u64_in _ ⟨by omega,by omega⟩;rw [h0,hc,h1,u64_or_nat _ _ (by omega) (by omega),nat_join 8 _ _ (by omega) hb,num];omega
theorem Qpr (n:Int):bits .and .i64 n 15=n % 16:=by
 have h15:(BitVec.ofInt 64 15).toNat=2 ^ 4-1:=by decide
 have key:(BitVec.ofInt 64 n &&& BitVec.ofInt 64 15).toNat=(n % ((2 ^ 64:Nat):Int)).toNat % 2 ^ 4:=by
  rw [BitVec.toNat_and,BitVec.toNat_ofInt,h15,Nat.and_two_pow_sub_one_eq_mod]
 show IntKind.i64.wrap ((BitVec.ofInt 64 n &&& BitVec.ofInt 64 15).toNat:Nat)=n % 16;rw [key,IntKind.wrap_i64];omega
theorem Qps (n:Int) (h₀:0<=n) (h₁:n<2 ^ 63):IntKind.i64.wrap n=n:=by rw [IntKind.wrap_i64];omega
theorem Qix (x y:Int) (hx:0<=x) (hx':x % 16=0) (hx'':x<9223372036854775808) (hy:0<=y) (hy':y<16):bits .or .i64 x y=x+y :=
 bits_join .i64 63 (by decide) Qps 4 x y hx (by omega) (by omega) hy (by omega) (by omega)
theorem QeK (x y:Int) (hx:0<=x) (hx':x % 16=0) (hx'':x<9223372036854775808) (hy:0<=y) (hy':y<16):bits .or .i64 y x=y+x:=by
 have hc:bits .or .i64 y x=bits .or .i64 x y:=by simp only [bits,BitVec.or_comm]
 rw [hc,Qix x y hx hx' hx'' hy hy'];omega
theorem Qpt (x:Int):bits .or .i64 64 (x % 16)=64+x % 16:=Qix _ _ (by omega) (by omega) (by omega) (by omega) (by omega)
theorem Qnr (x:Int):bits .or .i64 128 (x % 16)=128+x % 16:=Qix _ _ (by omega) (by omega) (by omega) (by omega) (by omega)
theorem Qns (x:Int):bits .or .i64 192 (x % 16)=192+x % 16:=Qix _ _ (by omega) (by omega) (by omega) (by omega) (by omega)
theorem Qi0 (c:UInt8):bits .and .u8 (c.toNat:Int) 15=(c.toNat:Int) % 16:=u8_and15 _ (by omega) (by have:=c.toNat_lt;omega)
theorem Qi1 (c:UInt8):bits .and .u8 (c.toNat:Int) 63=(c.toNat:Int) % 64:=u8_and63 _ (by omega) (by have:=c.toNat_lt;omega)
theorem Qpu (x:Nat) (h:x<256):x &&& 48=x / 16 % 4 * 16:=by
 have:∀ x:Fin 256,x.val &&& 48=x.val / 16 % 4 * 16:=by decide +kernel
 exact this ⟨x,h⟩
theorem Qi2 (c:UInt8):bits .and .u8 (c.toNat:Int) 48=(c.toNat:Int) / 16 % 4 * 16:=by
 have hc:=c.toNat_lt;rw [u8_and _ _ (by omega) (by omega) (by omega) (by omega)];rw [show (48:Int).toNat=48 from rfl,Int.toNat_natCast,Qpu _ hc];omega
end
section
open Go.RowKit
theorem QcV (w:World) (x:Int):Sem.run Tryz.prog (convert 48 9 (.slice (some ⟨w.heap.size,0,none⟩) 1 1)) (w.alloc (.cells #[.int .u8 x] 5)) = .ok (.string ⟨[UInt8.ofNat x.toNat].toArray⟩) (w.alloc (.cells #[.int .u8 x] 5)):=by
 rw [run_convert_bytes_string _ 48 9 5 _ _ _ Tryz.underlying48 Tryz.underlying5 Tryz.underlying9];rw [run_bytesToString _ _ 1 1 [x] (by simp [loadCells,go_sem])];rfl
theorem Qc6 (w:World) (x y:Int):Sem.run Tryz.prog (convert 48 9 (.slice (some ⟨w.heap.size,0,none⟩) 2 2)) (w.alloc (.cells #[.int .u8 x,.int .u8 y] 5)) = .ok (.string ⟨[UInt8.ofNat x.toNat,UInt8.ofNat y.toNat].toArray⟩) (w.alloc (.cells #[.int .u8 x,.int .u8 y] 5)):=by
 rw [run_convert_bytes_string _ 48 9 5 _ _ _ Tryz.underlying48 Tryz.underlying5 Tryz.underlying9];rw [run_bytesToString _ _ 2 2 [x,y] (by simp [loadCells,go_sem])];rfl
theorem Qpv (s:List UInt8) (k:Nat) (h:k<s.length):s.take (k+1)=s.take k++[s[k]]:=by
 rw [List.take_succ_eq_append_getElem h]
theorem QbS {a b:Value} (h:a=b):Ending.returned a = .returned b:=by rw [h]
theorem Qi3 (s:List UInt8) (w:World) (hs:s.length<=8) :
  Calls Tryz.prog 151 #[.string ⟨s.toArray⟩] w fun e w'=>e = .returned (.int .u64 (num s))/\w=w':=by
 go_enter Tryz.func151,Tryz.ntmps151;go_wp2;go_loop [3,7] (fun n i=>∃ k:Nat,k<=s.length/\i = .int .i64 k/\n = .int .u64 (num (s.take k))) (fun _ i=>s.length-(intOf i).toNat)
 case atStart=>exact ⟨0,Nat.zero_le _,rfl,rfl⟩
 case round =>
  obtain ⟨k,hk,rfl,rfl⟩:=hrel;by_cases hlt:k<s.length
  ·have HS:Hid (bits .or .u64 (num (s.take k):Int) (IntKind.u64.wrap (IntKind.u64.wrap (s[k].toNat:Int) * 2 ^ (8 * k)))=(num (s.take (k+1)):Nat)):=by
    have h:=QsM (s.take k) s[k] (by rw [List.length_take];omega);rw [List.length_take,Nat.min_eq_left (by omega)] at h;rw [Qpv s k hlt];exact h
   go_wp2;go_round
   case rel=>exact ⟨k+1,by omega,by go_num,by exact congrArg (Value.int .u64) HS.out⟩
   case measure=>simp [intOf];omega
  ·go_wp2;go_ret;have e:s.take k=s:=List.take_of_length_le (by omega);exact ⟨QbS (congrArg (fun x:List UInt8=>Value.int .u64 (num x)) e),rfl⟩
theorem Qh0 (s:List UInt8) (w:World) (hs:s.length<=8) :
  Calls Tryz.prog 210 #[.string ⟨s.toArray⟩] w fun e w'=>e = .returned (.int .u64 (num s))/\w=w':=by
 go_enter Tryz.func210,Tryz.ntmps210;go_wp2;go_loop [3,4] (fun n i=>∃ k:Nat,k<=s.length/\i = .int .i64 ((k:Int)-1)/\n = .int .u64 (num (s.drop k))) (fun _ i=>(intOf i+1).toNat)
 case atStart=>exact ⟨s.length,Nat.le_refl _,rfl,by simp [num]⟩
 case round =>
  obtain ⟨k,hk,rfl,rfl⟩:=hrel;by_cases hlt:0<k
  ·obtain ⟨j,rfl⟩:∃ j,k=j+1:=⟨k-1,by omega⟩;have hj:j<s.length:=by omega
   have HS:Hid (bits .or .u64 (IntKind.u64.wrap ((num (s.drop (j+1)):Int) * 256)) (IntKind.u64.wrap (s[j].toNat:Int))=(num (s.drop j):Nat)):=by
    have h:=Qli s[j] (s.drop (j+1)) (by simp;omega);rw [List.drop_eq_getElem_cons hj];exact h
   go_wp2;go_round
   case rel=>exact ⟨j,by omega,rfl,by exact congrArg (Value.int .u64) HS.out⟩
   case measure=>simp [intOf]
  ·obtain rfl:k=0:=by omega
   go_wp2;go_ret;exact ⟨rfl,rfl⟩
attribute [local go_sem] QcV Qc6 ByteArray.mk_append_mk
theorem Qnt (v n:Nat) (w:World) (hn:n<=8) :
  Calls Tryz.prog 132 #[.int .u64 v,.int .i64 n] w fun e w'=>e = .returned (.string ⟨(QaF v n).toArray⟩)/\Below w.heap.size w w':=by
 go_enter Tryz.func132,Tryz.ntmps132;go_wp2;go_loopw [0,5,6] (fun x s i wr=>∃ k:Nat,∃ y:Nat,∃ l:List UInt8,k<=n/\i = .int .i64 k/\x = .int .u64 y/\s = .string ⟨l.toArray⟩/\l.length=k/\l++QaF y (n-k)=QaF v n/\Below w.heap.size w wr) (fun _ _ i _=>n-(intOf i).toNat)
 case atStart=>exact ⟨0,v,[],by omega,rfl,rfl,rfl,rfl,rfl,Zb⟩
 case round =>
  obtain ⟨k,y,l,hk,rfl,rfl,rfl,hl,hr,hb⟩:=hrel;have HL:=Za hl;have HR:=Za hr;have hl':l.length<=n:=by omega
  clear hl hr;by_cases hlt:k<n
  ·have HN:Hid ((l++[UInt8.ofNat (y % 256)])++QaF (y / 256) (n-(k+1))=QaF v n):=by
    have e:n-k=(n-(k+1))+1:=by omega
    have h:=HR.out;rw [e,QaF] at h;rw [List.append_assoc];exact h
   go_wp2;go_roundw
   case rel=>exact ⟨k+1,y / 256,l++[UInt8.ofNat (y % 256)],by omega,by go_num,by go_num,rfl,by simp [HL.out],HN.out,hb.alloc (hb.size) _⟩
   case measure=>simp [intOf];omega
  ·go_wp2;go_ret;obtain rfl:k=n:=by omega
   have e:l=QaF v k:=by have:=HR.out;rw [Nat.sub_self,QaF,List.append_nil] at this;exact this
   exact ⟨QbS (congrArg (fun x:List UInt8=>Value.string ⟨x.toArray⟩) e),hb⟩
theorem Qq1:(Tryz.prog.info? 5).map (fun i=>(i.zero,i.size,i.bytes))=some (some (.int .u8 0),1,1):=by kernel_rfl
def Qdx (l:List UInt8):List Value:=l.map fun b=>.int .u8 b.toNat
theorem Qq2 (w:World) (a:Addr) (n c:Nat) (l:List UInt8) (hn:l.length=n) (h:∀ j v,(Qdx l)[j]?=some v->w.cell? (a.add j)=some v) :
  Sem.run Tryz.prog (convert 48 9 (.slice (some a) n c)) w = .ok (.string ⟨l.toArray⟩) w:=by
 rw [run_convert_bytes_string _ 48 9 5 _ _ _ Tryz.underlying48 Tryz.underlying5 Tryz.underlying9];have hl:=run_loadCells_list (P:=Tryz.prog) w a ((l.map (fun b=>(b.toNat:Int))).map (Value.int .u8)) (by
  intro j v hj;apply h;simpa [Qdx,List.map_map] using hj)
 rw [List.length_map,List.length_map,hn] at hl;rw [run_bytesToString _ _ n c _ hl];have key:∀ (l:List UInt8) (r:ByteArray),(l.map (fun b=>(b.toNat:Int))).foldl (fun r n=>r.push (UInt8.ofNat n.toNat)) r=r++⟨l.toArray⟩:=by
  intro l;induction l with
  | nil=>intro r;simp;apply ByteArray.ext;simp [ByteArray.data_append]
  | cons x l ih =>
    intro r;simp only [List.map_cons,List.foldl_cons,ih];apply ByteArray.ext;simp [ByteArray.data_append,ByteArray.data_push]
 rw [key]
 congr 2
theorem Quw (A:List Value) (k:Nat) (z u:Value) (m:Nat) (h:A.length=k):(A++List.replicate (m+1) z).set k u=(A++[u])++List.replicate m z:=by
 subst h;rw [List.set_append_right _ _ Zc,Nat.sub_self,List.replicate_succ,List.set_cons_zero,List.append_assoc];rfl
theorem Qhr (b:List UInt8) (v n:Nat) (w:World) (hn:n<=8) (hbl:b.length<=9223372036854775000) :
  Calls Tryz.prog 128 #[.string ⟨b.toArray⟩,.int .u64 v,.int .i64 n] w fun e w'=>e = .returned (.string ⟨(b++QaF v n).toArray⟩)/\Below w.heap.size w w':=by
 obtain ⟨i0,hi,hz0,hz1,hz2⟩:=info_parts Qq1;go_enter Tryz.func128,Tryz.ntmps128;go_wp2_with (at_make;refine wpList_make_full _ rfl _ _ 48 rfl w.heap.size 5 i0 (.int .u8 0) 1 Tryz.underlying48 hi hz0 hz1 .i64 .i64 _ _ n rfl rfl rfl rfl (by rw [hz2];omega) (by unfold maxLen;omega) Zc ?_;intro w1 hown hgrow);go_loopw [12] (fun i wr=>∃ k:Nat,k<=n/\i = .int .i64 k/\wr.ownsRow w.heap.size 5 1 (.slice (some ⟨w.heap.size,0,none⟩) n n) n (Qdx (QaF v k)++List.replicate (n-k) (.int .u8 0))/\Below w.heap.size w wr) (fun i _=>n-(intOf i).toNat)
 case atStart => 
  refine ⟨0,Nat.zero_le _,rfl,?_,Zb.grown hgrow Zc (fun _ h=>by cases h)⟩;have e:(madeCells (Value.int IntKind.u8 0).cells (n * 1)).toList=List.replicate n (.int .u8 0):=by
   rw [Nat.mul_one];exact toList_madeCells_one _ _
  rw [e] at hown;exact hown
 case round =>
  obtain ⟨k,hk,rfl,ho,hb⟩:=hrel;clear hown hgrow;have HO:=Za ho;by_cases hlt:k<n
  ·have hcell:wr.cell? ⟨w.heap.size,k,none⟩=some (.int .u8 0):=by
    rw [ho.cellAt k (by omega),List.getElem?_append_right (by simp [Qdx,Qbe])];simp only [Qdx,List.length_map,Qbe,Nat.sub_self];rw [show n-k=(n-k-1)+1 by omega,List.replicate_succ];rfl
   have hfz:=ho.frozenAt k;have HS:Hid (∀ u:Value,u = .int .u8 ((v:Int) / 2 ^ (8 * k) % 256)->(Qdx (QaF v k)++List.replicate (n-k) (Value.int .u8 0)).set k u=Qdx (QaF v (k+1))++List.replicate (n-(k+1)) (Value.int .u8 0)):=by
    intro u hu;rw [show n-k=(n-(k+1))+1 by omega,Quw _ k _ _ _ (by simp [Qdx,Qbe])];rw [Ql0,Qdx,Qdx,List.map_append,hu];have e:((v:Int) / 2 ^ (8 * k) % 256)=((UInt8.ofNat (v / 256 ^ k % 256)).toNat:Nat):=by
     rw [UInt8.toNat_ofNat',Nat.mod_eq_of_lt (by omega),Qnq,Int.natCast_emod,Int.natCast_ediv,Int.natCast_pow];rfl
    rw [e];rfl
   clear ho;go_wp2;go_roundw
   case rel =>
    have h1:=HO.out.stored k (Value.int IntKind.u8 ((v:Int) / 2 ^ (8 * k) % 256));rw [HS.out _ rfl] at h1;exact ⟨k+1,by omega,by go_num,h1.1,hb.setCell Zc _⟩
   case measure=>simp [intOf];omega
  ·clear ho;obtain rfl:k=n:=by omega
   have hcv:=Qq2 wr ⟨w.heap.size,0,none⟩ k k (QaF v k) (Qbe v k) (by
    intro j u hj;have hlt:j<k:=by
     have:=(List.getElem?_eq_some_iff.1 hj).1;simpa [Qdx,Qbe] using this
    have h1:=HO.out.cellAt j (by omega);rw [List.getElem?_append_left (by simpa [Qdx,Qbe] using hlt),hj] at h1;by_cases h0:j=0
    ·subst h0;simpa [Addr.add] using h1
    ·simpa [Addr.add,h0] using h1)
   have hll:(QaF v k).length<=8:=by rw [Qbe];exact hn
   go_wp2;go_ret;exact ⟨rfl,hb⟩
end
section
open Go.RowKit
theorem Qau {P:Program} {id:Nat} {Q:Exit->Act->World->Prop} {a:Act} {w:World} {l:List Oper} (hm:P.follows .mixedOrders=true) (hB:Region.lexB .any l.toArray=true)
  (h:wpQuiet P l.toArray (Grows w) (fun a'=>∀ w',Grows w w'->Q .normal a' w') l a):(Code.region id l.toArray true).wp P Q a w :=
 wp_region_quiet (C:=Grows w) hm hB (Below.drew Zb) (by simpa using h)
theorem Calls.grows_of {P:Program} {f:FuncId} {args:Array Value} {w w':World} {v:Value} (hw:Grows w w')
  (h:Calls P f args w' fun e w''=>e = .returned v/\Below w'.heap.size w' w''):Calls P f args w' fun e w''=>e = .returned v/\Grows w w'' :=
 h.mono fun _ _ ⟨he,hb⟩=>⟨he,hw.trans hb⟩
theorem Calls.grows_of_same {P:Program} {f:FuncId} {args:Array Value} {w w':World} {v:Value} (hw:Grows w w')
  (h:Calls P f args w' fun e w''=>e = .returned v/\w'=w''):Calls P f args w' fun e w''=>e = .returned v/\Grows w w'' :=
 h.mono fun _ _ ⟨he,hb⟩=>⟨he,hb▸hw⟩
end
section
open Go.RowKit
theorem QcE (l:List UInt8) (i:Nat) (h:i<(ByteArray.mk l.toArray).size):(ByteArray.mk l.toArray)[i]=l[i]'(by have:=h;simp only [ByteArray.size_mk',List.size_toArray] at this;exact this):=rfl
theorem QcF (l:List UInt8) (a b:Nat):(ByteArray.mk l.toArray).extract a b=⟨((l.drop a).take (b-a)).toArray⟩:=by
 apply ByteArray.ext;rw [ByteArray.data_extract];simp
attribute [local go_sem] QcV Qc6 ByteArray.mk_append_mk QcE QcF
def Qce:Nat:=18446744073709551615
def QaX (v:Nat):List UInt8 :=
 if v<=1 then [UInt8.ofNat v]
 else if v=Qce then [255]
 else if v<256 then 10::QaF v 1
 else if v<65536 then 11::QaF v 2
 else if v<4294967296 then 12::QaF v 4
 else 14::QaF v 8
def Qbt (r:List UInt8) (n least:Nat):Nat×Nat×Nat :=
 if r.length<n then (0,0,4) else if num (r.take n)<least\/num (r.take n)=Qce then (0,0,3) else (num (r.take n),1+n,0)
def Qba:List UInt8->Nat×Nat×Nat
 | []=>(0,0,4)
 | c::r =>
   if c.toNat<=1 then (c.toNat,1,0)
   else if c.toNat=255 then (Qce,1,0)
   else if c.toNat=10 then Qbt r 1 2
   else if c.toNat=11 then Qbt r 2 256
   else if c.toNat=12 then Qbt r 4 65536
   else if c.toNat=14 then Qbt r 8 4294967296
   else (0,0,3)
def QsN (x:Nat×Nat×Nat):Value:=.tuple #[.int .u64 x.1,.int .i64 x.2.1,.int .i64 x.2.2]
theorem Qlj {x:Nat×Nat×Nat} {a b c:Int} (h:x=(a.toNat,b.toNat,c.toNat)) (ha:0<=a) (hb:0<=b) (hc:0<=c):Ending.returned (.tuple #[.int .u64 a,.int .i64 b,.int .i64 c]) = .returned (QsN x):=by
 subst h;simp only [QsN,Int.toNat_of_nonneg ha,Int.toNat_of_nonneg hb,Int.toNat_of_nonneg hc]
set_option maxRecDepth 100000 in
theorem Qq3 (s:List UInt8) (w:World) (hs:s.length<=8) :
  Calls Tryz.prog 151 #[.string ⟨s.toArray⟩] w fun e w'=>∃ v:Int,Hid (v=(num s:Nat))/\0<=v/\e = .returned (.int .u64 v)/\w=w' :=
 (Qi3 s w hs).mono fun _ _ ⟨he,hw⟩=>⟨_,Za rfl,Int.natCast_nonneg _,he,hw⟩
theorem Qpw (s:List UInt8) (w:World) (hs:s.length<=8) :
  Calls Tryz.prog 210 #[.string ⟨s.toArray⟩] w fun e w'=>∃ v:Int,Hid (v=(num s:Nat))/\0<=v/\e = .returned (.int .u64 v)/\w=w' :=
 (Qh0 s w hs).mono fun _ _ ⟨he,hw⟩=>⟨_,Za rfl,Int.natCast_nonneg _,he,hw⟩
theorem Qhs (c:UInt8):c=0\/c=1\/c=255\/c=10\/c=11\/c=12\/c=14 \/
  (((c.toNat:Int)==0)=false/\((c.toNat:Int)==1)=false/\((c.toNat:Int)==255)=false/\((c.toNat:Int)==10)=false/\((c.toNat:Int)==11)=false/\((c.toNat:Int)==12)=false/\((c.toNat:Int)==14)=false):=by
 simp only [<- UInt8.toNat_inj,beq_eq_false_iff_ne,ne_eq,UInt8.reduceToNat];omega
theorem Qfv (c:UInt8) (r:List UInt8) (h:((c.toNat:Int)==0)=false/\((c.toNat:Int)==1)=false/\((c.toNat:Int)==255)=false/\((c.toNat:Int)==10)=false/\((c.toNat:Int)==11)=false/\((c.toNat:Int)==12)=false/\((c.toNat:Int)==14)=false):Qba (c::r)=(0,0,3):=by
 simp only [beq_eq_false_iff_ne,ne_eq] at h;rw [Qba,if_neg (by omega),if_neg (by omega),if_neg (by omega),if_neg (by omega),if_neg (by omega),if_neg (by omega)]
theorem Qh1 {r:List UInt8} {n least:Nat} (h:(r.length:Int)+1<=n):Qbt r n least=(0,0,4):=by
 rw [Qbt,if_pos (by omega)]
theorem Qpx {r:List UInt8} {n least:Nat} {v:Int} (h:¬ (r.length:Int)+1<=n) (HV:Hid (v=(num (r.take n):Nat))) (hb:v<least\/v=18446744073709551615):Qbt r n least=(0,0,3):=by
 have hV:=HV.out;have ht:Qce=18446744073709551615:=rfl;rw [Qbt,if_neg (by omega),if_pos (by omega)]
theorem Qnu {r:List UInt8} {n least:Nat} {v:Int} (h:¬ (r.length:Int)+1<=n) (HV:Hid (v=(num (r.take n):Nat))) (hb:¬ (v<least\/v=18446744073709551615)):Qbt r n least=(v.toNat,1+n,0):=by
 have hV:=HV.out;have ht:Qce=18446744073709551615:=rfl;rw [Qbt,if_neg (by omega),if_neg (by omega)];simp only [Prod.mk.injEq,and_true];omega
theorem QsO (s:List UInt8) (w:World) (hm:s.length<=9223372036854775000) :
  Calls Tryz.prog 104 #[.string ⟨s.toArray⟩] w fun e w'=>e = .returned (QsN (Qba s))/\w=w':=by
 cases s with
 | nil =>
   go_enter Tryz.func104,Tryz.ntmps104;go_wp2_with fail;go_ret3;exact ⟨rfl,rfl⟩
 | cons c r =>
   simp only [List.length_cons] at hm;rcases Qhs c with rfl|rfl|rfl|rfl|rfl|rfl|rfl|hother
   case inr.inr.inr.inr.inr.inr.inr =>
    have HO:=Za (Qfv c r hother);obtain ⟨h1,h2,h3,h4,h5,h6,h7⟩:=hother;go_enter Tryz.func104,Tryz.ntmps104;go_wp2_with fail;go_ret3;exact ⟨by rw [HO.out];rfl,rfl⟩
   case inl|inr.inl|inr.inr.inl =>
    go_enter Tryz.func104,Tryz.ntmps104;go_wp2_with fail;go_ret3;exact ⟨rfl,rfl⟩
   all_goals
    go_enter Tryz.func104,Tryz.ntmps104;go_wp2_with (go_at_call 151;refine (Qq3 _ _ (by simp;omega)).mono ?_;rintro e w' ⟨v,HV,hv0,rfl,rfl⟩)
    all_goals
     go_ret3;go_light;refine ⟨Qlj (Eq.trans (b:=Qbt r _ _) rfl ?_) ?_ ?_ ?_,rfl⟩
     all_goals
      (try simp only [beq_iff_eq,beq_eq_false_iff_ne,ne_eq] at *)
      first
       | omega
       | exact Qh1 (by omega)
       | exact Qpx (by omega) HV (by omega)
       | exact Qnu (by omega) HV (by omega)
theorem QcW (b:List UInt8) (x n:Int) (w:World) (hx:0<=x) (hn0:0<=n) (hn:n<=8) (hbl:b.length<=9223372036854775000) :
  Calls Tryz.prog 128 #[.string ⟨b.toArray⟩,.int .u64 x,.int .i64 n] w fun e w'=>e = .returned (.string ⟨(b++QaF x.toNat n.toNat).toArray⟩)/\Below w.heap.size w w':=by
 obtain ⟨v,rfl⟩:=Int.eq_ofNat_of_zero_le hx;obtain ⟨m,rfl⟩:=Int.eq_ofNat_of_zero_le hn0;exact Qhr b v m w (by omega) hbl
theorem Qct (x n:Int) (w:World) (hx:0<=x) (hn0:0<=n) (hn:n<=8) :
  Calls Tryz.prog 132 #[.int .u64 x,.int .i64 n] w fun e w'=>∃ l:List UInt8,Hid (l=QaF x.toNat n.toNat)/\l.length<=8/\e = .returned (.string ⟨l.toArray⟩)/\Below w.heap.size w w':=by
 obtain ⟨v,rfl⟩:=Int.eq_ofNat_of_zero_le hx;obtain ⟨m,rfl⟩:=Int.eq_ofNat_of_zero_le hn0;exact (Qnt v m w (by omega)).mono fun _ _ ⟨he,hw⟩=>⟨_,Za rfl,by rw [Qbe];omega,he,hw⟩
theorem Qda {x:Int} {l:List UInt8} (h:l=QaX x.toNat) (b:List UInt8):Ending.returned (.string ⟨(b++l).toArray⟩) = .returned (.string ⟨(b++QaX x.toNat).toArray⟩):=by rw [h]
theorem Qvo {x:Int} (h:x<=1):[UInt8.ofNat x.toNat]=QaX x.toNat:=by
 rw [QaX,if_pos (by omega)]
theorem Qq4 {x:Int} (h:x=0):[0]=QaX x.toNat:=by subst h;rfl
theorem QsP {x:Int} (h:x=1):[1]=QaX x.toNat:=by subst h;rfl
theorem Qor {x:Int} (h:x=18446744073709551615):[255]=QaX x.toNat:=by
 have ht:Qce=18446744073709551615:=rfl;rw [QaX,if_neg (by omega),if_pos (by omega)]
theorem Qt6 {x:Int} (h1:1<x) (h2:x<256):10::QaF x.toNat 1=QaX x.toNat:=by
 have ht:Qce=18446744073709551615:=rfl;rw [QaX,if_neg (by omega),if_neg (by omega),if_pos (by omega)]
theorem Qt7 {x:Int} (h1:256<=x) (h2:x<65536):11::QaF x.toNat 2=QaX x.toNat:=by
 have ht:Qce=18446744073709551615:=rfl;rw [QaX,if_neg (by omega),if_neg (by omega),if_neg (by omega),if_pos (by omega)]
theorem Qt8 {x:Int} (h1:65536<=x) (h2:x<4294967296):12::QaF x.toNat 4=QaX x.toNat:=by
 have ht:Qce=18446744073709551615:=rfl;rw [QaX,if_neg (by omega),if_neg (by omega),if_neg (by omega),if_neg (by omega),if_pos (by omega)]
theorem Qt9 {x:Int} (h1:4294967296<=x) (h2:¬ x=18446744073709551615):14::QaF x.toNat 8=QaX x.toNat:=by
 have ht:Qce=18446744073709551615:=rfl;rw [QaX,if_neg (by omega),if_neg (by omega),if_neg (by omega),if_neg (by omega),if_neg (by omega)]
theorem Qka (b:List UInt8) (x:Int) (w:World) (hx:0<=x) (hbl:b.length<=9223372036854770000) :
  Calls Tryz.prog 82 #[.string ⟨b.toArray⟩,.int .u64 x] w fun e w'=>e = .returned (.string ⟨(b++QaX x.toNat).toArray⟩)/\Below w.heap.size w w':=by
 go_enter Tryz.func82,Tryz.ntmps82;go_wp2_with (go_at_call 128;refine (QcW _ _ _ _ (by omega) (by omega) (by omega) (by simp;omega)).mono ?_;rintro e w' ⟨rfl,hb⟩)
 all_goals
  go_ret;go_light;(try simp only [beq_iff_eq,beq_eq_false_iff_ne,ne_eq] at *)
 ·exact ⟨Qda (Qvo (by omega)) b,Zb.alloc Zc _⟩
 ·exact ⟨Qda (Qor (by omega)) b,Zb⟩
 ·exact ⟨Qda (Qt6 (by omega) (by omega)) b,hb⟩
 ·exact ⟨Qda (Qt7 (by omega) (by omega)) b,hb⟩
 ·exact ⟨Qda (Qt8 (by omega) (by omega)) b,hb⟩
 ·exact ⟨Qda (Qt9 (by omega) (by omega)) b,hb⟩
theorem Qi4 (x:Int) (w:World) (hx:0<=x) :
  Calls Tryz.prog 89 #[.int .u64 x] w fun e w'=>e = .returned (.string ⟨(QaX x.toNat).toArray⟩)/\Below w.heap.size w w':=by
 go_enter Tryz.func89,Tryz.ntmps89;go_wp2_with (go_at_call 132;refine (Qct _ _ _ (by omega) (by omega) (by omega)).mono ?_;rintro e w' ⟨l,HL,hl,rfl,hb⟩)
 all_goals
  go_ret;go_light;(try simp only [beq_iff_eq,beq_eq_false_iff_ne,ne_eq] at *);(try have e:=HL.out;subst e)
 ·exact ⟨Qda (Qq4 (by omega)) [],Zb⟩
 ·exact ⟨Qda (QsP (by omega)) [],Zb⟩
 ·exact ⟨Qda (Qor (by omega)) [],Zb⟩
 ·exact ⟨Qda (Qt6 (by omega) (by omega)) [],hb⟩
 ·exact ⟨Qda (Qt7 (by omega) (by omega)) [],hb⟩
 ·exact ⟨Qda (Qt8 (by omega) (by omega)) [],hb⟩
 ·exact ⟨Qda (Qt9 (by omega) (by omega)) [],hb⟩
theorem Qgk (v:Nat):(QaX v).length<=9:=by
 unfold QaX
 repeat' split
 all_goals simp [Qbe]
theorem Qux:IntKind.i8.wrap 255 = -1:=by decide
theorem Quy:IntKind.u64.wrap (-1)=18446744073709551615:=by decide
attribute [local go_sem] Qux Quy
def Form (c:UInt8) (n least:Nat):Prop:=(c=10/\n=1/\least=2)\/(c=11/\n=2/\least=256)\/(c=12/\n=4/\least=65536)\/(c=14/\n=8/\least=4294967296)
theorem Form.one:Form 10 1 2:=.inl ⟨rfl,rfl,rfl⟩
theorem Form.two:Form 11 2 256:=.inr (.inl ⟨rfl,rfl,rfl⟩)
theorem Form.four:Form 12 4 65536:=.inr (.inr (.inl ⟨rfl,rfl,rfl⟩))
theorem Form.eight:Form 14 8 4294967296:=.inr (.inr (.inr ⟨rfl,rfl,rfl⟩))
theorem QgW {c:UInt8} {n least:Nat} (hf:Form c n least) (l:List UInt8) (hl:l.length=n) (h:¬ (num l<least\/num l=Qce)):QaX (num l)=c::l:=by
 have hlt:=Qhq l;have hb:=Qgj l;rw [hl] at hlt hb;have ht:Qce=18446744073709551615:=rfl;unfold QaX;rcases hf with ⟨rfl,rfl,rfl⟩|⟨rfl,rfl,rfl⟩|⟨rfl,rfl,rfl⟩|⟨rfl,rfl,rfl⟩
 ·rw [if_neg (by omega),if_neg (by omega),if_pos (by omega),hb]
 ·rw [if_neg (by omega),if_neg (by omega),if_neg (by omega),if_pos (by omega),hb]
 ·rw [if_neg (by omega),if_neg (by omega),if_neg (by omega),if_neg (by omega),if_pos (by omega),hb]
 ·rw [if_neg (by omega),if_neg (by omega),if_neg (by omega),if_neg (by omega),if_neg (by omega),hb]
theorem Ql2 {c:UInt8} {n least:Nat} (hf:Form c n least) (l:List UInt8) (h:num l<least\/num l=Qce):QaX (num l)≠c::l:=by
 have ht:Qce=18446744073709551615:=rfl;intro he;have hd:(QaX (num l)).head?=some c:=by rw [he];rfl
 have hk:(QaX (num l)).length=l.length+1:=by rw [he];rfl
 clear he;revert hd hk;unfold QaX;rcases hf with ⟨rfl,rfl,rfl⟩|⟨rfl,rfl,rfl⟩|⟨rfl,rfl,rfl⟩|⟨rfl,rfl,rfl⟩<;>(repeat' split)<;>intro hd hk<;>first
  | omega
  | (simp at hd;done)
  | (simp at hk;done)
  | (rename_i h1;simp at hk;subst hk;simp [num] at h1;done)
  | (simp at hd;exfalso;simp only [<- UInt8.toNat_inj,UInt8.toNat_ofNat',UInt8.reduceToNat] at hd;omega)
theorem Qq5 {c:UInt8} {n least:Nat} (hf:Form c n least) (r:List UInt8) (v:Int) (HV:Hid (v=(num (r.take n):Nat))) (hr:¬ (r.length:Int)+1<=n) (b:Bool) (hb:(!QaX v.toNat==c::r.take n)=b) :
  Qbt r n least=if b then (0,0,3) else (v.toNat,1+n,0):=by
 have hV:=HV.out;have ht:Qce=18446744073709551615:=rfl;rw [hV,Int.toNat_natCast] at hb;rw [Qbt,if_neg (by omega)];by_cases h:num (r.take n)<least\/num (r.take n)=Qce
 ·have:=Ql2 hf (r.take n) h;have hb':b=true:=by rw [<- hb];simpa using this
  rw [if_pos h,if_pos hb']
 ·have:=QgW hf (r.take n) (by rw [List.length_take];omega) h;have hb':b=false:=by rw [<- hb];simpa using this
  rw [if_neg h,if_neg (by simp [hb']),hV,Int.toNat_natCast]
theorem Ql3 (s:List UInt8) (w:World) (hm:s.length<=9223372036854775000) :
  Calls Tryz.prog 159 #[.string ⟨s.toArray⟩] w fun e w'=>e = .returned (QsN (Qba s))/\Below w.heap.size w w':=by
 cases s with
 | nil =>
   go_enter Tryz.func159,Tryz.ntmps159;go_wp2_with fail;go_ret3;exact ⟨rfl,Zb⟩
 | cons c r =>
   simp only [List.length_cons] at hm;rcases Qhs c with rfl|rfl|rfl|rfl|rfl|rfl|rfl|hother
   case inr.inr.inr.inr.inr.inr.inr =>
    have HO:=Za (Qfv c r hother);obtain ⟨h1,h2,h3,h4,h5,h6,h7⟩:=hother;go_enter Tryz.func159,Tryz.ntmps159;go_wp2_with fail;go_ret3;exact ⟨by rw [HO.out];rfl,Zb⟩
   case inl|inr.inl|inr.inr.inl =>
    go_enter Tryz.func159,Tryz.ntmps159;go_wp2_with fail;go_ret3;exact ⟨rfl,Zb⟩
   all_goals
    have hel:∀ x,(QaX x).length<=9:=Qgk;go_enter Tryz.func159,Tryz.ntmps159;go_wp2_with (go_at_call 210;refine (Qpw _ _ (by simp;omega)).mono ?_;rintro e w' ⟨v,HV,hv0,rfl,rfl⟩)
    ·go_ret3;go_light;exact ⟨Qlj (Eq.trans (b:=Qbt r _ _) rfl (Qh1 (by omega))) (by omega) (by omega) (by omega),Zb⟩
    ·refine Qau (by kernel_rfl) (by kernel_rfl) ?_
     repeat (go_big_quiet_step ((intro hb;go_at_call 89;exact Calls.grows_of hb (Qi4 _ _ (by omega)))))
     refine wpQuiet_nil ?_;intro w1 hg;clear hel;go_wp2
     all_goals
      go_ret3;go_light;exact ⟨Qlj (Eq.trans (b:=Qbt r _ _) rfl (Eq.trans (Qq5 (by first|exact Form.one|exact Form.two|exact Form.four|exact Form.eight) r v HV (by omega) _ ‹_›) rfl)) (by omega) (by omega) (by omega),hg⟩
end
section
open Go.RowKit
attribute [local go_sem] QcV Qc6 ByteArray.mk_append_mk QcE QcF Qpr Qpt Qnr Qns Qi0 Qi1 Qi2
def QcX (t k:Nat):List UInt8:=UInt8.ofNat ((k-1) * 64+t % 16)::QaF (t / 16) (k-1)
def Qa3 (n:Int):List UInt8 :=
 if n<0\/268435456<=n then []
 else if n<63 then [UInt8.ofNat (n+1).toNat]
 else if n<4094 then QcX (n+2).toNat 2
 else if n<1048573 then QcX (n+3).toNat 3
 else if n<268435452 then QcX (n+4).toNat 4
 else []
theorem Qos (w:World):Calls Tryz.prog 131 #[.int .i64 1] w fun e w'=>e = .returned (.int .i64 64)/\w=w':=by
 go_enter Tryz.func131,Tryz.ntmps131;go_wp2;go_ret;exact ⟨rfl,rfl⟩
theorem Qot (w:World):Calls Tryz.prog 131 #[.int .i64 2] w fun e w'=>e = .returned (.int .i64 4096)/\w=w':=by
 go_enter Tryz.func131,Tryz.ntmps131;go_wp2;go_ret;exact ⟨rfl,rfl⟩
theorem Qou (w:World):Calls Tryz.prog 131 #[.int .i64 3] w fun e w'=>e = .returned (.int .i64 1048576)/\w=w':=by
 go_enter Tryz.func131,Tryz.ntmps131;go_wp2;go_ret;exact ⟨rfl,rfl⟩
theorem Qlk (w:World):Calls Tryz.prog 131 #[.int .i64 4] w fun e w'=>e = .returned (.int .i64 268435456)/\w=w':=by
 go_enter Tryz.func131,Tryz.ntmps131;go_wp2;go_ret;exact ⟨rfl,rfl⟩
theorem Qua {n:Int} (h0:0<=n) (h:n<63):[UInt8.ofNat (n+1).toNat]=Qa3 n:=by
 rw [Qa3,if_neg (by omega),if_pos (by omega)]
theorem Qub {n:Int} (h0:63<=n) (h:n<4094):UInt8.ofNat (64+(n+2) % 16).toNat::QaF ((n+2) / 16).toNat (Int.toNat 1)=Qa3 n:=by
 rw [Qa3,if_neg (by omega),if_neg (by omega),if_pos (by omega),QcX]
 congr 2<;>omega
theorem Quc {n:Int} (h0:4094<=n) (h:n<1048573):UInt8.ofNat (128+(n+3) % 16).toNat::QaF ((n+3) / 16).toNat (Int.toNat 2)=Qa3 n:=by
 rw [Qa3,if_neg (by omega),if_neg (by omega),if_neg (by omega),if_pos (by omega),QcX]
 congr 2<;>omega
theorem Qud {n:Int} (h0:1048573<=n) (h:n<268435452):UInt8.ofNat (192+(n+4) % 16).toNat::QaF ((n+4) / 16).toNat (Int.toNat 3)=Qa3 n:=by
 rw [Qa3,if_neg (by omega),if_neg (by omega),if_neg (by omega),if_neg (by omega),if_pos (by omega),QcX]
 congr 2<;>omega
theorem Qov {n:Int} (h0:268435452<=n):[]=Qa3 n:=by
 rw [Qa3];by_cases h:n<0\/268435456<=n
 ·rw [if_pos h]
 ·rw [if_neg h,if_neg (by omega),if_neg (by omega),if_neg (by omega),if_neg (by omega)]
theorem Qow {n:Int} (h0:n<0):[]=Qa3 n:=by
 rw [Qa3,if_pos (by omega)]
theorem QfP {b l:List UInt8} (h:[]=l):Value.string ⟨b.toArray⟩ = .string ⟨(b++l).toArray⟩:=by rw [<- h,List.append_nil]
theorem Qht (b:List UInt8) (n:Int) (w:World) (hbl:b.length<=9223372036854770000) (hlo : -9223372036854775808<=n) (hhi:n<=9223372036854775807) :
  Calls Tryz.prog 86 #[.string ⟨b.toArray⟩,.int .i64 n] w fun e w'=>e = .returned (.string ⟨(b++Qa3 n).toArray⟩)/\Below w.heap.size w w':=by
 by_cases h0:n<0
 ·go_enter Tryz.func86,Tryz.ntmps86;go_wp2_with fail;go_ret;go_light;exact ⟨QbS (QfP (Qow h0)),Zb⟩
 ·by_cases h1:268435456<=n
  ·go_enter Tryz.func86,Tryz.ntmps86;go_wp2_with (go_at_call 131;refine (Qlk _).mono ?_;rintro e w' ⟨rfl,rfl⟩);go_ret;go_light;exact ⟨QbS (QfP (Qov (by omega))),Zb⟩
  ·go_enter Tryz.func86,Tryz.ntmps86;go_wp2_with (go_at_call 131;refine (Qlk _).mono ?_;rintro e w' ⟨rfl,rfl⟩);go_loopw [5,6,0] (fun i _t bb wr=>∃ k:Nat,1<=k/\k<=5/\i = .int .i64 k/\bb = .string ⟨b.toArray⟩/\w=wr/\(1<k->63<=n)/\(2<k->4094<=n)/\(3<k->1048573<=n)/\(4<k->268435452<=n)) (fun i _ _ _=>5-(intOf i).toNat)
   case atStart=>exact ⟨1,by omega,by omega,rfl,rfl,rfl,by omega,by omega,by omega,by omega⟩
   case round =>
    obtain ⟨k,hk1,hk5,rfl,rfl,rfl,hn1,hn2,hn3,hn4⟩:=hrel;obtain rfl|rfl|rfl|rfl|rfl:k=1\/k=2\/k=3\/k=4\/k=5:=by omega
    ·clear hn1 hn2 hn3 hn4;go_wp2_with (go_at_call 131;refine (Qos _).mono ?_;rintro e w' ⟨rfl,rfl⟩)
     ·go_roundw
      case rel=>exact ⟨2,by omega,by omega,rfl,rfl,trivial,by omega,by omega,by omega,by omega⟩
      case measure=>decide
     ·go_ret;go_light;exact ⟨QbS (congrArg (fun l:List UInt8=>Value.string ⟨(b++l).toArray⟩) (Qua (by omega) (by omega))),Zb.alloc Zc _⟩
    ·have hn:=hn1 (by omega);clear hn1 hn2 hn3 hn4;go_wp2_with (first|(go_at_call 131;refine (Qot _).mono ?_;rintro e w' ⟨rfl,rfl⟩)|(go_at_call 128;refine (QcW _ _ _ _ (by omega) (by omega) (by omega) (by simp;omega)).mono ?_;rintro e w' ⟨rfl,hb⟩))
     ·go_roundw
      case rel=>exact ⟨3,by omega,by omega,rfl,rfl,trivial,by omega,by omega,by omega,by omega⟩
      case measure=>decide
     ·go_ret;go_light;exact ⟨QbS (congrArg (fun l:List UInt8=>Value.string ⟨(b++l).toArray⟩) (Qub (by omega) (by omega))),(Below.trans (Zb.alloc Zc _) (hb.mono (by simp)))⟩
    ·have hn:=hn2 (by omega);clear hn1 hn2 hn3 hn4;go_wp2_with (first|(go_at_call 131;refine (Qou _).mono ?_;rintro e w' ⟨rfl,rfl⟩)|(go_at_call 128;refine (QcW _ _ _ _ (by omega) (by omega) (by omega) (by simp;omega)).mono ?_;rintro e w' ⟨rfl,hb⟩))
     ·go_roundw
      case rel=>exact ⟨4,by omega,by omega,rfl,rfl,trivial,by omega,by omega,by omega,by omega⟩
      case measure=>decide
     ·go_ret;go_light;exact ⟨QbS (congrArg (fun l:List UInt8=>Value.string ⟨(b++l).toArray⟩) (Quc (by omega) (by omega))),(Below.trans (Zb.alloc Zc _) (hb.mono (by simp)))⟩
    ·have hn:=hn3 (by omega);clear hn1 hn2 hn3 hn4;go_wp2_with (first|(go_at_call 131;refine (Qlk _).mono ?_;rintro e w' ⟨rfl,rfl⟩)|(go_at_call 128;refine (QcW _ _ _ _ (by omega) (by omega) (by omega) (by simp;omega)).mono ?_;rintro e w' ⟨rfl,hb⟩))
     ·go_roundw
      case rel=>exact ⟨5,by omega,by omega,rfl,rfl,trivial,by omega,by omega,by omega,by omega⟩
      case measure=>decide
     ·go_ret;go_light;exact ⟨QbS (congrArg (fun l:List UInt8=>Value.string ⟨(b++l).toArray⟩) (Qud (by omega) (by omega))),(Below.trans (Zb.alloc Zc _) (hb.mono (by simp)))⟩
    ·have hn:=hn4 (by omega);clear hn1 hn2 hn3 hn4;go_wp2_with fail;go_ret;go_light;exact ⟨QbS (QfP (Qov (by omega))),Zb⟩
theorem Qd0 (v:Nat):QaF v 1=[UInt8.ofNat v]:=by
 simp only [QaF,List.cons.injEq,and_true];apply UInt8.toNat_inj.1;simp
theorem Quz {n:Int} {l:List UInt8} (HL:Hid (l=QaF (n+1).toNat (Int.toNat 1))) (h0:0<=n) (h:n<63):l=Qa3 n:=by
 rw [HL.out,show Int.toNat 1=1 from rfl,Qd0];exact Qua h0 h
theorem QuA {n:Int} {l m:List UInt8} (HL:Hid (l=QaF (64+(n+2) % 16).toNat (Int.toNat 1))) (HM:Hid (m=QaF ((n+2) / 16).toNat (Int.toNat 1))) (h0:63<=n) (h:n<4094):l++m=Qa3 n:=by
 rw [HL.out,HM.out,show Int.toNat 1=1 from rfl,Qd0];exact Qub h0 h
theorem QuB {n:Int} {l m:List UInt8} (HL:Hid (l=QaF (128+(n+3) % 16).toNat (Int.toNat 1))) (HM:Hid (m=QaF ((n+3) / 16).toNat (Int.toNat 2))) (h0:4094<=n) (h:n<1048573):l++m=Qa3 n:=by
 rw [HL.out,HM.out,show Int.toNat 1=1 from rfl,Qd0];exact Quc h0 h
theorem QuC {n:Int} {l m:List UInt8} (HL:Hid (l=QaF (192+(n+4) % 16).toNat (Int.toNat 1))) (HM:Hid (m=QaF ((n+4) / 16).toNat (Int.toNat 3))) (h0:1048573<=n) (h:n<268435452):l++m=Qa3 n:=by
 rw [HL.out,HM.out,show Int.toNat 1=1 from rfl,Qd0];exact Qud h0 h
theorem QbF (n:Int) (w:World) (hlo : -9223372036854775808<=n) (hhi:n<=9223372036854775807) :
  Calls Tryz.prog 93 #[.int .i64 n] w fun e w'=>e = .returned (.string ⟨(Qa3 n).toArray⟩)/\Below w.heap.size w w':=by
 by_cases h0:n<0
 ·go_enter Tryz.func93,Tryz.ntmps93;go_wp2_with fail;go_loopw [3] (fun i wr=>i = .int .i64 1/\w=wr) (fun _ _=>0)
  case atStart=>exact ⟨rfl,rfl⟩
  case round =>
   obtain ⟨rfl,rfl⟩:=hrel;go_wp2_with fail;go_ret;go_light;exact ⟨QbS (QfP (b:=[]) (Qow h0)),Zb⟩
 ·by_cases h1:268435456<=n
  ·go_enter Tryz.func93,Tryz.ntmps93;go_wp2_with fail;go_loopw [3] (fun i wr=>i = .int .i64 1/\w=wr) (fun _ _=>0)
   case atStart=>exact ⟨rfl,rfl⟩
   case round =>
    obtain ⟨rfl,rfl⟩:=hrel;go_wp2_with fail;go_ret;go_light;exact ⟨QbS (QfP (b:=[]) (Qov (by omega))),Zb⟩
  ·go_enter Tryz.func93,Tryz.ntmps93;go_wp2_with fail;go_loopw [3,4] (fun i _t wr=>∃ k:Nat,1<=k/\k<=5/\i = .int .i64 k/\w=wr/\(1<k->63<=n)/\(2<k->4094<=n)/\(3<k->1048573<=n)/\(4<k->268435452<=n)) (fun i _ _=>5-(intOf i).toNat)
   case atStart=>exact ⟨1,by omega,by omega,rfl,rfl,by omega,by omega,by omega,by omega⟩
   case round =>
    obtain ⟨k,hk1,hk5,rfl,rfl,hn1,hn2,hn3,hn4⟩:=hrel;obtain rfl|rfl|rfl|rfl|rfl:k=1\/k=2\/k=3\/k=4\/k=5:=by omega
    ·clear hn1 hn2 hn3 hn4;go_wp2_with fail
     ·refine (Qct _ _ _ (by omega) (by omega) (by omega)).mono ?_;rintro e w1 ⟨l,HL,hl,rfl,hb⟩;go_wp2_with fail;go_ret;go_light;exact ⟨QbS (congrArg (fun l:List UInt8=>Value.string ⟨l.toArray⟩) (Quz HL (by omega) (by omega))),hb⟩
     ·go_roundw
      case rel=>exact ⟨2,by omega,by omega,rfl,trivial,by omega,by omega,by omega,by omega⟩
      case measure=>decide
    ·have hn:=hn1 (by omega);clear hn1 hn2 hn3 hn4;go_wp2_with fail
     ·refine (Qct _ _ _ (by omega) (by omega) (by omega)).mono ?_;rintro e w1 ⟨l,HL,hl,rfl,hb⟩;go_wp2_with fail;refine (Qct _ _ _ (by omega) (by omega) (by omega)).mono ?_;rintro e w2 ⟨m,HM,hm,rfl,hc⟩;go_wp2_with fail;go_ret;go_light;exact ⟨QbS (congrArg (fun l:List UInt8=>Value.string ⟨l.toArray⟩) (QuA HL HM (by omega) (by omega))),hb.trans (hc.mono hb.size)⟩
     ·go_roundw
      case rel=>exact ⟨3,by omega,by omega,rfl,trivial,by omega,by omega,by omega,by omega⟩
      case measure=>decide
    ·have hn:=hn2 (by omega);clear hn1 hn2 hn3 hn4;go_wp2_with fail
     ·refine (Qct _ _ _ (by omega) (by omega) (by omega)).mono ?_;rintro e w1 ⟨l,HL,hl,rfl,hb⟩;go_wp2_with fail;refine (Qct _ _ _ (by omega) (by omega) (by omega)).mono ?_;rintro e w2 ⟨m,HM,hm,rfl,hc⟩;go_wp2_with fail;go_ret;go_light;exact ⟨QbS (congrArg (fun l:List UInt8=>Value.string ⟨l.toArray⟩) (QuB HL HM (by omega) (by omega))),hb.trans (hc.mono hb.size)⟩
     ·go_roundw
      case rel=>exact ⟨4,by omega,by omega,rfl,trivial,by omega,by omega,by omega,by omega⟩
      case measure=>decide
    ·have hn:=hn3 (by omega);clear hn1 hn2 hn3 hn4;go_wp2_with fail
     ·refine (Qct _ _ _ (by omega) (by omega) (by omega)).mono ?_;rintro e w1 ⟨l,HL,hl,rfl,hb⟩;go_wp2_with fail;refine (Qct _ _ _ (by omega) (by omega) (by omega)).mono ?_;rintro e w2 ⟨m,HM,hm,rfl,hc⟩;go_wp2_with fail;go_ret;go_light;exact ⟨QbS (congrArg (fun l:List UInt8=>Value.string ⟨l.toArray⟩) (QuC HL HM (by omega) (by omega))),hb.trans (hc.mono hb.size)⟩
     ·go_roundw
      case rel=>exact ⟨5,by omega,by omega,rfl,trivial,by omega,by omega,by omega,by omega⟩
      case measure=>decide
    ·have hn:=hn4 (by omega);clear hn1 hn2 hn3 hn4;go_wp2_with fail;go_ret;go_light;exact ⟨QbS (QfP (b:=[]) (Qov (by omega))),Zb⟩
end
section
open Go.RowKit
attribute [local go_sem] QcV Qc6 ByteArray.mk_append_mk QcE QcF
end
end Go.Proofs.YtoohondkpddmcaaGreatDoor
