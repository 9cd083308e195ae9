/- Bld Math Fnum Fkit Fints Flens Fawk Fstrs -/
import Derived.Test.YtoohondkpddmcaaGreatDoorUzz
import Derived.Test.YtoohondkpddmcaaGreatDoorUaa
import Derived.Test.YtoohondkpddmcaaGreatDoorUab
import Derived.Laws.BitsAllLaws
import Derived.Laws.BitsLemmas
import Derived.IntWalk
import Derived.Test.YtoohondkpddmcaaGreatDoorProg
import Derived.WalkKit
import Derived.WalkLawsBesides
import Derived.WalkSpells
import Derived.Lib.Hide
import Derived.Test.YtoohondkpddmcaaGreatDoorUae
import Derived.Deep.Light
namespace Go.Proofs.YtoohondkpddmcaaGreatDoor
set_option maxHeartbeats 32000000
set_option linter.unusedVariables false
set_option linter.unusedSimpArgs false
section
open Go.RowKit
def Bld (w:World) (B b:Nat) (l:List UInt8):Prop:=Lib.IsBuilder 71 5 B b (Lib.byteCells l) w/\B<=w.heap.size
theorem Bld.fresh (w:World):Bld (w.alloc (.cells #[.pointer none,.slice none 0 0] 71)) w.heap.size w.heap.size []:=⟨Lib.fresh_isBuilder _ _ _,by simp⟩
theorem QsI {T e B b:Nat} {p:Value} {bs:List Value} {w w':World} (h:Lib.BuilderAt T e B b p bs w) (hb:Below w.heap.size w w'):Lib.BuilderAt T e B b p bs w':=by
 obtain ⟨h1,v,h2,h3,h4⟩:=h;exact ⟨h1,v,Qab h2 hb,QbY h3 hb,h4⟩
theorem Bld.below {w w':World} {B b:Nat} {l:List UInt8} (h:Bld w B b l) (hb:Below w.heap.size w w'):Bld w' B b l:=by
 obtain ⟨h1,h2⟩:=h;exact ⟨h1.elim (fun h=>.inl (QsI h hb)) (fun h=>.inr (QsI h hb)),Nat.le_trans h2 hb.size⟩
theorem Qj2 (B b:Nat) (l s:List UInt8) (w:World) (h:Bld w B b l) (hlen:l.length+s.length<=140737488355328) :
  Calls Tryz.prog 77 #[.pointer (some ⟨b,0,none⟩),.string ⟨s.toArray⟩] w fun e w'=>e = .returned (.tuple #[.int .i64 s.length,.nilIface])/\Bld w' B b (l++s)/\Below B w w' :=
 (Tryz.Builder_WriteString B b (Lib.byteCells l) ⟨s.toArray⟩ w h.1 (by rw [Lib.byteCells_length,ByteArray.size_mk',List.size_toArray];exact hlen) h.2).mono fun e w' ⟨he,hb,hw⟩=>⟨by rw [he,ByteArray.size_mk',List.size_toArray],⟨.inr (by rw [Lib.byteCells_append];exact hb),Nat.le_trans h.2 hw.size⟩,hw⟩
theorem QsJ (B b:Nat) (l:List UInt8) (c:UInt8) (w:World) (h:Bld w B b l) (hlen:l.length+1<=140737488355328) :
  Calls Tryz.prog 37 #[.pointer (some ⟨b,0,none⟩),.int .u8 c.toNat] w fun e w'=>e = .returned .nilIface/\Bld w' B b (l++[c])/\Below B w w' :=
 (Tryz.Builder_WriteByte B b (Lib.byteCells l) c.toNat w h.1 (by rw [Lib.byteCells_length];exact hlen) h.2).mono fun e w' ⟨he,hb,hw⟩=>⟨he,⟨.inr (by rw [Lib.byteCells_append];exact hb),Nat.le_trans h.2 hw.size⟩,hw⟩
theorem Qpj (B b:Nat) (l:List UInt8) (w:World) (h:Bld w B b l) :
  Calls Tryz.prog 39 #[.pointer (some ⟨b,0,none⟩)] w fun e w'=>e = .returned (.string ⟨l.toArray⟩)/\Below B w w' :=
 Tryz.Builder_String_any B b l w h.1 h.2
theorem Qkr (c:UInt8):∀ n,Lib.repeatL [c] n=List.replicate n c
 | 0=>rfl
 | n+1=>by rw [Lib.repeatL,Qkr c n];rfl
theorem Qks (c:UInt8) (n:Nat) (w:World) (hn:n<=140737488355328) :
  Calls Tryz.prog 188 #[.string ⟨#[c]⟩,.int .i64 n] w fun e w'=>∃ s:List UInt8,Hid (s=List.replicate n c)/\s.length=n/\e = .returned (.string ⟨s.toArray⟩)/\Below w.heap.size w w' :=
 (Tryz.strings_Repeat ⟨#[c]⟩ n w (by omega) (by rw [ByteArray.size_mk'];simpa using hn)).mono fun e w' ⟨he,hw⟩=>⟨List.replicate n c,Za rfl,List.length_replicate ..,by rw [he,<- Qkr],hw⟩
end
section
def num:List UInt8->Nat
 | []=>0
 | b::r=>b.toNat+256 * num r
def Qaz (v:Nat):Nat->List UInt8
 | 0=>[]
 | n+1=>UInt8.ofNat (v % 256)::Qaz (v / 256) n
theorem Qm6 (l:List UInt8):num l<256 ^ l.length:=by
 induction l with
 | nil=>simp [num]
 | cons b r ih =>
   have:=b.toNat_lt;simp only [num,List.length_cons,Nat.pow_succ];omega
theorem Qpk (a b:List UInt8):num (a++b)=num a+256 ^ a.length * num b:=by
 induction a with
 | nil=>simp [num]
 | cons x r ih =>
   simp only [List.cons_append,num,ih,List.length_cons,Nat.pow_succ];rw [Nat.mul_add,Nat.mul_comm (256 ^ r.length) 256,Nat.mul_assoc,Nat.add_assoc]
theorem QsK (a:List UInt8) (b:UInt8):num (a++[b])=num a+256 ^ a.length * b.toNat:=by
 rw [Qpk];simp [num]
theorem QaG (v n:Nat):(Qaz v n).length=n:=by
 induction n generalizing v with
 | zero=>rfl
 | succ n ih=>simp [Qaz,ih]
theorem Qkt (v n:Nat):num (Qaz v n)=v % 256 ^ n:=by
 induction n generalizing v with
 | zero=>simp [Qaz,num,Nat.mod_one]
 | succ n ih =>
   simp only [Qaz,num,ih,UInt8.toNat_ofNat',Nat.reducePow,Nat.mod_mod,Nat.pow_succ];rw [Nat.mul_comm (256 ^ n) 256,Nat.mod_mul]
theorem QhN (l:List UInt8):Qaz (num l) l.length=l:=by
 induction l with
 | nil=>rfl
 | cons b r ih =>
   have hb:=b.toNat_lt;simp only [List.length_cons,Qaz,num];have h1:(b.toNat+256 * num r) % 256=b.toNat:=by omega
   have h2:(b.toNat+256 * num r) / 256=num r:=by omega
   rw [h1,h2,ih];simp
theorem QnP (v n:Nat):Qaz v (n+1)=Qaz v n++[UInt8.ofNat (v / 256 ^ n % 256)]:=by
 induction n generalizing v with
 | zero=>simp [Qaz]
 | succ n ih =>
   rw [Qaz,ih (v / 256),Qaz];simp only [List.cons_append,List.cons.injEq,List.append_cancel_left_eq,true_and,and_true];rw [Nat.div_div_eq_div_mul,Nat.pow_succ,Nat.mul_comm 256]
theorem Qpl (k:Nat):256 ^ k=2 ^ (8 * k):=by rw [Nat.pow_mul]
theorem QnQ (b:UInt8) (k:Nat) (hk:k<8):b.toNat * 2 ^ (8 * k)<18446744073709551616:=by
 have h1:b.toNat * 2 ^ (8 * k)<256 * 2 ^ (8 * k):=Nat.mul_lt_mul_of_pos_right b.toNat_lt (Nat.two_pow_pos _);have h2:(256:Nat) * 2 ^ (8 * k)=2 ^ (8 * k+8):=by rw [Nat.pow_add];omega
 have h3:(2:Nat) ^ (8 * k+8)<=2 ^ 64:=Nat.pow_le_pow_right (by omega) (by omega);omega
theorem Qux (l:List UInt8) (b:UInt8) (h:l.length<8) :
  bits .or .u64 (num l:Int) (IntKind.u64.wrap (IntKind.u64.wrap (b.toNat:Int) * 2 ^ (8 * l.length)))=(num (l++[b]):Nat):=by
 have hb:=b.toNat_lt;have h0:IntKind.u64.wrap (b.toNat:Int)=b.toNat:=IntWalk.u64_in _ ⟨by omega,by omega⟩;have hlt:=QnQ b l.length h;have hc:((b.toNat:Int) * 2 ^ (8 * l.length))=((b.toNat * 2 ^ (8 * l.length):Nat):Int):=by
  rw [Int.natCast_mul,Int.natCast_pow];rfl
 have hn:=Qm6 l;rw [Qpl] at hn;have hp:(2:Nat) ^ (8 * l.length)<=2 ^ 64:=Nat.pow_le_pow_right (by omega) (by omega);have h1:IntKind.u64.wrap ((b.toNat * 2 ^ (8 * l.length):Nat):Int)=((b.toNat * 2 ^ (8 * l.length):Nat):Int):=IntWalk.u64_in _ ⟨by omega,by omega⟩;rw [h0,hc,h1,u64_or_nat _ _ (by omega) hlt,Nat.or_comm,nat_join (8 * l.length) _ _ (Nat.mul_mod_left _ _) hn,QsK,Qpl,Nat.mul_comm];omega
theorem Qrf (n:Int):bits .and .i64 n 15=n % 16:=by
 have h15:(BitVec.ofInt 64 15).toNat=2 ^ 4-1:=by decide
 have key:(BitVec.ofInt 64 n &&& BitVec.ofInt 64 15).toNat=(n % ((2 ^ 64:Nat):Int)).toNat % 2 ^ 4:=by
  rw [BitVec.toNat_and,BitVec.toNat_ofInt,h15,Nat.and_two_pow_sub_one_eq_mod]
 show IntKind.i64.wrap ((BitVec.ofInt 64 n &&& BitVec.ofInt 64 15).toNat:Nat)=n % 16;rw [key,IntKind.wrap_i64];omega
theorem Qrg (n:Int) (h₀:0<=n) (h₁:n<2 ^ 63):IntKind.i64.wrap n=n:=by rw [IntKind.wrap_i64];omega
theorem Qj3 (x y:Int) (hx:0<=x) (hx':x % 16=0) (hx'':x<9223372036854775808) (hy:0<=y) (hy':y<16):bits .or .i64 x y=x+y :=
 bits_join .i64 63 (by decide) Qrg 4 x y hx (by omega) (by omega) hy (by omega) (by omega)
theorem Qku (x y:Int) (hx:0<=x) (hx':x % 16=0) (hx'':x<9223372036854775808) (hy:0<=y) (hy':y<16):bits .or .i64 y x=y+x:=by
 have hc:bits .or .i64 y x=bits .or .i64 x y:=by simp only [bits,BitVec.or_comm]
 rw [hc,Qj3 x y hx hx' hx'' hy hy'];omega
theorem Qrh (x:Int):bits .or .i64 64 (x % 16)=64+x % 16:=Qj3 _ _ (by omega) (by omega) (by omega) (by omega) (by omega)
theorem Qpm (x:Int):bits .or .i64 128 (x % 16)=128+x % 16:=Qj3 _ _ (by omega) (by omega) (by omega) (by omega) (by omega)
theorem Qpn (x:Int):bits .or .i64 192 (x % 16)=192+x % 16:=Qj3 _ _ (by omega) (by omega) (by omega) (by omega) (by omega)
theorem Qkv (c:UInt8):bits .and .u8 (c.toNat:Int) 15=(c.toNat:Int) % 16:=u8_and15 _ (by omega) (by have:=c.toNat_lt;omega)
theorem Qkw (c:UInt8):bits .and .u8 (c.toNat:Int) 63=(c.toNat:Int) % 64:=u8_and63 _ (by omega) (by have:=c.toNat_lt;omega)
theorem Qri (x:Nat) (h:x<256):x &&& 48=x / 16 % 4 * 16:=by
 have:∀ x:Fin 256,x.val &&& 48=x.val / 16 % 4 * 16:=by decide +kernel
 exact this ⟨x,h⟩
theorem Qkx (c:UInt8):bits .and .u8 (c.toNat:Int) 48=(c.toNat:Int) / 16 % 4 * 16:=by
 have hc:=c.toNat_lt;rw [u8_and _ _ (by omega) (by omega) (by omega) (by omega)];rw [show (48:Int).toNat=48 from rfl,Int.toNat_natCast,Qri _ hc];omega
end
section
open Go.RowKit
theorem Qc2 (w:World) (x:Int):Sem.run Tryz.prog (convert 48 9 (.slice (some ⟨w.heap.size,0,none⟩) 1 1)) (w.alloc (.cells #[.int .u8 x] 5)) = .ok (.string ⟨[UInt8.ofNat x.toNat].toArray⟩) (w.alloc (.cells #[.int .u8 x] 5)):=by
 rw [run_convert_bytes_string _ 48 9 5 _ _ _ Tryz.underlying48 Tryz.underlying5 Tryz.underlying9];rw [run_bytesToString _ _ 1 1 [x] (by simp [loadCells,go_sem])]<;>rfl
theorem Qdd (w:World) (x y:Int):Sem.run Tryz.prog (convert 48 9 (.slice (some ⟨w.heap.size,0,none⟩) 2 2)) (w.alloc (.cells #[.int .u8 x,.int .u8 y] 5)) = .ok (.string ⟨[UInt8.ofNat x.toNat,UInt8.ofNat y.toNat].toArray⟩) (w.alloc (.cells #[.int .u8 x,.int .u8 y] 5)):=by
 rw [run_convert_bytes_string _ 48 9 5 _ _ _ Tryz.underlying48 Tryz.underlying5 Tryz.underlying9];rw [run_bytesToString _ _ 2 2 [x,y] (by simp [loadCells,go_sem])]<;>rfl
theorem Qrj (s:List UInt8) (k:Nat) (h:k<s.length):s.take (k+1)=s.take k++[s[k]]:=by
 rw [List.take_succ_eq_append_getElem h]
theorem QbW {a b:Value} (h:a=b):Ending.returned a = .returned b:=by rw [h]
theorem Qky (s:List UInt8) (w:World) (hs:s.length<=8) :
  Calls Tryz.prog 151 #[.string ⟨s.toArray⟩] w fun e w'=>e = .returned (.int .u64 (num s))/\w=w':=by
 go_enter Tryz.func151,Tryz.ntmps151;go_wp2;go_loop [3,7] (fun n i=>∃ k:Nat,k<=s.length/\i = .int .i64 k/\n = .int .u64 (num (s.take k))) (fun _ i=>s.length-(intOf i).toNat)
 case atStart=>exact ⟨0,Nat.zero_le _,rfl,rfl⟩
 case round =>
  obtain ⟨k,hk,rfl,rfl⟩:=hrel;by_cases hlt:k<s.length
  ·have HS:Hid (bits .or .u64 (num (s.take k):Int) (IntKind.u64.wrap (IntKind.u64.wrap (s[k].toNat:Int) * 2 ^ (8 * k)))=(num (s.take (k+1)):Nat)):=by
    have h:=Qux (s.take k) s[k] (by rw [List.length_take];omega);rw [List.length_take,Nat.min_eq_left (by omega)] at h;rw [Qrj s k hlt];exact h
   go_wp2;go_round
   case rel=>exact ⟨k+1,by omega,by go_num,by exact congrArg (Value.int .u64) HS.out⟩
   case measure=>simp [intOf];omega
  ·go_wp2;go_ret;have e:s.take k=s:=List.take_of_length_le (by omega);exact ⟨QbW (congrArg (fun x:List UInt8=>Value.int .u64 (num x)) e),rfl⟩
attribute [local go_sem] Qc2 Qdd ByteArray.mk_append_mk
theorem Qpo (v n:Nat) (w:World) (hn:n<=8) :
  Calls Tryz.prog 132 #[.int .u64 v,.int .i64 n] w fun e w'=>e = .returned (.string ⟨(Qaz v n).toArray⟩)/\Below w.heap.size w w':=by
 go_enter Tryz.func132,Tryz.ntmps132;go_wp2;go_loopw [0,5,6] (fun x s i wr=>∃ k:Nat,∃ y:Nat,∃ l:List UInt8,k<=n/\i = .int .i64 k/\x = .int .u64 y/\s = .string ⟨l.toArray⟩/\l.length=k/\l++Qaz y (n-k)=Qaz v n/\Below w.heap.size w wr) (fun _ _ i _=>n-(intOf i).toNat)
 case atStart=>exact ⟨0,v,[],by omega,rfl,rfl,rfl,rfl,rfl,Zb⟩
 case round =>
  obtain ⟨k,y,l,hk,rfl,rfl,rfl,hl,hr,hb⟩:=hrel;have HL:=Za hl;have HR:=Za hr;have hl':l.length<=n:=by omega
  clear hl hr;by_cases hlt:k<n
  ·have HN:Hid ((l++[UInt8.ofNat (y % 256)])++Qaz (y / 256) (n-(k+1))=Qaz v n):=by
    have e:n-k=(n-(k+1))+1:=by omega
    have h:=HR.out;rw [e,Qaz] at h;rw [List.append_assoc];exact h
   go_wp2;go_roundw
   case rel=>exact ⟨k+1,y / 256,l++[UInt8.ofNat (y % 256)],by omega,by go_num,by go_num,rfl,by simp [HL.out],HN.out,hb.alloc (hb.size) _⟩
   case measure=>simp [intOf];omega
  ·go_wp2;go_ret;obtain rfl:k=n:=by omega
   have e:l=Qaz v k:=by have:=HR.out;rw [Nat.sub_self,Qaz,List.append_nil] at this;exact this
   exact ⟨QbW (congrArg (fun x:List UInt8=>Value.string ⟨x.toArray⟩) e),hb⟩
theorem QsL:(Tryz.prog.info? 5).map (fun i=>(i.zero,i.size,i.bytes))=some (some (.int .u8 0),1,1):=by kernel_rfl
def QdJ (l:List UInt8):List Value:=l.map fun b=>.int .u8 b.toNat
theorem QsM (w:World) (a:Addr) (n c:Nat) (l:List UInt8) (hn:l.length=n) (h:∀ j v,(QdJ l)[j]?=some v->w.cell? (a.add j)=some v) :
  Sem.run Tryz.prog (convert 48 9 (.slice (some a) n c)) w = .ok (.string ⟨l.toArray⟩) w:=by
 rw [run_convert_bytes_string _ 48 9 5 _ _ _ Tryz.underlying48 Tryz.underlying5 Tryz.underlying9];have hl:=run_loadCells_list (P:=Tryz.prog) w a ((l.map (fun b=>(b.toNat:Int))).map (Value.int .u8)) (by
  intro j v hj;apply h;simpa [QdJ,List.map_map] using hj)
 rw [List.length_map,List.length_map,hn] at hl;rw [run_bytesToString _ _ n c _ hl];have key:∀ (l:List UInt8) (r:ByteArray),(l.map (fun b=>(b.toNat:Int))).foldl (fun r n=>r.push (UInt8.ofNat n.toNat)) r=r++⟨l.toArray⟩:=by
  intro l;induction l with
  | nil=>intro r;simp;apply ByteArray.ext;simp [ByteArray.data_append]
  | cons x l ih =>
    intro r;simp only [List.map_cons,List.foldl_cons,ih];apply ByteArray.ext;simp [ByteArray.data_append,ByteArray.data_push]
 rw [key]
 congr 2
theorem Qwa (A:List Value) (k:Nat) (z u:Value) (m:Nat) (h:A.length=k):(A++List.replicate (m+1) z).set k u=(A++[u])++List.replicate m z:=by
 subst h;rw [List.set_append_right _ _ Zc,Nat.sub_self,List.replicate_succ,List.set_cons_zero,List.append_assoc];rfl
theorem QiT (b:List UInt8) (v n:Nat) (w:World) (hn:n<=8) (hbl:b.length<=9223372036854775000) :
  Calls Tryz.prog 128 #[.string ⟨b.toArray⟩,.int .u64 v,.int .i64 n] w fun e w'=>e = .returned (.string ⟨(b++Qaz v n).toArray⟩)/\Below w.heap.size w w':=by
 obtain ⟨i0,hi,hz0,hz1,hz2⟩:=info_parts QsL;go_enter Tryz.func128,Tryz.ntmps128;go_wp2_with (at_make;refine wpList_make_full _ rfl _ _ 48 rfl w.heap.size 5 i0 (.int .u8 0) 1 Tryz.underlying48 hi hz0 hz1 .i64 .i64 _ _ n rfl rfl rfl rfl (by rw [hz2];omega) (by unfold maxLen;omega) Zc ?_;intro w1 hown hgrow);go_loopw [12] (fun i wr=>∃ k:Nat,k<=n/\i = .int .i64 k/\wr.ownsRow w.heap.size 5 1 (.slice (some ⟨w.heap.size,0,none⟩) n n) n (QdJ (Qaz v k)++List.replicate (n-k) (.int .u8 0))/\Below w.heap.size w wr) (fun i _=>n-(intOf i).toNat)
 case atStart => 
  refine ⟨0,Nat.zero_le _,rfl,?_,Zb.grown hgrow Zc (fun _ h=>by cases h)⟩;have e:(madeCells (Value.int IntKind.u8 0).cells (n * 1)).toList=List.replicate n (.int .u8 0):=by
   rw [Nat.mul_one];exact toList_madeCells_one _ _
  rw [e] at hown;exact hown
 case round =>
  obtain ⟨k,hk,rfl,ho,hb⟩:=hrel;clear hown hgrow;have HO:=Za ho;by_cases hlt:k<n
  ·have hcell:wr.cell? ⟨w.heap.size,k,none⟩=some (.int .u8 0):=by
    rw [ho.cellAt k (by omega),List.getElem?_append_right (by simp [QdJ,QaG])];simp only [QdJ,List.length_map,QaG,Nat.sub_self];rw [show n-k=(n-k-1)+1 by omega,List.replicate_succ];rfl
   have hfz:=ho.frozenAt k;have HS:Hid (∀ u:Value,u = .int .u8 ((v:Int) / 2 ^ (8 * k) % 256)->(QdJ (Qaz v k)++List.replicate (n-k) (Value.int .u8 0)).set k u=QdJ (Qaz v (k+1))++List.replicate (n-(k+1)) (Value.int .u8 0)):=by
    intro u hu;rw [show n-k=(n-(k+1))+1 by omega,Qwa _ k _ _ _ (by simp [QdJ,QaG])];rw [QnP,QdJ,QdJ,List.map_append,hu];have e:((v:Int) / 2 ^ (8 * k) % 256)=((UInt8.ofNat (v / 256 ^ k % 256)).toNat:Nat):=by
     rw [UInt8.toNat_ofNat',Nat.mod_eq_of_lt (by omega),Qpl,Int.natCast_emod,Int.natCast_ediv,Int.natCast_pow];rfl
    rw [e];rfl
   clear ho;go_wp2;go_roundw
   case rel =>
    have h1:=HO.out.stored k (Value.int IntKind.u8 ((v:Int) / 2 ^ (8 * k) % 256));rw [HS.out _ rfl] at h1;exact ⟨k+1,by omega,by go_num,h1.1,hb.setCell Zc _⟩
   case measure=>simp [intOf];omega
  ·clear ho;obtain rfl:k=n:=by omega
   have hcv:=QsM wr ⟨w.heap.size,0,none⟩ k k (Qaz v k) (QaG v k) (by
    intro j u hj;have hlt:j<k:=by
     have:=(List.getElem?_eq_some_iff.1 hj).1;simpa [QdJ,QaG] using this
    have h1:=HO.out.cellAt j (by omega);rw [List.getElem?_append_left (by simpa [QdJ,QaG] using hlt),hj] at h1;by_cases h0:j=0
    ·subst h0;simpa [Addr.add] using h1
    ·simpa [Addr.add,h0] using h1)
   have hll:(Qaz v k).length<=8:=by rw [QaG];exact hn
   go_wp2;go_ret;exact ⟨rfl,hb⟩
end
section
open Go.RowKit
theorem QdK {P:Program} {id:Nat} {Q:Exit->Act->World->Prop} {a:Act} {w:World} {l:List Oper} (hm:P.follows .mixedOrders=true) (hB:Region.lexB .any l.toArray=true)
  (h:wpQuiet P l.toArray (Grows w) (fun a'=>∀ w',Grows w w'->Q .normal a' w') l a):(Code.region id l.toArray true).wp P Q a w :=
 wp_region_quiet (C:=Grows w) hm hB (Below.drew Zb) (by simpa using h)
theorem Calls.grows_of_same {P:Program} {f:FuncId} {args:Array Value} {w w':World} {v:Value} (hw:Grows w w')
  (h:Calls P f args w' fun e w''=>e = .returned v/\w'=w''):Calls P f args w' fun e w''=>e = .returned v/\Grows w w'' :=
 h.mono fun _ _ ⟨he,hb⟩=>⟨he,hb▸hw⟩
end
section
open Go.RowKit
theorem QcO (l:List UInt8) (i:Nat) (h:i<(ByteArray.mk l.toArray).size):(ByteArray.mk l.toArray)[i]=l[i]'(by have:=h;simp only [ByteArray.size_mk',List.size_toArray] at this;exact this):=rfl
theorem QcP (l:List UInt8) (a b:Nat):(ByteArray.mk l.toArray).extract a b=⟨((l.drop a).take (b-a)).toArray⟩:=by
 apply ByteArray.ext;rw [ByteArray.data_extract];simp
attribute [local go_sem] Qc2 Qdd ByteArray.mk_append_mk QcO QcP
def Qcb:Nat:=18446744073709551615
def QaZ (v:Nat):List UInt8 :=
 if v<=1 then [UInt8.ofNat v]
 else if v=Qcb then [255]
 else if v<256 then 10::Qaz v 1
 else if v<65536 then 11::Qaz v 2
 else if v<4294967296 then 12::Qaz v 4
 else 14::Qaz v 8
def Qcn (r:List UInt8) (n least:Nat):Nat×Nat×Nat :=
 if r.length<n then (0,0,4) else if num (r.take n)<least\/num (r.take n)=Qcb then (0,0,3) else (num (r.take n),1+n,0)
def QbD:List UInt8->Nat×Nat×Nat
 | []=>(0,0,4)
 | c::r =>
   if c.toNat<=1 then (c.toNat,1,0)
   else if c.toNat=255 then (Qcb,1,0)
   else if c.toNat=10 then Qcn r 1 2
   else if c.toNat=11 then Qcn r 2 256
   else if c.toNat=12 then Qcn r 4 65536
   else if c.toNat=14 then Qcn r 8 4294967296
   else (0,0,3)
def Qwb (x:Nat×Nat×Nat):Value:=.tuple #[.int .u64 x.1,.int .i64 x.2.1,.int .i64 x.2.2]
theorem Quy {x:Nat×Nat×Nat} {a b c:Int} (h:x=(a.toNat,b.toNat,c.toNat)) (ha:0<=a) (hb:0<=b) (hc:0<=c):Ending.returned (.tuple #[.int .u64 a,.int .i64 b,.int .i64 c]) = .returned (Qwb x):=by
 subst h;simp only [Qwb,Int.toNat_of_nonneg ha,Int.toNat_of_nonneg hb,Int.toNat_of_nonneg hc]
set_option maxRecDepth 100000 in
theorem QsN (s:List UInt8) (w:World) (hs:s.length<=8) :
  Calls Tryz.prog 151 #[.string ⟨s.toArray⟩] w fun e w'=>∃ v:Int,Hid (v=(num s:Nat))/\0<=v/\e = .returned (.int .u64 v)/\w=w' :=
 (Qky s w hs).mono fun _ _ ⟨he,hw⟩=>⟨_,Za rfl,Int.natCast_nonneg _,he,hw⟩
theorem Ql8 (c:UInt8):c=0\/c=1\/c=255\/c=10\/c=11\/c=12\/c=14 \/
  (((c.toNat:Int)==0)=false/\((c.toNat:Int)==1)=false/\((c.toNat:Int)==255)=false/\((c.toNat:Int)==10)=false/\((c.toNat:Int)==11)=false/\((c.toNat:Int)==12)=false/\((c.toNat:Int)==14)=false):=by
 simp only [<- UInt8.toNat_inj,beq_eq_false_iff_ne,ne_eq,UInt8.reduceToNat];omega
theorem Qjx (c:UInt8) (r:List UInt8) (h:((c.toNat:Int)==0)=false/\((c.toNat:Int)==1)=false/\((c.toNat:Int)==255)=false/\((c.toNat:Int)==10)=false/\((c.toNat:Int)==11)=false/\((c.toNat:Int)==12)=false/\((c.toNat:Int)==14)=false):QbD (c::r)=(0,0,3):=by
 simp only [beq_eq_false_iff_ne,ne_eq] at h;rw [QbD,if_neg (by omega),if_neg (by omega),if_neg (by omega),if_neg (by omega),if_neg (by omega),if_neg (by omega)]
theorem QnR {r:List UInt8} {n least:Nat} (h:(r.length:Int)+1<=n):Qcn r n least=(0,0,4):=by
 rw [Qcn,if_pos (by omega)]
theorem Qrk {r:List UInt8} {n least:Nat} {v:Int} (h:¬ (r.length:Int)+1<=n) (HV:Hid (v=(num (r.take n):Nat))) (hb:v<least\/v=18446744073709551615):Qcn r n least=(0,0,3):=by
 have hV:=HV.out;have ht:Qcb=18446744073709551615:=rfl;rw [Qcn,if_neg (by omega),if_pos (by omega)]
theorem Qpp {r:List UInt8} {n least:Nat} {v:Int} (h:¬ (r.length:Int)+1<=n) (HV:Hid (v=(num (r.take n):Nat))) (hb:¬ (v<least\/v=18446744073709551615)):Qcn r n least=(v.toNat,1+n,0):=by
 have hV:=HV.out;have ht:Qcb=18446744073709551615:=rfl;rw [Qcn,if_neg (by omega),if_neg (by omega)];simp only [Prod.mk.injEq,and_true];omega
theorem Quz (s:List UInt8) (w:World) (hm:s.length<=9223372036854775000) :
  Calls Tryz.prog 104 #[.string ⟨s.toArray⟩] w fun e w'=>e = .returned (Qwb (QbD s))/\w=w':=by
 cases s with
 | nil =>
   go_enter Tryz.func104,Tryz.ntmps104;go_wp2_with fail;go_ret3;exact ⟨rfl,rfl⟩
 | cons c r =>
   simp only [List.length_cons] at hm;rcases Ql8 c with rfl|rfl|rfl|rfl|rfl|rfl|rfl|hother
   case inr.inr.inr.inr.inr.inr.inr =>
    have HO:=Za (Qjx c r hother);obtain ⟨h1,h2,h3,h4,h5,h6,h7⟩:=hother;go_enter Tryz.func104,Tryz.ntmps104;go_wp2_with fail;go_ret3;exact ⟨by rw [HO.out];rfl,rfl⟩
   case inl|inr.inl|inr.inr.inl =>
    go_enter Tryz.func104,Tryz.ntmps104;go_wp2_with fail;go_ret3;exact ⟨rfl,rfl⟩
   all_goals
    go_enter Tryz.func104,Tryz.ntmps104;go_wp2_with (go_at_call 151;refine (QsN _ _ (by simp;omega)).mono ?_;rintro e w' ⟨v,HV,hv0,rfl,rfl⟩)
    all_goals
     go_ret3;go_light;refine ⟨Quy (Eq.trans (b:=Qcn r _ _) rfl ?_) ?_ ?_ ?_,rfl⟩
     all_goals
      (try simp only [beq_iff_eq,beq_eq_false_iff_ne,ne_eq] at *)
      first
       | omega
       | exact QnR (by omega)
       | exact Qrk (by omega) HV (by omega)
       | exact Qpp (by omega) HV (by omega)
theorem Qc3 (b:List UInt8) (x n:Int) (w:World) (hx:0<=x) (hn0:0<=n) (hn:n<=8) (hbl:b.length<=9223372036854775000) :
  Calls Tryz.prog 128 #[.string ⟨b.toArray⟩,.int .u64 x,.int .i64 n] w fun e w'=>e = .returned (.string ⟨(b++Qaz x.toNat n.toNat).toArray⟩)/\Below w.heap.size w w':=by
 obtain ⟨v,rfl⟩:=Int.eq_ofNat_of_zero_le hx;obtain ⟨m,rfl⟩:=Int.eq_ofNat_of_zero_le hn0;exact QiT b v m w (by omega) hbl
theorem QcF (x n:Int) (w:World) (hx:0<=x) (hn0:0<=n) (hn:n<=8) :
  Calls Tryz.prog 132 #[.int .u64 x,.int .i64 n] w fun e w'=>∃ l:List UInt8,Hid (l=Qaz x.toNat n.toNat)/\l.length<=8/\e = .returned (.string ⟨l.toArray⟩)/\Below w.heap.size w w':=by
 obtain ⟨v,rfl⟩:=Int.eq_ofNat_of_zero_le hx;obtain ⟨m,rfl⟩:=Int.eq_ofNat_of_zero_le hn0;exact (Qpo v m w (by omega)).mono fun _ _ ⟨he,hw⟩=>⟨_,Za rfl,by rw [QaG];omega,he,hw⟩
theorem Qdj {x:Int} {l:List UInt8} (h:l=QaZ x.toNat) (b:List UInt8):Ending.returned (.string ⟨(b++l).toArray⟩) = .returned (.string ⟨(b++QaZ x.toNat).toArray⟩):=by rw [h]
theorem QwZ {x:Int} (h:x<=1):[UInt8.ofNat x.toNat]=QaZ x.toNat:=by
 rw [QaZ,if_pos (by omega)]
theorem QsO {x:Int} (h:x=0):[0]=QaZ x.toNat:=by subst h;rfl
theorem QuA {x:Int} (h:x=1):[1]=QaZ x.toNat:=by subst h;rfl
theorem Qqh {x:Int} (h:x=18446744073709551615):[255]=QaZ x.toNat:=by
 have ht:Qcb=18446744073709551615:=rfl;rw [QaZ,if_neg (by omega),if_pos (by omega)]
theorem QvO {x:Int} (h1:1<x) (h2:x<256):10::Qaz x.toNat 1=QaZ x.toNat:=by
 have ht:Qcb=18446744073709551615:=rfl;rw [QaZ,if_neg (by omega),if_neg (by omega),if_pos (by omega)]
theorem QvP {x:Int} (h1:256<=x) (h2:x<65536):11::Qaz x.toNat 2=QaZ x.toNat:=by
 have ht:Qcb=18446744073709551615:=rfl;rw [QaZ,if_neg (by omega),if_neg (by omega),if_neg (by omega),if_pos (by omega)]
theorem QvQ {x:Int} (h1:65536<=x) (h2:x<4294967296):12::Qaz x.toNat 4=QaZ x.toNat:=by
 have ht:Qcb=18446744073709551615:=rfl;rw [QaZ,if_neg (by omega),if_neg (by omega),if_neg (by omega),if_neg (by omega),if_pos (by omega)]
theorem QvR {x:Int} (h1:4294967296<=x) (h2:¬ x=18446744073709551615):14::Qaz x.toNat 8=QaZ x.toNat:=by
 have ht:Qcb=18446744073709551615:=rfl;rw [QaZ,if_neg (by omega),if_neg (by omega),if_neg (by omega),if_neg (by omega),if_neg (by omega)]
theorem QlJ (b:List UInt8) (x:Int) (w:World) (hx:0<=x) (hbl:b.length<=9223372036854770000) :
  Calls Tryz.prog 82 #[.string ⟨b.toArray⟩,.int .u64 x] w fun e w'=>e = .returned (.string ⟨(b++QaZ x.toNat).toArray⟩)/\Below w.heap.size w w':=by
 go_enter Tryz.func82,Tryz.ntmps82;go_wp2_with (go_at_call 128;refine (Qc3 _ _ _ _ (by omega) (by omega) (by omega) (by simp;omega)).mono ?_;rintro e w' ⟨rfl,hb⟩)
 all_goals
  go_ret;go_light;(try simp only [beq_iff_eq,beq_eq_false_iff_ne,ne_eq] at *)
 ·exact ⟨Qdj (QwZ (by omega)) b,Zb.alloc Zc _⟩
 ·exact ⟨Qdj (Qqh (by omega)) b,Zb⟩
 ·exact ⟨Qdj (QvO (by omega) (by omega)) b,hb⟩
 ·exact ⟨Qdj (QvP (by omega) (by omega)) b,hb⟩
 ·exact ⟨Qdj (QvQ (by omega) (by omega)) b,hb⟩
 ·exact ⟨Qdj (QvR (by omega) (by omega)) b,hb⟩
theorem Qpq (x:Int) (w:World) (hx:0<=x) :
  Calls Tryz.prog 89 #[.int .u64 x] w fun e w'=>e = .returned (.string ⟨(QaZ x.toNat).toArray⟩)/\Below w.heap.size w w':=by
 go_enter Tryz.func89,Tryz.ntmps89;go_wp2_with (go_at_call 132;refine (QcF _ _ _ (by omega) (by omega) (by omega)).mono ?_;rintro e w' ⟨l,HL,hl,rfl,hb⟩)
 all_goals
  go_ret;go_light;(try simp only [beq_iff_eq,beq_eq_false_iff_ne,ne_eq] at *);(try have e:=HL.out;subst e)
 ·exact ⟨Qdj (QsO (by omega)) [],Zb⟩
 ·exact ⟨Qdj (QuA (by omega)) [],Zb⟩
 ·exact ⟨Qdj (Qqh (by omega)) [],Zb⟩
 ·exact ⟨Qdj (QvO (by omega) (by omega)) [],hb⟩
 ·exact ⟨Qdj (QvP (by omega) (by omega)) [],hb⟩
 ·exact ⟨Qdj (QvQ (by omega) (by omega)) [],hb⟩
 ·exact ⟨Qdj (QvR (by omega) (by omega)) [],hb⟩
theorem Qkz (v:Nat):(QaZ v).length<=9:=by
 unfold QaZ
 repeat' split
 all_goals simp [QaG]
theorem Qwc:IntKind.i8.wrap 255 = -1:=by decide
theorem Qwd:IntKind.u64.wrap (-1)=18446744073709551615:=by decide
attribute [local go_sem] Qwc Qwd
def Form (c:UInt8) (n least:Nat):Prop:=(c=10/\n=1/\least=2)\/(c=11/\n=2/\least=256)\/(c=12/\n=4/\least=65536)\/(c=14/\n=8/\least=4294967296)
theorem Form.one:Form 10 1 2:=.inl ⟨rfl,rfl,rfl⟩
theorem Form.two:Form 11 2 256:=.inr (.inl ⟨rfl,rfl,rfl⟩)
theorem Form.four:Form 12 4 65536:=.inr (.inr (.inl ⟨rfl,rfl,rfl⟩))
theorem Form.eight:Form 14 8 4294967296:=.inr (.inr (.inr ⟨rfl,rfl,rfl⟩))
theorem Qm7 {c:UInt8} {n least:Nat} (hf:Form c n least) (l:List UInt8) (hl:l.length=n) (h:¬ (num l<least\/num l=Qcb)):QaZ (num l)=c::l:=by
 have hlt:=Qm6 l;have hb:=QhN l;rw [hl] at hlt hb;have ht:Qcb=18446744073709551615:=rfl;unfold QaZ;rcases hf with ⟨rfl,rfl,rfl⟩|⟨rfl,rfl,rfl⟩|⟨rfl,rfl,rfl⟩|⟨rfl,rfl,rfl⟩
 ·rw [if_neg (by omega),if_neg (by omega),if_pos (by omega),hb]
 ·rw [if_neg (by omega),if_neg (by omega),if_neg (by omega),if_pos (by omega),hb]
 ·rw [if_neg (by omega),if_neg (by omega),if_neg (by omega),if_neg (by omega),if_pos (by omega),hb]
 ·rw [if_neg (by omega),if_neg (by omega),if_neg (by omega),if_neg (by omega),if_neg (by omega),hb]
end
section
open Go.RowKit
attribute [local go_sem] Qc2 Qdd ByteArray.mk_append_mk QcO QcP Qrf Qrh Qpm Qpn Qkv Qkw Qkx
def QbX (t k:Nat):List UInt8:=UInt8.ofNat ((k-1) * 64+t % 16)::Qaz (t / 16) (k-1)
def QaP (n:Int):List UInt8 :=
 if n<0\/268435456<=n then []
 else if n<63 then [UInt8.ofNat (n+1).toNat]
 else if n<4094 then QbX (n+2).toNat 2
 else if n<1048573 then QbX (n+3).toNat 3
 else if n<268435452 then QbX (n+4).toNat 4
 else []
theorem Qqi (w:World):Calls Tryz.prog 131 #[.int .i64 1] w fun e w'=>e = .returned (.int .i64 64)/\w=w':=by
 go_enter Tryz.func131,Tryz.ntmps131;go_wp2;go_ret;exact ⟨rfl,rfl⟩
theorem Qqj (w:World):Calls Tryz.prog 131 #[.int .i64 2] w fun e w'=>e = .returned (.int .i64 4096)/\w=w':=by
 go_enter Tryz.func131,Tryz.ntmps131;go_wp2;go_ret;exact ⟨rfl,rfl⟩
theorem Qqk (w:World):Calls Tryz.prog 131 #[.int .i64 3] w fun e w'=>e = .returned (.int .i64 1048576)/\w=w':=by
 go_enter Tryz.func131,Tryz.ntmps131;go_wp2;go_ret;exact ⟨rfl,rfl⟩
theorem Qm8 (w:World):Calls Tryz.prog 131 #[.int .i64 4] w fun e w'=>e = .returned (.int .i64 268435456)/\w=w':=by
 go_enter Tryz.func131,Tryz.ntmps131;go_wp2;go_ret;exact ⟨rfl,rfl⟩
theorem QsP {n:Int} (h0:0<=n) (h:n<63):[UInt8.ofNat (n+1).toNat]=QaP n:=by
 rw [QaP,if_neg (by omega),if_pos (by omega)]
theorem QvS {n:Int} (h0:63<=n) (h:n<4094):UInt8.ofNat (64+(n+2) % 16).toNat::Qaz ((n+2) / 16).toNat (Int.toNat 1)=QaP n:=by
 rw [QaP,if_neg (by omega),if_neg (by omega),if_pos (by omega),QbX]
 congr 2<;>omega
theorem QvT {n:Int} (h0:4094<=n) (h:n<1048573):UInt8.ofNat (128+(n+3) % 16).toNat::Qaz ((n+3) / 16).toNat (Int.toNat 2)=QaP n:=by
 rw [QaP,if_neg (by omega),if_neg (by omega),if_neg (by omega),if_pos (by omega),QbX]
 congr 2<;>omega
theorem QvU {n:Int} (h0:1048573<=n) (h:n<268435452):UInt8.ofNat (192+(n+4) % 16).toNat::Qaz ((n+4) / 16).toNat (Int.toNat 3)=QaP n:=by
 rw [QaP,if_neg (by omega),if_neg (by omega),if_neg (by omega),if_neg (by omega),if_pos (by omega),QbX]
 congr 2<;>omega
theorem QnS {n:Int} (h0:268435452<=n):[]=QaP n:=by
 rw [QaP];by_cases h:n<0\/268435456<=n
 ·rw [if_pos h]
 ·rw [if_neg h,if_neg (by omega),if_neg (by omega),if_neg (by omega),if_neg (by omega)]
theorem Qql {n:Int} (h0:n<0):[]=QaP n:=by
 rw [QaP,if_pos (by omega)]
theorem Qg6 {b l:List UInt8} (h:[]=l):Value.string ⟨b.toArray⟩ = .string ⟨(b++l).toArray⟩:=by rw [<- h,List.append_nil]
theorem QiU (b:List UInt8) (n:Int) (w:World) (hbl:b.length<=9223372036854770000) (hlo : -9223372036854775808<=n) (hhi:n<=9223372036854775807) :
  Calls Tryz.prog 86 #[.string ⟨b.toArray⟩,.int .i64 n] w fun e w'=>e = .returned (.string ⟨(b++QaP n).toArray⟩)/\Below w.heap.size w w':=by
 by_cases h0:n<0
 ·go_enter Tryz.func86,Tryz.ntmps86;go_wp2_with fail;go_ret;go_light;exact ⟨QbW (Qg6 (Qql h0)),Zb⟩
 ·by_cases h1:268435456<=n
  ·go_enter Tryz.func86,Tryz.ntmps86;go_wp2_with (go_at_call 131;refine (Qm8 _).mono ?_;rintro e w' ⟨rfl,rfl⟩);go_ret;go_light;exact ⟨QbW (Qg6 (QnS (by omega))),Zb⟩
  ·go_enter Tryz.func86,Tryz.ntmps86;go_wp2_with (go_at_call 131;refine (Qm8 _).mono ?_;rintro e w' ⟨rfl,rfl⟩);go_loopw [5,6,0] (fun i _t bb wr=>∃ k:Nat,1<=k/\k<=5/\i = .int .i64 k/\bb = .string ⟨b.toArray⟩/\w=wr/\(1<k->63<=n)/\(2<k->4094<=n)/\(3<k->1048573<=n)/\(4<k->268435452<=n)) (fun i _ _ _=>5-(intOf i).toNat)
   case atStart=>exact ⟨1,by omega,by omega,rfl,rfl,rfl,by omega,by omega,by omega,by omega⟩
   case round =>
    obtain ⟨k,hk1,hk5,rfl,rfl,rfl,hn1,hn2,hn3,hn4⟩:=hrel;obtain rfl|rfl|rfl|rfl|rfl:k=1\/k=2\/k=3\/k=4\/k=5:=by omega
    ·clear hn1 hn2 hn3 hn4;go_wp2_with (go_at_call 131;refine (Qqi _).mono ?_;rintro e w' ⟨rfl,rfl⟩)
     ·go_roundw
      case rel=>exact ⟨2,by omega,by omega,rfl,rfl,trivial,by omega,by omega,by omega,by omega⟩
      case measure=>decide
     ·go_ret;go_light;exact ⟨QbW (congrArg (fun l:List UInt8=>Value.string ⟨(b++l).toArray⟩) (QsP (by omega) (by omega))),Zb.alloc Zc _⟩
    ·have hn:=hn1 (by omega);clear hn1 hn2 hn3 hn4;go_wp2_with (first|(go_at_call 131;refine (Qqj _).mono ?_;rintro e w' ⟨rfl,rfl⟩)|(go_at_call 128;refine (Qc3 _ _ _ _ (by omega) (by omega) (by omega) (by simp;omega)).mono ?_;rintro e w' ⟨rfl,hb⟩))
     ·go_roundw
      case rel=>exact ⟨3,by omega,by omega,rfl,rfl,trivial,by omega,by omega,by omega,by omega⟩
      case measure=>decide
     ·go_ret;go_light;exact ⟨QbW (congrArg (fun l:List UInt8=>Value.string ⟨(b++l).toArray⟩) (QvS (by omega) (by omega))),(Below.trans (Zb.alloc Zc _) (hb.mono (by simp)))⟩
    ·have hn:=hn2 (by omega);clear hn1 hn2 hn3 hn4;go_wp2_with (first|(go_at_call 131;refine (Qqk _).mono ?_;rintro e w' ⟨rfl,rfl⟩)|(go_at_call 128;refine (Qc3 _ _ _ _ (by omega) (by omega) (by omega) (by simp;omega)).mono ?_;rintro e w' ⟨rfl,hb⟩))
     ·go_roundw
      case rel=>exact ⟨4,by omega,by omega,rfl,rfl,trivial,by omega,by omega,by omega,by omega⟩
      case measure=>decide
     ·go_ret;go_light;exact ⟨QbW (congrArg (fun l:List UInt8=>Value.string ⟨(b++l).toArray⟩) (QvT (by omega) (by omega))),(Below.trans (Zb.alloc Zc _) (hb.mono (by simp)))⟩
    ·have hn:=hn3 (by omega);clear hn1 hn2 hn3 hn4;go_wp2_with (first|(go_at_call 131;refine (Qm8 _).mono ?_;rintro e w' ⟨rfl,rfl⟩)|(go_at_call 128;refine (Qc3 _ _ _ _ (by omega) (by omega) (by omega) (by simp;omega)).mono ?_;rintro e w' ⟨rfl,hb⟩))
     ·go_roundw
      case rel=>exact ⟨5,by omega,by omega,rfl,rfl,trivial,by omega,by omega,by omega,by omega⟩
      case measure=>decide
     ·go_ret;go_light;exact ⟨QbW (congrArg (fun l:List UInt8=>Value.string ⟨(b++l).toArray⟩) (QvU (by omega) (by omega))),(Below.trans (Zb.alloc Zc _) (hb.mono (by simp)))⟩
    ·have hn:=hn4 (by omega);clear hn1 hn2 hn3 hn4;go_wp2_with fail;go_ret;go_light;exact ⟨QbW (Qg6 (QnS (by omega))),Zb⟩
theorem Qed (v:Nat):Qaz v 1=[UInt8.ofNat v]:=by
 simp only [Qaz,List.cons.injEq,and_true];apply UInt8.toNat_inj.1;simp
theorem Qwe {n:Int} {l:List UInt8} (HL:Hid (l=Qaz (n+1).toNat (Int.toNat 1))) (h0:0<=n) (h:n<63):l=QaP n:=by
 rw [HL.out,show Int.toNat 1=1 from rfl,Qed];exact QsP h0 h
theorem Qwf {n:Int} {l m:List UInt8} (HL:Hid (l=Qaz (64+(n+2) % 16).toNat (Int.toNat 1))) (HM:Hid (m=Qaz ((n+2) / 16).toNat (Int.toNat 1))) (h0:63<=n) (h:n<4094):l++m=QaP n:=by
 rw [HL.out,HM.out,show Int.toNat 1=1 from rfl,Qed];exact QvS h0 h
theorem Qwg {n:Int} {l m:List UInt8} (HL:Hid (l=Qaz (128+(n+3) % 16).toNat (Int.toNat 1))) (HM:Hid (m=Qaz ((n+3) / 16).toNat (Int.toNat 2))) (h0:4094<=n) (h:n<1048573):l++m=QaP n:=by
 rw [HL.out,HM.out,show Int.toNat 1=1 from rfl,Qed];exact QvT h0 h
theorem Qwh {n:Int} {l m:List UInt8} (HL:Hid (l=Qaz (192+(n+4) % 16).toNat (Int.toNat 1))) (HM:Hid (m=Qaz ((n+4) / 16).toNat (Int.toNat 3))) (h0:1048573<=n) (h:n<268435452):l++m=QaP n:=by
 rw [HL.out,HM.out,show Int.toNat 1=1 from rfl,Qed];exact QvU h0 h
theorem QlK (n:Int) (w:World) (hlo : -9223372036854775808<=n) (hhi:n<=9223372036854775807) :
  Calls Tryz.prog 93 #[.int .i64 n] w fun e w'=>e = .returned (.string ⟨(QaP n).toArray⟩)/\Below w.heap.size w w':=by
 by_cases h0:n<0
 ·go_enter Tryz.func93,Tryz.ntmps93;go_wp2_with fail;go_loopw [3] (fun i wr=>i = .int .i64 1/\w=wr) (fun _ _=>0)
  case atStart=>exact ⟨rfl,rfl⟩
  case round =>
   obtain ⟨rfl,rfl⟩:=hrel;go_wp2_with fail;go_ret;go_light;exact ⟨QbW (Qg6 (b:=[]) (Qql h0)),Zb⟩
 ·by_cases h1:268435456<=n
  ·go_enter Tryz.func93,Tryz.ntmps93;go_wp2_with fail;go_loopw [3] (fun i wr=>i = .int .i64 1/\w=wr) (fun _ _=>0)
   case atStart=>exact ⟨rfl,rfl⟩
   case round =>
    obtain ⟨rfl,rfl⟩:=hrel;go_wp2_with fail;go_ret;go_light;exact ⟨QbW (Qg6 (b:=[]) (QnS (by omega))),Zb⟩
  ·go_enter Tryz.func93,Tryz.ntmps93;go_wp2_with fail;go_loopw [3,4] (fun i _t wr=>∃ k:Nat,1<=k/\k<=5/\i = .int .i64 k/\w=wr/\(1<k->63<=n)/\(2<k->4094<=n)/\(3<k->1048573<=n)/\(4<k->268435452<=n)) (fun i _ _=>5-(intOf i).toNat)
   case atStart=>exact ⟨1,by omega,by omega,rfl,rfl,by omega,by omega,by omega,by omega⟩
   case round =>
    obtain ⟨k,hk1,hk5,rfl,rfl,hn1,hn2,hn3,hn4⟩:=hrel;obtain rfl|rfl|rfl|rfl|rfl:k=1\/k=2\/k=3\/k=4\/k=5:=by omega
    ·clear hn1 hn2 hn3 hn4;go_wp2_with fail
     ·refine (QcF _ _ _ (by omega) (by omega) (by omega)).mono ?_;rintro e w1 ⟨l,HL,hl,rfl,hb⟩;go_wp2_with fail;go_ret;go_light;exact ⟨QbW (congrArg (fun l:List UInt8=>Value.string ⟨l.toArray⟩) (Qwe HL (by omega) (by omega))),hb⟩
     ·go_roundw
      case rel=>exact ⟨2,by omega,by omega,rfl,trivial,by omega,by omega,by omega,by omega⟩
      case measure=>decide
    ·have hn:=hn1 (by omega);clear hn1 hn2 hn3 hn4;go_wp2_with fail
     ·refine (QcF _ _ _ (by omega) (by omega) (by omega)).mono ?_;rintro e w1 ⟨l,HL,hl,rfl,hb⟩;go_wp2_with fail;refine (QcF _ _ _ (by omega) (by omega) (by omega)).mono ?_;rintro e w2 ⟨m,HM,hm,rfl,hc⟩;go_wp2_with fail;go_ret;go_light;exact ⟨QbW (congrArg (fun l:List UInt8=>Value.string ⟨l.toArray⟩) (Qwf HL HM (by omega) (by omega))),hb.trans (hc.mono hb.size)⟩
     ·go_roundw
      case rel=>exact ⟨3,by omega,by omega,rfl,trivial,by omega,by omega,by omega,by omega⟩
      case measure=>decide
    ·have hn:=hn2 (by omega);clear hn1 hn2 hn3 hn4;go_wp2_with fail
     ·refine (QcF _ _ _ (by omega) (by omega) (by omega)).mono ?_;rintro e w1 ⟨l,HL,hl,rfl,hb⟩;go_wp2_with fail;refine (QcF _ _ _ (by omega) (by omega) (by omega)).mono ?_;rintro e w2 ⟨m,HM,hm,rfl,hc⟩;go_wp2_with fail;go_ret;go_light;exact ⟨QbW (congrArg (fun l:List UInt8=>Value.string ⟨l.toArray⟩) (Qwg HL HM (by omega) (by omega))),hb.trans (hc.mono hb.size)⟩
     ·go_roundw
      case rel=>exact ⟨4,by omega,by omega,rfl,trivial,by omega,by omega,by omega,by omega⟩
      case measure=>decide
    ·have hn:=hn3 (by omega);clear hn1 hn2 hn3 hn4;go_wp2_with fail
     ·refine (QcF _ _ _ (by omega) (by omega) (by omega)).mono ?_;rintro e w1 ⟨l,HL,hl,rfl,hb⟩;go_wp2_with fail;refine (QcF _ _ _ (by omega) (by omega) (by omega)).mono ?_;rintro e w2 ⟨m,HM,hm,rfl,hc⟩;go_wp2_with fail;go_ret;go_light;exact ⟨QbW (congrArg (fun l:List UInt8=>Value.string ⟨l.toArray⟩) (Qwh HL HM (by omega) (by omega))),hb.trans (hc.mono hb.size)⟩
     ·go_roundw
      case rel=>exact ⟨5,by omega,by omega,rfl,trivial,by omega,by omega,by omega,by omega⟩
      case measure=>decide
    ·have hn:=hn4 (by omega);clear hn1 hn2 hn3 hn4;go_wp2_with fail;go_ret;go_light;exact ⟨QbW (Qg6 (b:=[]) (QnS (by omega))),Zb⟩
end
section
open Go.RowKit
attribute [local go_sem] Qc2 Qdd ByteArray.mk_append_mk QcO QcP
end
section
open Go.RowKit
attribute [local go_sem] Qc2 Qdd ByteArray.mk_append_mk QcO QcP
def Qbq:List UInt8->List UInt8×Nat×Nat
 | []=>([],0,4)
 | [c]=>if c.toNat=13 then ([],0,4) else ([],0,3)
 | c::d::r=>if c.toNat=13 then (if r.length<d.toNat then ([],0,4) else (r.take d.toNat,2+d.toNat,0)) else ([],0,3)
def Qwi (x:List UInt8×Nat×Nat):Value:=.tuple #[.string ⟨x.1.toArray⟩,.int .i64 x.2.1,.int .i64 x.2.2]
theorem QuB {x:List UInt8×Nat×Nat} {l:List UInt8} {b c:Int} (h:x=(l,b.toNat,c.toNat)) (hb:0<=b) (hc:0<=c):Ending.returned (.tuple #[.string ⟨l.toArray⟩,.int .i64 b,.int .i64 c]) = .returned (Qwi x):=by
 subst h;simp only [Qwi,Int.toNat_of_nonneg hb,Int.toNat_of_nonneg hc]
theorem Qrl (c:UInt8) (r:List UInt8) (h:((c.toNat:Int) != 13)=true):Qbq (c::r)=([],0,3):=by
 have h':¬ c.toNat=13:=by simp only [bne_iff_ne,ne_eq] at h;omega
 cases r<;>rw [Qbq,if_neg h']
theorem QnT (d:UInt8) (r:List UInt8) (h:(r.length:Int)<d.toNat):Qbq (13::d::r)=([],0,4):=by
 rw [Qbq,if_pos (by decide),if_pos (by omega)]
theorem QkA (d:UInt8) (r:List UInt8) (h:¬ (r.length:Int)<d.toNat):Qbq (13::d::r)=(r.take d.toNat,2+d.toNat,0):=by
 rw [Qbq,if_pos (by decide),if_neg (by omega)]
theorem Qpr (s:List UInt8) (w:World) (hm:s.length<=9223372036854775000) :
  Calls Tryz.prog 108 #[.string ⟨s.toArray⟩] w fun e w'=>e = .returned (Qwi (Qbq s))/\w=w':=by
 match s,hm with
 | [],hm =>
   go_enter Tryz.func108,Tryz.ntmps108;go_wp2_with fail;go_ret3;exact ⟨rfl,rfl⟩
 | c::r,hm =>
   simp only [List.length_cons] at hm;by_cases hc:c=13
   ·subst hc;cases r with
    | nil =>
      go_enter Tryz.func108,Tryz.ntmps108;go_wp2_with fail;go_ret3;exact ⟨rfl,rfl⟩
    | cons d r =>
      simp only [List.length_cons] at hm;have hd:=d.toNat_lt;by_cases hr:(r.length:Int)<d.toNat
      ·have HO:=Za (QnT d r hr);go_enter Tryz.func108,Tryz.ntmps108;go_wp2_with fail;go_ret3;exact ⟨by rw [HO.out];rfl,rfl⟩
      ·have HO:=Za (QkA d r hr);go_enter Tryz.func108,Tryz.ntmps108;go_wp2_with fail;go_ret3;exact ⟨by rw [HO.out];exact QuB (by simp only [Prod.mk.injEq,true_and];omega) (by omega) (by omega),rfl⟩
   ·have hc':((c.toNat:Int) != 13)=true:=by
     simp only [bne_iff_ne,ne_eq];intro h;apply hc;apply UInt8.toNat_inj.1;simpa using (by omega:c.toNat=13)
    have HO:=Za (Qrl c r hc');go_enter Tryz.func108,Tryz.ntmps108;go_wp2_with fail;go_ret3;exact ⟨by rw [HO.out];rfl,rfl⟩
def Qco (v:List UInt8):List UInt8:=13::UInt8.ofNat v.length::v
theorem QiV (b v:List UInt8) (w:World) (hb:b.length<=140737488355328) (hv:v.length<=255) :
  Calls Tryz.prog 83 #[.string ⟨b.toArray⟩,.string ⟨v.toArray⟩] w fun e w'=>e = .returned (.string ⟨(b++Qco v).toArray⟩)/\Below w.heap.size w w':=by
 go_enter Tryz.func83,Tryz.ntmps83;go_wp2_with fail;go_ret;exact ⟨rfl,Zb.alloc Zc _⟩
theorem QlL (v:List UInt8) (w:World) (hv:v.length<=255) :
  Calls Tryz.prog 90 #[.string ⟨v.toArray⟩] w fun e w'=>e = .returned (.string ⟨(Qco v).toArray⟩)/\Below w.heap.size w w':=by
 go_enter Tryz.func90,Tryz.ntmps90;go_wp2_with fail;refine (QcF _ _ _ (by omega) (by omega) (by omega)).mono ?_;rintro e w1 ⟨l,HL,hl,rfl,hb⟩;go_wp2_with fail;go_ret;have e:l=[UInt8.ofNat v.length]:=by rw [HL.out,Int.toNat_natCast,show Int.toNat 1=1 from rfl,Qed]
 exact ⟨by rw [e];rfl,hb⟩
theorem Ql9 (v t:List UInt8) (hv:v.length<=255):Qbq (Qco v++t)=(v,v.length+2,0):=by
 have hn:(UInt8.ofNat v.length).toNat=v.length:=by rw [UInt8.toNat_ofNat'];omega
 rw [Qco,List.cons_append,List.cons_append,QkA _ _ (by rw [hn,List.length_append];omega),hn];rw [List.take_append_of_le_length Zc,List.take_of_length_le Zc,Nat.add_comm]
end
end Go.Proofs.YtoohondkpddmcaaGreatDoor
