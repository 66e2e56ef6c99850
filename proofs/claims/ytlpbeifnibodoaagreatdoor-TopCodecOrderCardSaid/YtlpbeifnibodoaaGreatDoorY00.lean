/- Lemmas. Conditions: those of each. -/
import Derived.Below
set_option linter.all false
set_option maxRecDepth 100000
set_option maxHeartbeats 16000000
namespace Go.Proofs.YtlpbeifnibodoaaGreatDoor
open Go.RowKit
abbrev O3:=Exit→Act→World→Prop
abbrev O4:=List UInt8
abbrev O5:=List Value
abbrev O6:=Option Addr
theorem aa:type_of% @Nat.le_refl:=@Nat.le_refl
theorem ab:type_of% @List.length_append:=@List.length_append
theorem ae:type_of% @Go.RowKit.Below.refl:=@Go.RowKit.Below.refl
theorem ag:type_of% @List.getElem?_eq_getElem:=@List.getElem?_eq_getElem
theorem ah:type_of% @List.getElem?_eq_some_iff:=@List.getElem?_eq_some_iff
theorem ai:type_of% @if_neg:=@if_neg
theorem aj:type_of% @List.length_map:=@List.length_map
theorem ak:type_of% @Option.some.inj:=@Option.some.inj
theorem al:type_of% @Nat.le_trans:=@Nat.le_trans
theorem ao:type_of% @List.length_cons:=@List.length_cons
theorem aq:type_of% @if_pos:=@if_pos
theorem ar:type_of% @List.mem_cons_self:=@List.mem_cons_self
theorem au:type_of% @List.take_of_length_le:=@List.take_of_length_le
theorem av:type_of% @List.mem_cons_of_mem:=@List.mem_cons_of_mem
theorem aw:type_of% @List.mem_of_getElem?:=@List.mem_of_getElem?
theorem ax:type_of% @List.take_succ_cons:=@List.take_succ_cons
theorem ay:type_of% @List.getElem?_map:=@List.getElem?_map
theorem az:type_of% @List.append_assoc:=@List.append_assoc
theorem aA:type_of% @List.map_cons:=@List.map_cons
theorem aB:type_of% @Nat.lt_of_lt_of_le:=@Nat.lt_of_lt_of_le
theorem aC:type_of% @List.mem_cons:=@List.mem_cons
theorem aD:type_of% @List.getElem?_append_right:=@List.getElem?_append_right
theorem aE:type_of% @List.drop_succ_cons:=@List.drop_succ_cons
theorem aF:type_of% @List.map_append:=@List.map_append
theorem aG:type_of% @List.drop_zero:=@List.drop_zero
theorem aH:type_of% @List.length_take:=@List.length_take
theorem aJ:type_of% @List.mem_map:=@List.mem_map
theorem aK:type_of% @List.take_zero:=@List.take_zero
theorem aL:type_of% @List.getElem?_append_left:=@List.getElem?_append_left
theorem aM:type_of% @List.mem_append_left:=@List.mem_append_left
theorem aN:type_of% @congrArg:=@congrArg
theorem aP:type_of% @Nat.zero_le:=@Nat.zero_le
theorem aQ:type_of% @List.pairwise_cons:=@List.pairwise_cons
theorem aR:type_of% @List.eq_nil_of_length_eq_zero:=@List.eq_nil_of_length_eq_zero
theorem aS:type_of% @List.not_mem_nil:=@List.not_mem_nil
theorem aT:type_of% @List.take_add_one:=@List.take_add_one
theorem aU:type_of% @List.getElem?_cons_succ:=@List.getElem?_cons_succ
theorem aV:type_of% @decide_eq_true_eq:=@decide_eq_true_eq
theorem aW:type_of% @List.mem_append_right:=@List.mem_append_right
theorem aX:type_of% @beq_eq_false_iff_ne:=@beq_eq_false_iff_ne
theorem aY:type_of% @List.cons_append:=@List.cons_append
theorem aZ:type_of% @List.getElem?_take:=@List.getElem?_take
theorem bj:type_of% @List.flatMap_cons:=@List.flatMap_cons
theorem bm:type_of% @List.append_nil:=@List.append_nil
theorem bo:type_of% @List.getElem?_cons_zero:=@List.getElem?_cons_zero
theorem bp:type_of% @List.length_drop:=@List.length_drop
theorem br:type_of% @Bool.and_eq_true:=@Bool.and_eq_true
theorem bw:type_of% @of_decide_eq_true:=@of_decide_eq_true
theorem bz:type_of% @Nat.zero_add:=@Nat.zero_add
theorem bB:type_of% @List.take_append_drop:=@List.take_append_drop
theorem bC:type_of% @List.getElem?_drop:=@List.getElem?_drop
theorem bD:type_of% @List.mem_singleton:=@List.mem_singleton
theorem bE:type_of% @List.take_left':=@List.take_left'
theorem bF:type_of% @List.mem_map_of_mem:=@List.mem_map_of_mem
theorem bG:type_of% @Option.some.injEq:=@Option.some.injEq
theorem bH:type_of% @List.mem_append:=@List.mem_append
theorem bI:type_of% @List.mem_range:=@List.mem_range
theorem bJ:type_of% @List.drop_eq_getElem_cons:=@List.drop_eq_getElem_cons
theorem bK:type_of% @List.all_eq_true:=@List.all_eq_true
theorem bL:type_of% @List.mem_of_mem_take:=@List.mem_of_mem_take
theorem bM:type_of% @List.nil_append:=@List.nil_append
theorem bN:type_of% @List.drop_of_length_le:=@List.drop_of_length_le
theorem bO:type_of% @bne_iff_ne:=@bne_iff_ne
theorem bP:type_of% @List.map_take:=@List.map_take
theorem bQ:type_of% @Nat.lt_irrefl:=@Nat.lt_irrefl
theorem bR:type_of% @List.flatMap_append:=@List.flatMap_append
theorem bS:type_of% @List.map_map:=@List.map_map
theorem bT:type_of% @List.map_drop:=@List.map_drop
theorem bU:type_of% @Nat.add_sub_cancel_left:=@Nat.add_sub_cancel_left
theorem bV:type_of% @List.getElem?_eq_none:=@List.getElem?_eq_none
theorem bW:type_of% @List.mem_flatMap:=@List.mem_flatMap
theorem bX:type_of% @List.drop_left':=@List.drop_left'
theorem bY:type_of% @List.mem_of_mem_drop:=@List.mem_of_mem_drop
theorem bZ:type_of% @List.pairwise_append:=@List.pairwise_append
theorem cd:type_of% @decide_eq_false_iff_not:=@decide_eq_false_iff_not
theorem cf:type_of% @UInt8.lt_iff_toNat_lt:=@UInt8.lt_iff_toNat_lt
theorem cg:type_of% @Nat.eq_zero_or_pos:=@Nat.eq_zero_or_pos
theorem cj:type_of% @UInt8.toNat_ofNat':=@UInt8.toNat_ofNat'
theorem cq:type_of% @List.sum_cons:=@List.sum_cons
theorem cr:type_of% @List.mem_iff_getElem?:=@List.mem_iff_getElem?
theorem cw:type_of% @Nat.lt_or_ge:=@Nat.lt_or_ge
theorem cy:type_of% @Nat.add_assoc:=@Nat.add_assoc
theorem cz:type_of% @bne_eq_false_iff_eq:=@bne_eq_false_iff_eq
theorem cC:type_of% @List.pairwise_iff_getElem:=@List.pairwise_iff_getElem
theorem cD:type_of% @Option.map_some:=@Option.map_some
theorem cE:type_of% @List.sum_append:=@List.sum_append
theorem cF:type_of% @Array.length_toList:=@Array.length_toList
theorem cG:type_of% @List.filter_eq_self:=@List.filter_eq_self
theorem cH:type_of% @or_false:=@or_false
theorem cJ:type_of% @List.getElem?_set:=@List.getElem?_set
theorem cK:type_of% @Option.map_eq_some_iff:=@Option.map_eq_some_iff
theorem cL:type_of% @List.map_nil:=@List.map_nil
theorem cM:type_of% @Nat.sub_self:=@Nat.sub_self
theorem cN:type_of% @List.takeWhile_cons:=@List.takeWhile_cons
theorem cP:type_of% @List.length_singleton:=@List.length_singleton
theorem cQ:type_of% @List.getElem?_replicate:=@List.getElem?_replicate
theorem cR:type_of% @List.drop_drop:=@List.drop_drop
theorem cS:type_of% @Bool.false_eq_true:=@Bool.false_eq_true
theorem cU:type_of% @List.length_set:=@List.length_set
theorem cV:type_of% @Nat.pow_le_pow_right:=@Nat.pow_le_pow_right
theorem cW:type_of% @List.take_length:=@List.take_length
theorem cX:type_of% @List.take_append_of_le_length:=@List.take_append_of_le_length
theorem cY:type_of% @List.map_congr_left:=@List.map_congr_left
theorem cZ:type_of% @List.set_append_right:=@List.set_append_right
theorem dd:type_of% @decide_eq_true:=@decide_eq_true
theorem de:type_of% @List.count_cons:=@List.count_cons
theorem dg:type_of% @List.range_succ:=@List.range_succ
theorem dh:type_of% @List.drop_eq_nil_iff:=@List.drop_eq_nil_iff
theorem di:type_of% @List.count_append:=@List.count_append
theorem dj:type_of% @Classical.byContradiction:=@Classical.byContradiction
theorem dm:type_of% @List.append_inj:=@List.append_inj
theorem dp:type_of% @List.getElem?_zip_eq_some:=@List.getElem?_zip_eq_some
theorem dq:type_of% @Nat.min_eq_left:=@Nat.min_eq_left
theorem dr:type_of% @beq_iff_eq:=@beq_iff_eq
theorem dt:type_of% @Nat.le_of_eq:=@Nat.le_of_eq
theorem du:type_of% @Nat.le_of_lt:=@Nat.le_of_lt
theorem dw:type_of% @Nat.min_self:=@Nat.min_self
theorem dB:type_of% @Nat.mul_comm:=@Nat.mul_comm
theorem dC:type_of% @List.length_zip:=@List.length_zip
theorem dD:type_of% @decide_eq_false:=@decide_eq_false
theorem dE:type_of% @List.flatten_append:=@List.flatten_append
theorem dF:type_of% @List.drop_eq_nil_of_le:=@List.drop_eq_nil_of_le
theorem dG:type_of% @Nat.mul_one:=@Nat.mul_one
theorem dH:type_of% @Array.getElem?_eq_some_iff:=@Array.getElem?_eq_some_iff
theorem dI:type_of% @Nat.mod_lt:=@Nat.mod_lt
theorem dJ:type_of% @Prod.mk.injEq:=@Prod.mk.injEq
theorem dK:type_of% @List.getElem_mem:=@List.getElem_mem
theorem dL:type_of% @Bool.false_and:=@Bool.false_and
theorem dM:type_of% @List.mem_of_find?_eq_some:=@List.mem_of_find?_eq_some
theorem dN:type_of% @Nat.mul_le_mul_right:=@Nat.mul_le_mul_right
theorem dP:type_of% @Nat.pow_succ:=@Nat.pow_succ
theorem dQ:type_of% @UInt8.toNat_inj:=@UInt8.toNat_inj
theorem dR:type_of% @Int.lt_trichotomy:=@Int.lt_trichotomy
theorem dS:type_of% @List.ext_getElem?:=@List.ext_getElem?
theorem dU:type_of% @Nat.le_add_right:=@Nat.le_add_right
theorem dV:type_of% @Int.natCast_nonneg:=@Int.natCast_nonneg
theorem dW:type_of% @List.getElem?_concat_length:=@List.getElem?_concat_length
theorem dX:type_of% @Nat.add_zero:=@Nat.add_zero
theorem dY:type_of% @Nat.lt_or_eq_of_le:=@Nat.lt_or_eq_of_le
theorem dZ:type_of% @Int.tmod_eq_emod_of_nonneg:=@Int.tmod_eq_emod_of_nonneg
theorem ee:type_of% @List.getD_eq_getElem?_getD:=@List.getD_eq_getElem?_getD
theorem ef:type_of% @Nat.lt_trichotomy:=@Nat.lt_trichotomy
theorem ej:type_of% @BitVec.ofInt_natCast:=@BitVec.ofInt_natCast
theorem er:type_of% @List.insertIdx_succ_cons:=@List.insertIdx_succ_cons
theorem et:type_of% @Nat.add_comm:=@Nat.add_comm
theorem eu:type_of% @Nat.zero_mul:=@Nat.zero_mul
theorem ew:type_of% @List.length_reverse:=@List.length_reverse
theorem ey:type_of% @BitVec.eq_of_getLsbD_eq:=@BitVec.eq_of_getLsbD_eq
theorem eG:type_of% @Bool.false_or:=@Bool.false_or
theorem eH:type_of% @Bool.or_eq_true:=@Bool.or_eq_true
theorem eJ:type_of% @List.find?_cons:=@List.find?_cons
theorem eM:type_of% @List.find?_eq_none:=@List.find?_eq_none
theorem eO:type_of% @Option.toList_some:=@Option.toList_some
theorem eQ:type_of% @List.map_id:=@List.map_id
theorem eS:type_of% @Int.toNat_natCast:=@Int.toNat_natCast
theorem eT:type_of% @List.pairwise_map:=@List.pairwise_map
theorem eU:type_of% @dif_pos:=@dif_pos
theorem eW:type_of% @List.filter_cons:=@List.filter_cons
theorem eY:type_of% @List.getElem_map:=@List.getElem_map
theorem eZ:type_of% @List.map_toArray:=@List.map_toArray
theorem fa:type_of% @Bool.true_and:=@Bool.true_and
theorem fe:type_of% @List.cons.inj:=@List.cons.inj
namespace Crc
def Is:BitVec 32:=0x82f63b78#32
def sh(r:BitVec 32):BitVec 32:=if r.getLsbD 0 then(r>>>1)^^^Is else r>>>1
def xU:Nat→BitVec 32→BitVec 32|0,r=>r|n+1,r=>xU n (sh r)
def wide(b:UInt8):BitVec 32:=b.toBitVec.setWidth 32
def EM(r:BitVec 32)(b:UInt8):BitVec 32:=xU 8 (r^^^wide b)
def run(r:BitVec 32)(l:O4):BitVec 32:=l.foldl EM r
def uF(s:BitVec 32)(l:O4):BitVec 32:= ~~~run (~~~s) l
def Jy(l:O4):BitVec 32:=uF 0#32 l
theorem Ia(r:BitVec 32)(l:O4)(b:UInt8):run r (l++[b])=EM (run r l) b:=by simp[run]
theorem LZ(a b:BitVec 32)(i:Nat):(a^^^b).getLsbD i=(a.getLsbD i !=b.getLsbD i):=by simp
theorem MB(a b:BitVec 32):sh (a^^^b)=sh a^^^sh b:=by unfold sh;rw[LZ];rw[show(a^^^b)>>>1=(a>>>1)^^^(b>>>1)from by apply ey;intro i c;simp];generalize a>>>1=x;generalize b>>>1=y;cases a.getLsbD 0<;>cases b.getLsbD 0;{simp};{simp[BitVec.xor_assoc]};{simp;ac_rfl};{simp only[bne_self_eq_false,cS,if_false,if_true];rw[show x^^^Is^^^(y^^^Is)=x^^^y^^^(Is^^^Is)from by ac_rfl];simp}
theorem Ks(n:Nat):∀a b:BitVec 32,xU n (a^^^b)=xU n a^^^xU n b:=by induction n with|zero=>intro a b;rfl|succ n c=>intro a b;simp only[xU];rw[MB,c]
theorem Kt(m n:Nat):∀r,xU (m+n) r=xU n (xU m r):=by induction m with|zero=>intro r;simp[xU]|succ m a=>intro r;rw[show m+1+n=(m+n)+1 from by omega];simp only[xU];exact a _
def Oc:List (BitVec 32):=[0x00000000#32,0x105ec76f#32,0x20bd8ede#32,0x30e349b1#32,0x417b1dbc#32,0x5125dad3#32,0x61c69362#32,0x7198540d#32,0x82f63b78#32,0x92a8fc17#32,0xa24bb5a6#32,0xb21572c9#32,0xc38d26c4#32,0xd3d3e1ab#32,0xe330a81a#32,0xf36e6f75#32]
def vC(i:BitVec 32):BitVec 32:=Oc.getD i.toNat 0#32
theorem uP(r:BitVec 32)(h:r.getLsbD 0=false):sh r=r>>>1:=by unfold sh;rw[h];rfl
theorem four(r:BitVec 32)(h:∀i,i<4→r.getLsbD i=false):xU 4 r=r>>>4:=by have a:=h 0 (by omega);have b:=h 1 (by omega);have c:=h 2 (by omega);have d:=h 3 (by omega);simp only[xU];rw[uP r a];rw[uP (r>>>1) (by simpa using b)];rw[uP (r>>>1>>>1) (by simpa using c)];rw[uP (r>>>1>>>1>>>1) (by simpa using d)];apply ey;intro i e;simp only[BitVec.getLsbD_ushiftRight];congr 1;omega
theorem Ld:∀n:Fin 16,xU 4 (BitVec.ofNat 32 n.1)=vC (BitVec.ofNat 32 n.1):=by decide+kernel
theorem IN(i:Nat):(15#32).getLsbD i=decide (i<4):=by by_cases h:i<32;{(have:∀j:Fin 32,(15#32).getLsbD j.1=decide (j.1<4):=by decide);exact this ⟨i,h⟩};{rw[BitVec.getLsbD_of_ge _ _ (by omega)];simp;omega}
theorem IF(r:BitVec 32):(r>>>4)^^^vC (r&&&15#32)=xU 4 r:=by (have c:r=(r&&& ~~~15#32)^^^(r&&&15#32):=by apply ey;intro i a;simp only[BitVec.getLsbD_xor,BitVec.getLsbD_and,BitVec.getLsbD_not,a,decide_true,fa];cases r.getLsbD i<;>cases(15#32).getLsbD i<;>rfl);(have e:xU 4 r=xU 4 (r&&& ~~~15#32)^^^xU 4 (r&&&15#32):=by have:=Ks 4 (r&&& ~~~15#32) (r&&&15#32);rw[←c]at this;exact this);rw[e,four];{(have b:(r&&&15#32).toNat<16:=by rw[BitVec.toNat_and];exact Nat.lt_of_le_of_lt Nat.and_le_right (by decide));have:=Ld ⟨(r&&&15#32).toNat,b⟩;simp only[BitVec.ofNat_toNat,BitVec.setWidth_eq]at this;rw[this];congr 1;apply ey;intro i a;simp only[BitVec.getLsbD_ushiftRight,BitVec.getLsbD_and,BitVec.getLsbD_not,IN];by_cases h:4+i<32;{simp[h]};{rw[BitVec.getLsbD_of_ge r _ (by omega)];simp}};{intro i a;simp only[BitVec.getLsbD_and,BitVec.getLsbD_not,IN];simp[a]}
theorem JH(r:BitVec 32)(b:UInt8):let x:=r^^^wide b;let y:=(x>>>4)^^^vC (x&&&15#32);(y>>>4)^^^vC (y&&&15#32)=EM r b:=by intro x y;show(y>>>4)^^^vC (y&&&15#32)=xU 8 x;rw[IF,show y=xU 4 x from IF x,←Kt]
def G8(n:Nat):O4:=List.replicate n 0
def flip(c:O4)(j:Nat):O4:=c.modify (j/8) (· ^^^(⟨1#8<<<(j%8)⟩:UInt8))
end Crc
def qu(s:BitVec 32)(k:Nat):UInt8:=⟨(s>>>(8*k)).setWidth 8⟩
def jK(s:BitVec 32):O4:=[qu s 0,qu s 1,qu s 2,qu s 3]
def ll(l:O4):O4:=l++jK (Crc.Jy l)
theorem pQ(s:BitVec 32)(k:Nat)(a:k<4):(jK s)[k]? =some (qu s k):=by match k,a with|0,_=>rfl|1,_=>rfl|2,_=>rfl|3,_=>rfl
theorem su(s:BitVec 32):(jK s).length=4:=rfl
theorem oU(l:O4):(ll l).length=l.length+4:=by simp[ll,su]
def le:Nat→Nat→O4|0,_=>[]|n+1,v=>UInt8.ofNat v::le n (v/256)
def num:O4→Nat|[]=>0|b::l=>b.toNat+256*num l
@[simp] theorem MO:∀n v,(le n v).length=n|0,_=>rfl|n+1,v=>by simp[le,MO n]
theorem Mf:∀n v i,i<n→(le n v)[i]? =some (UInt8.ofNat (v/256^i))|0,_,_,h=>absurd h (Nat.not_lt_zero _)|n+1,v,0,_=>by simp[le]|n+1,v,i+1,h=>by simp only[le,aU];rw[Mf n _ i (by omega),Nat.div_div_eq_div_mul,dP,dB 256]
theorem uV:∀k n v,k≤n→(le n v).take k=le k v|0,_,_,_=>by simp[le]|k+1,0,_,h=>absurd h (by omega)|k+1,n+1,v,h=>by simp[le,uV k n _ (by omega)]
theorem wF:∀l:O4,num l<256^l.length|[]=>by simp[num]|b::l=>by have:=wF l;have a:=b.toNat_lt;simp only[num,ao,dP];omega
theorem wG:∀n v,v<256^n→num (le n v)=v|0,v,h=>by simp at h;simp[le,num,h]|n+1,v,h=>by rw[le,num,wG n _ (by rw[dP]at h;omega)];simp;omega
theorem ID(l:O4)(b:UInt8):num (l++[b])=num l+256^l.length*b.toNat:=by induction l with|nil=>simp[num]|cons a l c=>simp only[aY,num,c,ao,dP,Nat.mul_add];rw[←Nat.mul_assoc,dB 256 (256^l.length)];omega
def fX(id stamp kind:Nat)(body:O4):O4:=[79,80,71,49]++le 4 id++le 8 stamp++[UInt8.ofNat kind,0]++le 2 body.length++body++List.replicate (1000-body.length) 0
def ik(id stamp kind:Nat)(body:O4):O4:=ll (fX id stamp kind body)
theorem nM{id stamp kind:Nat}{body:O4}(h:body.length≤1000):(fX id stamp kind body).length=1020:=by simp[fX];omega
def Nh(id kind:Int)(n:Nat):Int:=if id<0∨2147483647<id then 3 else if kind<0∨255<kind then 2 else if 1000<n then 13 else 0
structure Mp where
 (id stamp kind:Nat) (body:O4) (err:Int)
def js(d:O4):Mp:=let n:=num ((d.drop 18).take 2);let id:=num ((d.drop 4).take 4);if d.take 4=[79,80,71,49]∧id≤2147483647∧d[17]? =some 0∧n≤1000∧(d.drop (20+n)).all (· ==0)=true then ⟨id,num ((d.drop 8).take 8),(d.getD 16 0).toNat,(d.drop 20).take n,0⟩ else⟨0,0,0,[],15⟩
def gZ(b:O4):Mp:=if b.length≠1024 then⟨0,0,0,[],15⟩ else if b.drop 1020=jK (Crc.Jy (b.take 1020))then js (b.take 1020) else⟨0,0,0,[],29⟩
end Go.Proofs.YtlpbeifnibodoaaGreatDoor
