/- Lemmas. Conditions: those of each. -/
import Derived.Below
set_option linter.all false
set_option maxRecDepth 100000
set_option maxHeartbeats 16000000
namespace Go.Proofs.YtlpbeifnibodoaaGreatDoor
open Go.RowKit
abbrev Qe:=Exit→Act→World→Prop
abbrev Qf:=List UInt8
abbrev Qg:=List Value
abbrev Qh:=Option Addr
theorem aa:type_of% @Nat.le_refl:=@Nat.le_refl
theorem ab:type_of% @Go.RowKit.Below.refl:=@Go.RowKit.Below.refl
theorem ae:type_of% @List.length_append:=@List.length_append
theorem ag:type_of% @List.getElem?_eq_getElem:=@List.getElem?_eq_getElem
theorem ah:type_of% @List.getElem?_eq_some_iff:=@List.getElem?_eq_some_iff
theorem ai:type_of% @Option.some.inj:=@Option.some.inj
theorem aj:type_of% @if_neg:=@if_neg
theorem ak:type_of% @List.length_map:=@List.length_map
theorem al:type_of% @Nat.le_trans:=@Nat.le_trans
theorem ao:type_of% @List.length_cons:=@List.length_cons
theorem aq:type_of% @if_pos:=@if_pos
theorem ar:type_of% @List.take_of_length_le:=@List.take_of_length_le
theorem au:type_of% @List.getElem?_map:=@List.getElem?_map
theorem av:type_of% @List.mem_cons_self:=@List.mem_cons_self
theorem aw:type_of% @List.take_succ_cons:=@List.take_succ_cons
theorem ax:type_of% @List.mem_cons_of_mem:=@List.mem_cons_of_mem
theorem ay:type_of% @List.mem_of_getElem?:=@List.mem_of_getElem?
theorem az:type_of% @List.map_cons:=@List.map_cons
theorem aB:type_of% @List.append_assoc:=@List.append_assoc
theorem aC:type_of% @List.drop_succ_cons:=@List.drop_succ_cons
theorem aD:type_of% @List.map_append:=@List.map_append
theorem aE:type_of% @List.getElem?_append_right:=@List.getElem?_append_right
theorem aF:type_of% @Nat.lt_of_lt_of_le:=@Nat.lt_of_lt_of_le
theorem aG:type_of% @List.mem_cons:=@List.mem_cons
theorem aH:type_of% @List.drop_zero:=@List.drop_zero
theorem aJ:type_of% @List.take_zero:=@List.take_zero
theorem aK:type_of% @List.length_take:=@List.length_take
theorem aL:type_of% @List.mem_map:=@List.mem_map
theorem aM:type_of% @List.getElem?_append_left:=@List.getElem?_append_left
theorem aN:type_of% @List.mem_append_left:=@List.mem_append_left
theorem aP:type_of% @Nat.zero_le:=@Nat.zero_le
theorem aQ:type_of% @List.take_add_one:=@List.take_add_one
theorem aR:type_of% @List.not_mem_nil:=@List.not_mem_nil
theorem aS:type_of% @beq_eq_false_iff_ne:=@beq_eq_false_iff_ne
theorem aT:type_of% @congrArg:=@congrArg
theorem aU:type_of% @List.getElem?_cons_succ:=@List.getElem?_cons_succ
theorem aV:type_of% @List.pairwise_cons:=@List.pairwise_cons
theorem aW:type_of% @List.eq_nil_of_length_eq_zero:=@List.eq_nil_of_length_eq_zero
theorem aX:type_of% @decide_eq_true_eq:=@decide_eq_true_eq
theorem aY:type_of% @List.mem_append_right:=@List.mem_append_right
theorem aZ:type_of% @List.flatMap_cons:=@List.flatMap_cons
theorem bj:type_of% @List.append_nil:=@List.append_nil
theorem bm:type_of% @List.cons_append:=@List.cons_append
theorem bo:type_of% @List.getElem?_take:=@List.getElem?_take
theorem bp:type_of% @of_decide_eq_true:=@of_decide_eq_true
theorem bw:type_of% @List.getElem?_cons_zero:=@List.getElem?_cons_zero
theorem bz:type_of% @List.getElem?_eq_none:=@List.getElem?_eq_none
theorem bC:type_of% @Bool.and_eq_true:=@Bool.and_eq_true
theorem bD:type_of% @Nat.zero_add:=@Nat.zero_add
theorem bE:type_of% @List.take_append_drop:=@List.take_append_drop
theorem bF:type_of% @List.mem_of_mem_take:=@List.mem_of_mem_take
theorem bH:type_of% @List.mem_append:=@List.mem_append
theorem bI:type_of% @List.length_drop:=@List.length_drop
theorem bJ:type_of% @Option.some.injEq:=@Option.some.injEq
theorem bK:type_of% @List.take_left':=@List.take_left'
theorem bL:type_of% @List.drop_eq_getElem_cons:=@List.drop_eq_getElem_cons
theorem bM:type_of% @List.mem_map_of_mem:=@List.mem_map_of_mem
theorem bN:type_of% @List.getElem?_drop:=@List.getElem?_drop
theorem bP:type_of% @List.mem_range:=@List.mem_range
theorem bQ:type_of% @List.all_eq_true:=@List.all_eq_true
theorem bR:type_of% @bne_iff_ne:=@bne_iff_ne
theorem bS:type_of% @List.drop_of_length_le:=@List.drop_of_length_le
theorem bT:type_of% @List.sum_cons:=@List.sum_cons
theorem bU:type_of% @List.nil_append:=@List.nil_append
theorem bV:type_of% @List.flatMap_append:=@List.flatMap_append
theorem bW:type_of% @List.map_drop:=@List.map_drop
theorem bX:type_of% @List.mem_flatMap:=@List.mem_flatMap
theorem bY:type_of% @List.map_map:=@List.map_map
theorem bZ:type_of% @decide_eq_false:=@decide_eq_false
theorem ca:type_of% @List.map_take:=@List.map_take
theorem cd:type_of% @List.mem_singleton:=@List.mem_singleton
theorem cg:type_of% @Nat.lt_irrefl:=@Nat.lt_irrefl
theorem cj:type_of% @Option.map_eq_some_iff:=@Option.map_eq_some_iff
theorem cq:type_of% @List.drop_left':=@List.drop_left'
theorem cr:type_of% @List.mem_of_mem_drop:=@List.mem_of_mem_drop
theorem cw:type_of% @List.pairwise_append:=@List.pairwise_append
theorem cx:type_of% @decide_eq_true:=@decide_eq_true
theorem cy:type_of% @Nat.add_sub_cancel_left:=@Nat.add_sub_cancel_left
theorem cz:type_of% @List.mem_iff_getElem?:=@List.mem_iff_getElem?
theorem cC:type_of% @UInt8.lt_iff_toNat_lt:=@UInt8.lt_iff_toNat_lt
theorem cD:type_of% @Option.map_some:=@Option.map_some
theorem cE:type_of% @UInt8.toNat_ofNat':=@UInt8.toNat_ofNat'
theorem cF:type_of% @Nat.lt_or_ge:=@Nat.lt_or_ge
theorem cG:type_of% @Nat.eq_zero_or_pos:=@Nat.eq_zero_or_pos
theorem cH:type_of% @Nat.add_assoc:=@Nat.add_assoc
theorem cJ:type_of% @List.getElem?_set:=@List.getElem?_set
theorem cK:type_of% @List.getD_eq_getElem?_getD:=@List.getD_eq_getElem?_getD
theorem cL:type_of% @decide_eq_false_iff_not:=@decide_eq_false_iff_not
theorem cM:type_of% @bne_eq_false_iff_eq:=@bne_eq_false_iff_eq
theorem cN:type_of% @List.sum_append:=@List.sum_append
theorem cP:type_of% @List.map_nil:=@List.map_nil
theorem cQ:type_of% @Int.tmod_eq_emod_of_nonneg:=@Int.tmod_eq_emod_of_nonneg
theorem cR:type_of% @or_false:=@or_false
theorem cS:type_of% @List.take_append_of_le_length:=@List.take_append_of_le_length
theorem cU:type_of% @List.pairwise_iff_getElem:=@List.pairwise_iff_getElem
theorem cV:type_of% @List.take_length:=@List.take_length
theorem cW:type_of% @Nat.sub_self:=@Nat.sub_self
theorem cX:type_of% @List.filter_eq_self:=@List.filter_eq_self
theorem cY:type_of% @List.map_congr_left:=@List.map_congr_left
theorem cZ:type_of% @List.takeWhile_cons:=@List.takeWhile_cons
theorem dd:type_of% @List.length_singleton:=@List.length_singleton
theorem de:type_of% @List.getElem?_replicate:=@List.getElem?_replicate
theorem dh:type_of% @Bool.false_eq_true:=@Bool.false_eq_true
theorem di:type_of% @Nat.pow_le_pow_right:=@Nat.pow_le_pow_right
theorem dj:type_of% @Array.length_toList:=@Array.length_toList
theorem dm:type_of% @beq_iff_eq:=@beq_iff_eq
theorem dp:type_of% @List.set_append_right:=@List.set_append_right
theorem dq:type_of% @List.count_cons:=@List.count_cons
theorem dr:type_of% @List.range_succ:=@List.range_succ
theorem dt:type_of% @Nat.min_eq_left:=@Nat.min_eq_left
theorem du:type_of% @Nat.le_add_right:=@Nat.le_add_right
theorem dw:type_of% @Nat.mod_lt:=@Nat.mod_lt
theorem dB:type_of% @Array.getElem?_eq_some_iff:=@Array.getElem?_eq_some_iff
theorem dC:type_of% @Prod.mk.injEq:=@Prod.mk.injEq
theorem dD:type_of% @List.count_append:=@List.count_append
theorem dE:type_of% @List.ext_getElem?:=@List.ext_getElem?
theorem dF:type_of% @Classical.byContradiction:=@Classical.byContradiction
theorem dG:type_of% @List.append_inj:=@List.append_inj
theorem dH:type_of% @List.length_set:=@List.length_set
theorem dI:type_of% @Nat.le_of_lt:=@Nat.le_of_lt
theorem dJ:type_of% @Nat.min_self:=@Nat.min_self
theorem dK:type_of% @Nat.mul_comm:=@Nat.mul_comm
theorem dL:type_of% @Option.toList_some:=@Option.toList_some
theorem dM:type_of% @Nat.mul_le_mul_right:=@Nat.mul_le_mul_right
theorem dN:type_of% @List.flatten_append:=@List.flatten_append
theorem dP:type_of% @List.length_reverse:=@List.length_reverse
theorem dQ:type_of% @List.drop_eq_nil_of_le:=@List.drop_eq_nil_of_le
theorem dR:type_of% @Nat.mul_one:=@Nat.mul_one
theorem dS:type_of% @Nat.pow_succ:=@Nat.pow_succ
theorem dU:type_of% @List.getElem_mem:=@List.getElem_mem
theorem dV:type_of% @Bool.false_and:=@Bool.false_and
theorem dW:type_of% @List.drop_drop:=@List.drop_drop
theorem dX:type_of% @List.getElem?_zip_eq_some:=@List.getElem?_zip_eq_some
theorem dY:type_of% @List.mem_of_find?_eq_some:=@List.mem_of_find?_eq_some
theorem dZ:type_of% @List.length_zip:=@List.length_zip
theorem ed:type_of% @UInt8.toNat_inj:=@UInt8.toNat_inj
theorem ee:type_of% @Int.lt_trichotomy:=@Int.lt_trichotomy
theorem ef:type_of% @Int.natCast_nonneg:=@Int.natCast_nonneg
theorem eh:type_of% @List.countP_append:=@List.countP_append
theorem ej:type_of% @List.getElem?_concat_length:=@List.getElem?_concat_length
theorem er:type_of% @Nat.add_zero:=@Nat.add_zero
theorem et:type_of% @Nat.lt_or_eq_of_le:=@Nat.lt_or_eq_of_le
theorem eu:type_of% @List.find?_cons:=@List.find?_cons
theorem ew:type_of% @List.foldl_cons:=@List.foldl_cons
theorem ey:type_of% @List.mem_filter:=@List.mem_filter
theorem eG:type_of% @List.reverse_cons:=@List.reverse_cons
theorem eH:type_of% @BitVec.ofInt_natCast:=@BitVec.ofInt_natCast
theorem eJ:type_of% @List.insertIdx_succ_cons:=@List.insertIdx_succ_cons
theorem eM:type_of% @Nat.add_comm:=@Nat.add_comm
theorem eO:type_of% @Nat.le_of_eq:=@Nat.le_of_eq
theorem eQ:type_of% @BitVec.eq_of_getLsbD_eq:=@BitVec.eq_of_getLsbD_eq
theorem eS:type_of% @Bool.false_or:=@Bool.false_or
theorem eT:type_of% @Bool.or_eq_true:=@Bool.or_eq_true
theorem eU:type_of% @List.find?_eq_none:=@List.find?_eq_none
theorem eW:type_of% @List.map_id:=@List.map_id
theorem eY:type_of% @Bool.not_eq_true':=@Bool.not_eq_true'
theorem eZ:type_of% @Int.toNat_natCast:=@Int.toNat_natCast
theorem fa:type_of% @List.foldl_append:=@List.foldl_append
theorem fc:type_of% @List.take_sublist:=@List.take_sublist
theorem fe:type_of% @Nat.lt_trichotomy:=@Nat.lt_trichotomy
theorem fg:type_of% @Nat.zero_mul:=@Nat.zero_mul
theorem fh:type_of% @dif_pos:=@dif_pos
theorem fk:type_of% @List.filter_cons:=@List.filter_cons
theorem fm:type_of% @List.getElem_map:=@List.getElem_map
theorem fo:type_of% @List.map_toArray:=@List.map_toArray
theorem fp:type_of% @Nat.lt_succ_self:=@Nat.lt_succ_self
theorem fq:type_of% @Bool.true_and:=@Bool.true_and
theorem ft:type_of% @List.cons.inj:=@List.cons.inj
theorem fu:type_of% @Prod.mk.inj:=@Prod.mk.inj
namespace Crc
def J5:BitVec 32:=0x82f63b78#32
def sh(r:BitVec 32):BitVec 32:=if r.getLsbD 0 then(r>>>1)^^^J5 else r>>>1
def zx:Nat→BitVec 32→BitVec 32|0,r=>r|n+1,r=>zx n (sh r)
def wide(b:UInt8):BitVec 32:=b.toBitVec.setWidth 32
def Gt(r:BitVec 32)(b:UInt8):BitVec 32:=zx 8 (r^^^wide b)
def run(r:BitVec 32)(l:Qf):BitVec 32:=l.foldl Gt r
def uG(s:BitVec 32)(l:Qf):BitVec 32:= ~~~run (~~~s) l
def Ls(l:Qf):BitVec 32:=uG 0#32 l
theorem JT(r:BitVec 32)(l:Qf)(b:UInt8):run r (l++[b])=Gt (run r l) b:=by simp[run]
theorem Ng(a b:BitVec 32)(i:Nat):(a^^^b).getLsbD i=(a.getLsbD i !=b.getLsbD i):=by simp
theorem NS(a b:BitVec 32):sh (a^^^b)=sh a^^^sh b:=by unfold sh;rw[Ng];rw[show(a^^^b)>>>1=(a>>>1)^^^(b>>>1)from by apply eQ;intro i c;simp];generalize a>>>1=x;generalize b>>>1=y;cases a.getLsbD 0<;>cases b.getLsbD 0;{simp};{simp[BitVec.xor_assoc]};{simp;ac_rfl};{simp only[bne_self_eq_false,dh,if_false,if_true];rw[show x^^^J5^^^(y^^^J5)=x^^^y^^^(J5^^^J5)from by ac_rfl];simp}
theorem Mk(n:Nat):∀a b:BitVec 32,zx n (a^^^b)=zx n a^^^zx n b:=by induction n with|zero=>intro a b;rfl|succ n c=>intro a b;simp only[zx];rw[NS,c]
theorem Ml(m n:Nat):∀r,zx (m+n) r=zx n (zx m r):=by induction m with|zero=>intro r;simp[zx]|succ m a=>intro r;rw[show m+1+n=(m+n)+1 from by omega];simp only[zx];exact a _
def Pr:List (BitVec 32):=[0x00000000#32,0x105ec76f#32,0x20bd8ede#32,0x30e349b1#32,0x417b1dbc#32,0x5125dad3#32,0x61c69362#32,0x7198540d#32,0x82f63b78#32,0x92a8fc17#32,0xa24bb5a6#32,0xb21572c9#32,0xc38d26c4#32,0xd3d3e1ab#32,0xe330a81a#32,0xf36e6f75#32]
def xy(i:BitVec 32):BitVec 32:=Pr.getD i.toNat 0#32
theorem wu(r:BitVec 32)(h:r.getLsbD 0=false):sh r=r>>>1:=by unfold sh;rw[h];rfl
theorem four(r:BitVec 32)(h:∀i,i<4→r.getLsbD i=false):zx 4 r=r>>>4:=by have a:=h 0 (by omega);have b:=h 1 (by omega);have c:=h 2 (by omega);have d:=h 3 (by omega);simp only[zx];rw[wu r a];rw[wu (r>>>1) (by simpa using b)];rw[wu (r>>>1>>>1) (by simpa using c)];rw[wu (r>>>1>>>1>>>1) (by simpa using d)];apply eQ;intro i e;simp only[BitVec.getLsbD_ushiftRight];congr 1;omega
theorem ME:∀n:Fin 16,zx 4 (BitVec.ofNat 32 n.1)=xy (BitVec.ofNat 32 n.1):=by decide+kernel
theorem Kv(i:Nat):(15#32).getLsbD i=decide (i<4):=by by_cases h:i<32;{(have:∀j:Fin 32,(15#32).getLsbD j.1=decide (j.1<4):=by decide);exact this ⟨i,h⟩};{rw[BitVec.getLsbD_of_ge _ _ (by omega)];simp;omega}
theorem Km(r:BitVec 32):(r>>>4)^^^xy (r&&&15#32)=zx 4 r:=by (have c:r=(r&&& ~~~15#32)^^^(r&&&15#32):=by apply eQ;intro i a;simp only[BitVec.getLsbD_xor,BitVec.getLsbD_and,BitVec.getLsbD_not,a,decide_true,fq];cases r.getLsbD i<;>cases(15#32).getLsbD i<;>rfl);(have e:zx 4 r=zx 4 (r&&& ~~~15#32)^^^zx 4 (r&&&15#32):=by have:=Mk 4 (r&&& ~~~15#32) (r&&&15#32);rw[←c]at this;exact this);rw[e,four];{(have b:(r&&&15#32).toNat<16:=by rw[BitVec.toNat_and];exact Nat.lt_of_le_of_lt Nat.and_le_right (by decide));have:=ME ⟨(r&&&15#32).toNat,b⟩;simp only[BitVec.ofNat_toNat,BitVec.setWidth_eq]at this;rw[this];congr 1;apply eQ;intro i a;simp only[BitVec.getLsbD_ushiftRight,BitVec.getLsbD_and,BitVec.getLsbD_not,Kv];by_cases h:4+i<32;{simp[h]};{rw[BitVec.getLsbD_of_ge r _ (by omega)];simp}};{intro i a;simp only[BitVec.getLsbD_and,BitVec.getLsbD_not,Kv];simp[a]}
theorem Lx(r:BitVec 32)(b:UInt8):let x:=r^^^wide b;let y:=(x>>>4)^^^xy (x&&&15#32);(y>>>4)^^^xy (y&&&15#32)=Gt r b:=by intro x y;show(y>>>4)^^^xy (y&&&15#32)=zx 8 x;rw[Km,show y=zx 4 x from Km x,←Ml]
def Jm(n:Nat):Qf:=List.replicate n 0
def flip(c:Qf)(j:Nat):Qf:=c.modify (j/8) (· ^^^(⟨1#8<<<(j%8)⟩:UInt8))
end Crc
def rS(s:BitVec 32)(k:Nat):UInt8:=⟨(s>>>(8*k)).setWidth 8⟩
def kL(s:BitVec 32):Qf:=[rS s 0,rS s 1,rS s 2,rS s 3]
def ml(l:Qf):Qf:=l++kL (Crc.Ls l)
theorem rq(s:BitVec 32)(k:Nat)(a:k<4):(kL s)[k]? =some (rS s k):=by match k,a with|0,_=>rfl|1,_=>rfl|2,_=>rfl|3,_=>rfl
theorem tN(s:BitVec 32):(kL s).length=4:=rfl
theorem qp(l:Qf):(ml l).length=l.length+4:=by simp[ml,tN]
def le:Nat→Nat→Qf|0,_=>[]|n+1,v=>UInt8.ofNat v::le n (v/256)
def num:Qf→Nat|[]=>0|b::l=>b.toNat+256*num l
@[simp] theorem N9:∀n v,(le n v).length=n|0,_=>rfl|n+1,v=>by simp[le,N9 n]
theorem Nw:∀n v i,i<n→(le n v)[i]? =some (UInt8.ofNat (v/256^i))|0,_,_,h=>absurd h (Nat.not_lt_zero _)|n+1,v,0,_=>by simp[le]|n+1,v,i+1,h=>by simp only[le,aU];rw[Nw n _ i (by omega),Nat.div_div_eq_div_mul,dS,dK 256]
theorem wM:∀k n v,k≤n→(le n v).take k=le k v|0,_,_,_=>by simp[le]|k+1,0,_,h=>absurd h (by omega)|k+1,n+1,v,h=>by simp[le,wM k n _ (by omega)]
theorem yj:∀l:Qf,num l<256^l.length|[]=>by simp[num]|b::l=>by have:=yj l;have a:=b.toNat_lt;simp only[num,ao,dS];omega
theorem yk:∀n v,v<256^n→num (le n v)=v|0,v,h=>by simp at h;simp[le,num,h]|n+1,v,h=>by rw[le,num,yk n _ (by rw[dS]at h;omega)];simp;omega
theorem Kk(l:Qf)(b:UInt8):num (l++[b])=num l+256^l.length*b.toNat:=by induction l with|nil=>simp[num]|cons a l c=>simp only[bm,num,c,ao,dS,Nat.mul_add];rw[←Nat.mul_assoc,dK 256 (256^l.length)];omega
def gJ(id stamp kind:Nat)(body:Qf):Qf:=[79,80,71,49]++le 4 id++le 8 stamp++[UInt8.ofNat kind,0]++le 2 body.length++body++List.replicate (1000-body.length) 0
def iB(id stamp kind:Nat)(body:Qf):Qf:=ml (gJ id stamp kind body)
theorem oZ{id stamp kind:Nat}{body:Qf}(h:body.length≤1000):(gJ id stamp kind body).length=1020:=by simp[gJ];omega
def OD(id kind:Int)(n:Nat):Int:=if id<0∨2147483647<id then 3 else if kind<0∨255<kind then 2 else if 1000<n then 13 else 0
structure NF where
 (id stamp kind:Nat) (body:Qf) (err:Int)
def jO(d:Qf):NF:=let n:=num ((d.drop 18).take 2);let id:=num ((d.drop 4).take 4);if d.take 4=[79,80,71,49]∧id≤2147483647∧d[17]? =some 0∧n≤1000∧(d.drop (20+n)).all (· ==0)=true then ⟨id,num ((d.drop 8).take 8),(d.getD 16 0).toNat,(d.drop 20).take n,0⟩ else⟨0,0,0,[],15⟩
def iC(b:Qf):NF:=if b.length≠1024 then⟨0,0,0,[],15⟩ else if b.drop 1020=kL (Crc.Ls (b.take 1020))then jO (b.take 1020) else⟨0,0,0,[],29⟩
end Go.Proofs.YtlpbeifnibodoaaGreatDoor
