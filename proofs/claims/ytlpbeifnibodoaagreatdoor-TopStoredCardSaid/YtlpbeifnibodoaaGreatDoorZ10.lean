/- Lemmas. Conditions: those of each. -/
import Derived.Test.YtlpbeifnibodoaaGreatDoorZ09
import Derived.Deep.Cut
set_option linter.all false
set_option maxRecDepth 100000
set_option maxHeartbeats 16000000
namespace Go.Proofs.YtlpbeifnibodoaaGreatDoor
open Go.Proofs.Tryz Go.RowKit
section
def LO(b:UInt8)(k:Nat):Bool:=b.toNat/2^k%2==1
def bit(u:Qf)(i:Nat):Bool:=LO (u[i/8]?.getD 0) (i%8)
theorem Nl:∀n:Fin 256,∀r:Fin 8,(bits .and .u8 (((n.1:Nat):Int)/2^r.1) 1==1)=(n.1/2^r.1%2==1):=by decide+kernel
theorem MO(x:UInt8){r:Nat}(a:r<8):(bits .and .u8 (N8 x/2^r) 1==1)=LO x r:=Nl ⟨x.toNat,x.toNat_lt⟩ ⟨r,a⟩
theorem ug(g a:Nat)(u:Qf)(i:Nat)(w:World)(l:u.length=128)(o:i<1024)(d:∀k x,u[k]? =some x→w.cell? ⟨g,a+k,none⟩=some (fZ x)):Calls prog 97 #[.pointer (some ⟨g,a,none⟩),.int .i64 i] w fun e w'=>e= .returned (.bool (bit u i))∧fy w w':=by obtain⟨x,b⟩:∃x,u[i/8]? =some x:=⟨_,ag (by omega)⟩;have f:=d _ _ b;(have c:bit u i=LO x (i%8):=by unfold bit;rw[b];rfl);(have m:(i:Int).tdiv 8=((i/8:Nat):Int):=by rw[Int.tdiv_eq_ediv_of_nonneg (by omega)];omega);(have e2:(i:Int).tmod 8=((i%8:Nat):Int):=by rw[cQ (by omega)];omega);(have n:i/8<128:=by omega);have j:i%8<8:=dw _ (by omega);rw[c];clear d b c l;generalize i/8=q at *;generalize i%8=r at *;unfold fZ at f;go_enter func97,ntmps97;go_wp2_with fail;go_ret;rw[MO x j];exact⟨rfl,ab _ _⟩
def vW(u:Qf)(i:Nat):Qf:=u.set (i/8) ((u[i/8]?.getD 0)^^^(1<<<UInt8.ofNat (i%8)))
theorem Jw(u:Qf)(i:Nat):(vW u i).length=u.length:=by unfold vW;simp
theorem Hz:∀n:Fin 256,∀r k:Fin 8,(((UInt8.ofNat n.1^^^(1<<<UInt8.ofNat r.1)).toNat/2^k.1%2==1)=((n.1/2^k.1%2==1)^^(k.1==r.1))):=by decide+kernel
theorem Ev(u:Qf)(i j:Nat)(b:i/8<u.length):bit (vW u i) j=(bit u j^^(j==i)):=by unfold bit vW;rw[cJ];by_cases a:i/8=j/8;{rw[aq a,aq b,Option.getD_some,←a];have:=Hz ⟨(u[i/8]?.getD 0).toNat,UInt8.toNat_lt _⟩ ⟨i%8,dw _ (by omega)⟩ ⟨j%8,dw _ (by omega)⟩;simp only[UInt8.ofNat_toNat]at this;unfold LO;rw[this];congr 1;rw[Bool.eq_iff_iff];simp;omega};{rw[aj a];(have:(j==i)=false:=by rw[aS];intro h;exact a (by rw[h]));rw[this,Bool.xor_false]}
theorem xor_val(x:UInt8)(r:Nat)(a:r<8):bits .xor .u8 (N8 x) (2^r)=N8 (x^^^(1<<<UInt8.ofNat r)):=by (have h:∀n:Fin 256,∀r:Fin 8,bits .xor .u8 ((n.1:Nat):Int) (2^r.1)=(((UInt8.ofNat n.1^^^(1<<<UInt8.ofNat r.1)).toNat:Nat):Int):=by decide+kernel);have:=h ⟨x.toNat,UInt8.toNat_lt _⟩ ⟨r,a⟩;dsimp only at this;rw[UInt8.ofNat_toNat]at this;exact this
theorem N7{cs:Qg}{u:Qf}{a:Nat}(f:u.length=128)(d:a+128≤cs.length)(c:∀k x,u[k]? =some x→cs[a+k]? =some (fZ x)):cs=cs.take a++u.map fZ++cs.drop (a+128):=by (have e:(cs.drop a).take 128=u.map fZ:=by apply dE;intro k;rw[bo,bN,au];by_cases b:k<128;{rw[aq b,c k u[k] (ag (by omega)),ag (show k<u.length by omega)];rfl};{rw[aj b,bz (by omega)];rfl});rw[←e,aB,←dW,bE,bE]
theorem MC{cs:Qg}{u:Qf}{c q:Nat}{y:UInt8}(g:u.length=128)(d:c+128≤cs.length)(e:∀k x,u[k]? =some x→cs[c+k]? =some (fZ x))(i:q<128):cs.set (c+q) (fZ y)=cs.take c++(u.set q y).map fZ++cs.drop (c+128):=by have h:=N7 g d e;(have f:(cs.take c).length=c:=by rw[aK];omega);generalize cs.take c=a at *;generalize cs.drop (c+128)=b at *;rw[h,aB,dp _ _ (by omega),f,cy,List.set_append_left _ _ (by rw[ak];omega),List.map_set,aB]
theorem DL(g a:Nat)(T:TypeId)(cs:Qg)(u:Qf)(i:Nat)(w:World)(c:fB w g T cs)(t:u.length=128)(A:i<1024)(f:a+128≤cs.length)(l:∀k x,u[k]? =some x→cs[a+k]? =some (fZ x)):Calls prog 183 #[.pointer (some ⟨g,a,none⟩),.int .i64 i] w fun e w'=>e= .returned (.tuple #[])∧fB w' g T (cs.take a++(vW u i).map fZ++cs.drop (a+128))∧w.grownBy w' (some g):=by obtain⟨x,n⟩:∃x,u[i/8]? =some x:=⟨_,ag (by omega)⟩;have o:w.cell? ⟨g,a+i/8,none⟩=some (fZ x):=(c.cell _).trans (l _ _ n);(have v:(i:Int).tdiv 8=((i/8:Nat):Int):=by rw[Int.tdiv_eq_ediv_of_nonneg (by omega)];omega);(have e2:(i:Int).tmod 8=((i%8:Nat):Int):=by rw[cQ (by omega)];omega);(have p:i/8<128:=by omega);have j:i%8<8:=dw _ (by omega);have z:=c.frozen (a+i/8);have ex:=xor_val x (i%8) j;have y:(2:Int)^(i%8)%256=2^(i%8):=(by decide:∀r:Fin 8,(2:Int)^r.1%256=2^r.1) ⟨i%8,j⟩;have d:Hid (vW u i=u.set (i/8) (x^^^(1<<<UInt8.ofNat (i%8)))):=fw (by unfold vW;rw[n];rfl);generalize i/8=q at *;generalize i%8=r at *;unfold fZ at o;go_enter func183,ntmps183;go_wp2_with fail;go_region;go_wp2_with fail;(first|refine bodyPost_ret (results_none rfl _ _ _) rfl ?_|refine bodyPost_end (results_none rfl _ _ _) rfl ?_);have m:=c.qR (a+q) (fZ (x^^^(1<<<UInt8.ofNat r)));have b:=c.qQ (a+q) (fZ (x^^^(1<<<UInt8.ofNat r)));rw[MC t f l p]at m;refine⟨rfl,?_,⟨b.os,b.tape,b.output,b.size,b.block⟩⟩;have s:vW u i=u.set q (x^^^(1<<<UInt8.ofNat r)):=d.out;rw[s];exact m
theorem il{w a:World}{T1 T2:TypeId}{cs1 cs2:Qg}(e:(w.alloc (.cells cs1.toArray T1)).alloc (.cells cs2.toArray T2)=a):fB a w.heap.size T1 cs1∧fB a (w.heap.size+1) T2 cs2∧fy w a:=by subst e;exact pE (ab _ _)
structure fF where
 (d:DV) (sec pgs root num:Nat) (mt cu nu:Qf)
def fF.cs(p:fF):Qg:=[.int .i64 p.d.n,.pointer p.d.s,.pointer p.d.c,.pointer p.d.l,.int .i64 p.d.m,.int .i64 p.sec,.int .i64 p.pgs,.int .i64 p.root,.int .u64 p.num,.string ⟨p.mt.toArray⟩]++(p.cu.map fZ++p.nu.map fZ)
def fF.v(p:fF):Value:= .agg p.cs.toArray
def fK:Qf:=List.replicate 128 0
def fF.zero:fF:=⟨DV.zero,0,0,0,0,[],fK,fK⟩
structure fF.ok (p:fF):Prop where
 cu:p.cu.length=128
 nu:p.nu.length=128
 sec:p.sec≤16384
 pgs:p.pgs≤1023
 num:p.num<18446744073709551616
 mt:p.mt.length≤256
section
variable {p:fF} {w:World} {g:Nat} {t:TypeId}
theorem fF.fN(h:p.ok):p.cs.length=266:=by unfold fF.cs;simp[h.cu,h.nu]
theorem fF.sJ(a:fB w g t p.cs):w.cell? ⟨g,0,none⟩=some (.int .i64 p.d.n)∧w.cell? ⟨g,1,none⟩=some (.pointer p.d.s)∧w.cell? ⟨g,2,none⟩=some (.pointer p.d.c)∧w.cell? ⟨g,3,none⟩=some (.pointer p.d.l)∧w.cell? ⟨g,4,none⟩=some (.int .i64 p.d.m)∧w.cell? ⟨g,5,none⟩=some (.int .i64 p.sec)∧w.cell? ⟨g,6,none⟩=some (.int .i64 p.pgs)∧w.cell? ⟨g,7,none⟩=some (.int .i64 p.root)∧w.cell? ⟨g,8,none⟩=some (.int .u64 p.num)∧w.cell? ⟨g,9,none⟩=some (.string ⟨p.mt.toArray⟩):=⟨a.cell 0,a.cell 1,a.cell 2,a.cell 3,a.cell 4,a.cell 5,a.cell 6,a.cell 7,a.cell 8,a.cell 9⟩
theorem fF.PY(p:fF)(k:Nat)(x:UInt8)(h:p.cu[k]? =some x):p.cs[10+k]? =some (fZ x):=by have a:=(ah.1 h).1;unfold fF.cs;rw[aE (by simp),aM (by simp;omega),show 10+k-_=k by simp,au,h];rfl
theorem fF.O3(p:fF)(a:p.cu.length=128)(k:Nat)(x:UInt8)(h:p.nu[k]? =some x):p.cs[138+k]? =some (fZ x):=by unfold fF.cs;rw[aE (by simp;omega),aE (by simp;omega),show 138+k-_-_=k by simp;omega,au,h];rfl
end
theorem om:jv prog 42 fF.zero.cs:=(by kernel_rfl:(prog.info? 42).map (fun i=>(i.zero,i.size))=some (some (.agg fF.zero.cs.toArray),266))
theorem A7:(prog.info? 42).map (·.size)=some 266:=by kernel_rfl
theorem xC(p:fF)(num:Nat)(w:World)(c:p.ok)(f:num<18446744073709551616):Calls prog 56 #[p.v,.int .u64 num] w fun e w'=>e= .returned (.int .i64 ((p.sec+8*(num%2):Nat):Int))∧fy w w':=by have g:=c.sec;unfold fF.v;obtain⟨b,a, -⟩:=box w 42 p.cs;obtain⟨i,j,k,l,m,n,o,q,r,s⟩:=fF.sJ b;(have d:(num:Int).tmod 2=((num%2:Nat):Int):=by rw[cQ (by omega)];omega);go_enter func56,ntmps56;go_wp2_with fail;go_ret;exact⟨aT (fun z:Int=>Ending.returned (Value.int .i64 z)) (by omega),a⟩
theorem zE(p:fF)(id:Nat)(w:World)(c:p.ok)(g:id≤100000):Calls prog 164 #[p.v,.int .i64 id] w fun e w'=>e= .returned (.int .i64 ((p.sec+8*(id+1):Nat):Int))∧fy w w':=by have i:=c.sec;unfold fF.v;obtain⟨b,a, -⟩:=box w 42 p.cs;obtain⟨j,k,l,m,n,o,q,r,s,t⟩:=fF.sJ b;have d:=IntWalk.i64_in ((id:Int)+1) (by omega);have e2:=IntWalk.i64_in (8*((id:Int)+1)) (by omega);have f:=IntWalk.i64_in ((p.sec:Int)+8*((id:Int)+1)) (by omega);go_enter func164,ntmps164;go_wp2_with fail;go_ret;exact⟨aT (fun z:Int=>Ending.returned (Value.int .i64 z)) (by omega),a⟩
def fF.vV(p:fF)(id:Int):Bool:=decide (1≤id)&&decide (id≤p.pgs)&&bit p.nu id.toNat
theorem xr(p:fF)(id:Int)(w:World)(f:p.ok):Calls prog 53 #[p.v,.int .i64 id] w fun e w'=>e= .returned (.bool (p.vV id))∧fy w w':=by have n:=f.pgs;have c:=f.cu;have d:=f.nu;unfold fF.v;obtain⟨j,a, -⟩:=box w 42 p.cs;obtain⟨q,r,s,t,y,z,A,B,C,D⟩:=fF.sJ j;unfold fF.vV;by_cases b:1≤id;{by_cases g:id≤p.pgs;{obtain⟨i,rfl⟩:∃i:Nat,id=i:=⟨id.toNat,by omega⟩;(have t1:decide (1≤(i:Int))=true:=by simpa using b);(have t2:decide ((i:Int)≤(p.pgs:Int))=true:=by simpa using g);rw[t1,t2,eZ,fq,fq];have R:=ug w.heap.size 138 p.nu i _ d (by omega) (fun k x m=>(j.cell _).trans (p.O3 c k x m));go_enter func53,ntmps53;go_wp2_with fail;refine R.mono ?_;rintro e o ⟨rfl,l⟩;go_wp2_with fail;go_ret;exact⟨rfl,a.trans (l.mono a.size)⟩};{(have t1:decide (1≤id)=true:=by simpa using b);(have t2:decide (id≤(p.pgs:Int))=false:=by simpa using g);rw[t1,t2,fq,dV];go_enter func53,ntmps53;go_wp2_with fail;go_ret;exact⟨rfl,a⟩}};{(have t1:decide (1≤id)=false:=by simpa using b);rw[t1,dV,dV];go_enter func53,ntmps53;go_wp2_with fail;go_ret;exact⟨rfl,a⟩}
theorem Lg(p:fF)(w:World):Calls prog 15 #[p.v] w fun e w'=>e= .returned p.d.v∧fy w w':=by unfold fF.v;go_enter func15,ntmps15;go_upto_region 1 with fail;generalize a:World.alloc (World.alloc w _) _=v3;obtain⟨l,m,B⟩:=il (cs1:=p.cs) (cs2:=DV.zero.cs) a;clear a;obtain⟨r,s,t,x,y,z,A,C,D,E⟩:=fF.sJ l;go_wp2_with ((with_reducible refine fx 36 ?_);refine fM (w.heap.size+1) _ _ p.d.cs m nt rfl (nj _) rfl rfl ?_;intro q n o;go_frame);obtain⟨b,c,f,g,i⟩:=n.c5;refine bodyPost_ret (v:=p.d.v) (by simp[results,results15,go_sem,b,c,f,g,i];rfl) rfl ⟨rfl,B.grown o B.size (fun k j=>by cases j;omega)⟩
end
section
section
variable {ops:Array Oper} {rest:List Oper} {Q:Qe} {a:Act} {w:World} {ty:TypeId} {ps:String} {af:Array Edge} {d:Option Tmp} {x y:Operand}
theorem fF.one(p:fF):∀v∈p.cs,v.oneCell'=true:=by intro v a;simp only[fF.cs,bH,aG,aR,cR,aL]at a;rcases a with(rfl|rfl|rfl|rfl|rfl|rfl|rfl|rfl|rfl|rfl)|⟨b,_,rfl⟩|⟨b,_,rfl⟩<;>rfl
theorem iD(g:Nat)(p:fF)(c:p.ok)(b:fB w g 42 p.cs)(e:a.eval x= .pointer (some ⟨g,0,none⟩))(h:wpList prog ops Q rest (a.put d p.v) w):wpList prog ops Q (⟨d,Op.load 42 x,ty,ps,af,none⟩::rest) a w:=wpList_load_row rfl 42 x rfl g e 42 p.cs.toArray (0,0) _ b underlying42 rfl (A7.trans (by simp[fF.fN c])) h
theorem jh(g:Nat)(cur:Qg)(p:fF)(b:p.ok)(c:fB w g 42 cur)(d:cur.length=266)(e:a.eval x= .pointer (some ⟨g,0,none⟩))(f:a.eval y=p.v)(h:∀w',fB w' g 42 p.cs→w.grownBy w' (some g)→wpList prog ops Q rest (a.put none undef) w'):wpList prog ops Q (⟨none,Op.store 42 x y,ty,ps,af,none⟩::rest) a w:=fM g 42 cur p.cs c (A7.trans (by simp[fF.fN b])) (by rw[d,fF.fN b]) p.one e f h
theorem zy(w:World)(g:Nat)(p:fF)(b:p.ok)(a:fB w g 42 p.cs):(loadVar 42 ⟨g,0,none⟩).run prog w= .ok p.v w:=run_loadVar_row w g 42 42 p.cs.toArray (0,0) _ a underlying42 rfl (A7.trans (by simp[fF.fN b]))
theorem nV{b:Func}{i u:Tmp}(h:b.results= #[.cell i 42,.tmp u])(a:Array Value)(w:World)(g:Nat)(p:fF)(e:p.ok)(d:a.getD i undef= .pointer (some ⟨g,0,none⟩))(c:fB w g 42 p.cs):(results b a).run prog w= .ok (.tuple #[p.v,a.getD u undef]) w:=by rw[results_cell_tmp h,d];simp[asAddr,zy w g p e c,Result.andThen]
theorem xQ{c:Func}{i u v:Tmp}(h:c.results= #[.cell i 42,.tmp u,.tmp v])(a:Array Value)(w:World)(g:Nat)(p:fF)(f:p.ok)(e:a.getD i undef= .pointer (some ⟨g,0,none⟩))(d:fB w g 42 p.cs):(results c a).run prog w= .ok (.tuple #[p.v,a.getD u undef,a.getD v undef]) w:=by (have b:a[i]?.getD undef= .pointer (some ⟨g,0,none⟩):=by simpa using e);simp only[results,h];simp[Sem.run_bind,Result.andThen,b,asAddr,zy w g p f d]
end
theorem fF.fP:fF.zero.ok:=⟨by simp[fF.zero,fK],by simp[fF.zero,fK],by simp[fF.zero],by simp[fF.zero],by simp[fF.zero],by simp[fF.zero]⟩
def fF.mJ(p:fF)(i:Nat):fF:={p with nu:=vW p.nu i}
theorem fF.nJ{p:fF}(h:p.ok)(i:Nat):(p.mJ i).ok:=⟨h.cu,(Jw _ _).trans h.nu,h.sec,h.pgs,h.num,h.mt⟩
theorem fF.zq{p:fF}(h:p.ok)(i:Nat):p.cs.take 138++(vW p.nu i).map fZ++p.cs.drop (138+128)=(p.mJ i).cs:=by have a:=h.cu;rw[bS (by rw[fF.fN h];omega),bj];unfold fF.cs fF.mJ;rw[←aB,cS (by simp[a]),ar (by simp[a]),aB]
theorem IM(p:fF)(id:Nat)(w:World)(a:p.ok)(s:p.vV id=true)(r:id<1024):Calls prog 149 #[p.v,.int .i64 id] w fun e w'=>e= .returned (.tuple #[(p.mJ id).v,.int .i64 0])∧fy w w':=by have U:=fun C=>xr p id C a;rw[s]at U;have D:=fF.fN a;go_enter func149,ntmps149;unfold fF.v;obtain⟨n,m,t⟩:=box w 42 p.cs;go_wp2_with (first|((with_reducible refine fC 42 ?_);refine ir (w.heap.size+1) t _ om ?_;intro G o l E;go_frame;have f:=n.below l (by omega);have b:=m.trans (l.mono (by omega));clear n m)|((with_reducible refine fA 42 ?_);refine iD w.heap.size p a f rfl ?_;go_frame));refine(U _).mono ?_;rintro e B ⟨rfl,i⟩;have f:=f.fv i;have q:=o.fv i;have c:=b.trans (i.mono b.size);clear o b i;have F:=DL w.heap.size 138 42 p.cs p.nu id B f a.nu r (by omega) (p.O3 a.cu);rw[fF.zq a]at F;go_wp2_with fail;refine F.mono ?_;rintro e H ⟨rfl,x,k⟩;have y:=q.grown k (by simp);have d:=c.grown k c.size (fun g j=>by cases j;omega);clear q f k c;go_wp2_with (first|((with_reducible refine fA 42 ?_);refine iD w.heap.size (p.mJ id) (fF.nJ a id) x rfl ?_;go_frame)|((with_reducible refine fx 42 ?_);refine jh (w.heap.size+1) _ (p.mJ id) (fF.nJ a id) y (by rw[fF.fN fF.fP]) rfl rfl ?_;intro I z A;go_frame));refine bodyPost_ret (nV (by rfl) _ _ (w.heap.size+1) (p.mJ id) (fF.nJ a id) rfl z) rfl ⟨rfl,d.grown A d.size (fun g j=>by cases j;omega)⟩
end
end Go.Proofs.YtlpbeifnibodoaaGreatDoor
