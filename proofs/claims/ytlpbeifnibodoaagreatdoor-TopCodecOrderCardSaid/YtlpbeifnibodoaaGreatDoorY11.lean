/- Lemmas. Conditions: those of each. -/
import Derived.Test.YtlpbeifnibodoaaGreatDoorY10
import Derived.Deep.Cut
set_option linter.all false
set_option maxRecDepth 100000
set_option maxHeartbeats 16000000
namespace Go.Proofs.YtlpbeifnibodoaaGreatDoor
open Go.Proofs.Tryz Go.RowKit
section
def JV(b:UInt8)(k:Nat):Bool:=b.toNat/2^k%2==1
def bit(u:O4)(i:Nat):Bool:=JV (u[i/8]?.getD 0) (i%8)
theorem L5:∀n:Fin 256,∀r:Fin 8,(bits .and .u8 (((n.1:Nat):Int)/2^r.1) 1==1)=(n.1/2^r.1%2==1):=by decide+kernel
theorem Lp(x:UInt8){r:Nat}(a:r<8):(bits .and .u8 (N8 x/2^r) 1==1)=JV x r:=L5 ⟨x.toNat,x.toNat_lt⟩ ⟨r,a⟩
theorem sO(g a:Nat)(u:O4)(i:Nat)(w:World)(j:u.length=128)(n:i<1024)(d:∀k x,u[k]? =some x→w.cell? ⟨g,a+k,none⟩=some (fP x)):Calls prog 97 #[.pointer (some ⟨g,a,none⟩),.int .i64 i] w fun e w'=>e= .returned (.bool (bit u i))∧fm w w':=by obtain⟨x,b⟩:∃x,u[i/8]? =some x:=⟨_,ag (by omega)⟩;have c1:=d _ _ b;(have c:bit u i=JV x (i%8):=by unfold bit;rw[b];rfl);(have l:(i:Int).tdiv 8=((i/8:Nat):Int):=by rw[Int.tdiv_eq_ediv_of_nonneg (by omega)];omega);(have e2:(i:Int).tmod 8=((i%8:Nat):Int):=by rw[dZ (by omega)];omega);(have m:i/8<128:=by omega);have f:i%8<8:=dI _ (by omega);rw[c];clear d b c j;generalize i/8=q at *;generalize i%8=r at *;unfold fP at c1;go_enter func97,ntmps97;go_wp2_with fail;go_ret;rw[Lp x f];exact⟨rfl,ae _ _⟩
def uG(u:O4)(i:Nat):O4:=u.set (i/8) ((u[i/8]?.getD 0)^^^(1<<<UInt8.ofNat (i%8)))
theorem Hk(u:O4)(i:Nat):(uG u i).length=u.length:=by unfold uG;simp
theorem FZ:∀n:Fin 256,∀r k:Fin 8,(((UInt8.ofNat n.1^^^(1<<<UInt8.ofNat r.1)).toNat/2^k.1%2==1)=((n.1/2^k.1%2==1)^^(k.1==r.1))):=by decide+kernel
theorem CH(u:O4)(i j:Nat)(b:i/8<u.length):bit (uG u i) j=(bit u j^^(j==i)):=by unfold bit uG;rw[cJ];by_cases a:i/8=j/8;{rw[aq a,aq b,Option.getD_some,←a];have:=FZ ⟨(u[i/8]?.getD 0).toNat,UInt8.toNat_lt _⟩ ⟨i%8,dI _ (by omega)⟩ ⟨j%8,dI _ (by omega)⟩;simp only[UInt8.ofNat_toNat]at this;unfold JV;rw[this];congr 1;rw[Bool.eq_iff_iff];simp;omega};{rw[ai a];(have:(j==i)=false:=by rw[aX];intro h;exact a (by rw[h]));rw[this,Bool.xor_false]}
theorem xor_val(x:UInt8)(r:Nat)(a:r<8):bits .xor .u8 (N8 x) (2^r)=N8 (x^^^(1<<<UInt8.ofNat r)):=by (have h:∀n:Fin 256,∀r:Fin 8,bits .xor .u8 ((n.1:Nat):Int) (2^r.1)=(((UInt8.ofNat n.1^^^(1<<<UInt8.ofNat r.1)).toNat:Nat):Int):=by decide+kernel);have:=h ⟨x.toNat,UInt8.toNat_lt _⟩ ⟨r,a⟩;dsimp only at this;rw[UInt8.ofNat_toNat]at this;exact this
theorem MN{cs:O5}{u:O4}{a:Nat}(f:u.length=128)(d:a+128≤cs.length)(c:∀k x,u[k]? =some x→cs[a+k]? =some (fP x)):cs=cs.take a++u.map fP++cs.drop (a+128):=by (have e:(cs.drop a).take 128=u.map fP:=by apply dS;intro k;rw[aZ,bC,ay];by_cases b:k<128;{rw[aq b,c k u[k] (ag (by omega)),ag (show k<u.length by omega)];rfl};{rw[ai b,bV (by omega)];rfl});rw[←e,az,←cR,bB,bB]
theorem Lb{cs:O5}{u:O4}{c q:Nat}{y:UInt8}(g:u.length=128)(d:c+128≤cs.length)(e:∀k x,u[k]? =some x→cs[c+k]? =some (fP x))(i:q<128):cs.set (c+q) (fP y)=cs.take c++(u.set q y).map fP++cs.drop (c+128):=by have h:=MN g d e;(have f:(cs.take c).length=c:=by rw[aH];omega);generalize cs.take c=a at *;generalize cs.drop (c+128)=b at *;rw[h,az,cZ _ _ (by omega),f,bU,List.set_append_left _ _ (by rw[aj];omega),List.map_set,az]
theorem Cb(g a:Nat)(T:TypeId)(cs:O5)(u:O4)(i:Nat)(w:World)(c:fo w g T cs)(s:u.length=128)(z:i<1024)(f:a+128≤cs.length)(l:∀k x,u[k]? =some x→cs[a+k]? =some (fP x)):Calls prog 183 #[.pointer (some ⟨g,a,none⟩),.int .i64 i] w fun e w'=>e= .returned (.tuple #[])∧fo w' g T (cs.take a++(uG u i).map fP++cs.drop (a+128))∧w.grownBy w' (some g):=by obtain⟨x,n⟩:∃x,u[i/8]? =some x:=⟨_,ag (by omega)⟩;have c1:w.cell? ⟨g,a+i/8,none⟩=some (fP x):=(c.cell _).trans (l _ _ n);(have t:(i:Int).tdiv 8=((i/8:Nat):Int):=by rw[Int.tdiv_eq_ediv_of_nonneg (by omega)];omega);(have e2:(i:Int).tmod 8=((i%8:Nat):Int):=by rw[dZ (by omega)];omega);(have o:i/8<128:=by omega);have j:i%8<8:=dI _ (by omega);have y:=c.frozen (a+i/8);have ex:=xor_val x (i%8) j;have v:(2:Int)^(i%8)%256=2^(i%8):=(by decide:∀r:Fin 8,(2:Int)^r.1%256=2^r.1) ⟨i%8,j⟩;have d:Hid (uG u i=u.set (i/8) (x^^^(1<<<UInt8.ofNat (i%8)))):=fh (by unfold uG;rw[n];rfl);generalize i/8=q at *;generalize i%8=r at *;unfold fP at c1;go_enter func183,ntmps183;go_wp2_with fail;go_region;go_wp2_with fail;(first|refine bodyPost_ret (results_none rfl _ _ _) rfl ?_|refine bodyPost_end (results_none rfl _ _ _) rfl ?_);have m:=c.rq (a+q) (fP (x^^^(1<<<UInt8.ofNat r)));have b:=c.rp (a+q) (fP (x^^^(1<<<UInt8.ofNat r)));rw[Lb s f l o]at m;refine⟨rfl,?_,⟨b.os,b.tape,b.output,b.size,b.block⟩⟩;have p:uG u i=u.set q (x^^^(1<<<UInt8.ofNat r)):=d.out;rw[p];exact m
theorem gW{w a:World}{T1 T2:TypeId}{cs1 cs2:O5}(e:(w.alloc (.cells cs1.toArray T1)).alloc (.cells cs2.toArray T2)=a):fo a w.heap.size T1 cs1∧fo a (w.heap.size+1) T2 cs2∧fm w a:=by subst e;exact nY (ae _ _)
structure fB where
 (d:DV) (sec pgs root num:Nat) (mt cu nu:O4)
def fB.cs(p:fB):O5:=[.int .i64 p.d.n,.pointer p.d.s,.pointer p.d.c,.pointer p.d.l,.int .i64 p.d.m,.int .i64 p.sec,.int .i64 p.pgs,.int .i64 p.root,.int .u64 p.num,.string ⟨p.mt.toArray⟩]++(p.cu.map fP++p.nu.map fP)
def fB.v(p:fB):Value:= .agg p.cs.toArray
def fv:O4:=List.replicate 128 0
def fB.zero:fB:=⟨DV.zero,0,0,0,0,[],fv,fv⟩
structure fB.ok (p:fB):Prop where
 cu:p.cu.length=128
 nu:p.nu.length=128
 sec:p.sec≤16384
 pgs:p.pgs≤1023
 num:p.num<18446744073709551616
 mt:p.mt.length≤256
section
variable {p:fB} {w:World} {g:Nat} {t:TypeId}
theorem fB.fH(h:p.ok):p.cs.length=266:=by unfold fB.cs;simp[h.cu,h.nu]
theorem fB.tj(a:fo w g t p.cs):w.cell? ⟨g,0,none⟩=some (.int .i64 p.d.n)∧w.cell? ⟨g,1,none⟩=some (.pointer p.d.s)∧w.cell? ⟨g,2,none⟩=some (.pointer p.d.c)∧w.cell? ⟨g,3,none⟩=some (.pointer p.d.l)∧w.cell? ⟨g,4,none⟩=some (.int .i64 p.d.m)∧w.cell? ⟨g,5,none⟩=some (.int .i64 p.sec)∧w.cell? ⟨g,6,none⟩=some (.int .i64 p.pgs)∧w.cell? ⟨g,7,none⟩=some (.int .i64 p.root)∧w.cell? ⟨g,8,none⟩=some (.int .u64 p.num)∧w.cell? ⟨g,9,none⟩=some (.string ⟨p.mt.toArray⟩):=⟨a.cell 0,a.cell 1,a.cell 2,a.cell 3,a.cell 4,a.cell 5,a.cell 6,a.cell 7,a.cell 8,a.cell 9⟩
theorem fB.OQ(p:fB)(k:Nat)(x:UInt8)(h:p.cu[k]? =some x):p.cs[10+k]? =some (fP x):=by have a:=(ah.1 h).1;unfold fB.cs;rw[aD (by simp),aL (by simp;omega),show 10+k-_=k by simp,ay,h];rfl
theorem fB.N4(p:fB)(a:p.cu.length=128)(k:Nat)(x:UInt8)(h:p.nu[k]? =some x):p.cs[138+k]? =some (fP x):=by unfold fB.cs;rw[aD (by simp;omega),aD (by simp;omega),show 138+k-_-_=k by simp;omega,ay,h];rfl
end
theorem rT:jm prog 42 fB.zero.cs:=(by kernel_rfl:(prog.info? 42).map (fun i=>(i.zero,i.size))=some (some (.agg fB.zero.cs.toArray),266))
theorem DL:(prog.info? 42).map (·.size)=some 266:=by kernel_rfl
theorem AR(p:fB)(num:Nat)(w:World)(c:p.ok)(f:num<18446744073709551616):Calls prog 56 #[p.v,.int .u64 num] w fun e w'=>e= .returned (.int .i64 ((p.sec+8*(num%2):Nat):Int))∧fm w w':=by have g:=c.sec;unfold fB.v;obtain⟨b,a, -⟩:=box w 42 p.cs;obtain⟨i,j,k,l,m,n,o,q,r,s⟩:=fB.tj b;(have d:(num:Int).tmod 2=((num%2:Nat):Int):=by rw[dZ (by omega)];omega);go_enter func56,ntmps56;go_wp2_with fail;go_ret;exact⟨aN (fun z:Int=>Ending.returned (Value.int .i64 z)) (by omega),a⟩
theorem yd(p:fB)(id:Nat)(w:World)(c:p.ok)(g:id≤100000):Calls prog 164 #[p.v,.int .i64 id] w fun e w'=>e= .returned (.int .i64 ((p.sec+8*(id+1):Nat):Int))∧fm w w':=by have i:=c.sec;unfold fB.v;obtain⟨b,a, -⟩:=box w 42 p.cs;obtain⟨j,k,l,m,n,o,q,r,s,t⟩:=fB.tj b;have d:=IntWalk.i64_in ((id:Int)+1) (by omega);have e2:=IntWalk.i64_in (8*((id:Int)+1)) (by omega);have f:=IntWalk.i64_in ((p.sec:Int)+8*((id:Int)+1)) (by omega);go_enter func164,ntmps164;go_wp2_with fail;go_ret;exact⟨aN (fun z:Int=>Ending.returned (Value.int .i64 z)) (by omega),a⟩
def fB.vB(p:fB)(id:Int):Bool:=decide (1≤id)&&decide (id≤p.pgs)&&bit p.nu id.toNat
theorem AE(p:fB)(id:Int)(w:World)(f:p.ok):Calls prog 53 #[p.v,.int .i64 id] w fun e w'=>e= .returned (.bool (p.vB id))∧fm w w':=by have n:=f.pgs;have c:=f.cu;have d:=f.nu;unfold fB.v;obtain⟨j,a, -⟩:=box w 42 p.cs;obtain⟨q,r,s,t,y,z,A,B,C,D⟩:=fB.tj j;unfold fB.vB;by_cases b:1≤id;{by_cases g:id≤p.pgs;{obtain⟨i,rfl⟩:∃i:Nat,id=i:=⟨id.toNat,by omega⟩;(have t1:decide (1≤(i:Int))=true:=by simpa using b);(have t2:decide ((i:Int)≤(p.pgs:Int))=true:=by simpa using g);rw[t1,t2,eS,fa,fa];have R:=sO w.heap.size 138 p.nu i _ d (by omega) (fun k x m=>(j.cell _).trans (p.N4 c k x m));go_enter func53,ntmps53;go_wp2_with fail;refine R.mono ?_;rintro e o ⟨rfl,l⟩;go_wp2_with fail;go_ret;exact⟨rfl,a.trans (l.mono a.size)⟩};{(have t1:decide (1≤id)=true:=by simpa using b);(have t2:decide (id≤(p.pgs:Int))=false:=by simpa using g);rw[t1,t2,fa,dL];go_enter func53,ntmps53;go_wp2_with fail;go_ret;exact⟨rfl,a⟩}};{(have t1:decide (1≤id)=false:=by simpa using b);rw[t1,dL,dL];go_enter func53,ntmps53;go_wp2_with fail;go_ret;exact⟨rfl,a⟩}
end
section
section
variable {ops:Array Oper} {rest:List Oper} {Q:O3} {a:Act} {w:World} {ty:TypeId} {ps:String} {af:Array Edge} {d:Option Tmp} {x y:Operand}
theorem fB.one(p:fB):∀v∈p.cs,v.oneCell'=true:=by intro v a;simp only[fB.cs,bH,aC,aS,cH,aJ]at a;rcases a with(rfl|rfl|rfl|rfl|rfl|rfl|rfl|rfl|rfl|rfl)|⟨b,_,rfl⟩|⟨b,_,rfl⟩<;>rfl
theorem iR(g:Nat)(p:fB)(c:p.ok)(b:fo w g 42 p.cs)(e:a.eval x= .pointer (some ⟨g,0,none⟩))(h:wpList prog ops Q rest (a.put d p.v) w):wpList prog ops Q (⟨d,Op.load 42 x,ty,ps,af,none⟩::rest) a w:=wpList_load_row rfl 42 x rfl g e 42 p.cs.toArray (0,0) _ b underlying42 rfl (DL.trans (by simp[fB.fH c])) h
theorem jB(g:Nat)(cur:O5)(p:fB)(b:p.ok)(c:fo w g 42 cur)(d:cur.length=266)(e:a.eval x= .pointer (some ⟨g,0,none⟩))(f:a.eval y=p.v)(h:∀w',fo w' g 42 p.cs→w.grownBy w' (some g)→wpList prog ops Q rest (a.put none undef) w'):wpList prog ops Q (⟨none,Op.store 42 x y,ty,ps,af,none⟩::rest) a w:=fF g 42 cur p.cs c (DL.trans (by simp[fB.fH b])) (by rw[d,fB.fH b]) p.one e f h
theorem xV(w:World)(g:Nat)(p:fB)(b:p.ok)(a:fo w g 42 p.cs):(loadVar 42 ⟨g,0,none⟩).run prog w= .ok p.v w:=run_loadVar_row w g 42 42 p.cs.toArray (0,0) _ a underlying42 rfl (DL.trans (by simp[fB.fH b]))
theorem oV{b:Func}{i u:Tmp}(h:b.results= #[.cell i 42,.tmp u])(a:Array Value)(w:World)(g:Nat)(p:fB)(e:p.ok)(d:a.getD i undef= .pointer (some ⟨g,0,none⟩))(c:fo w g 42 p.cs):(results b a).run prog w= .ok (.tuple #[p.v,a.getD u undef]) w:=by rw[results_cell_tmp h,d];simp[asAddr,xV w g p e c,Result.andThen]
theorem vR{c:Func}{i u v:Tmp}(h:c.results= #[.cell i 42,.tmp u,.tmp v])(a:Array Value)(w:World)(g:Nat)(p:fB)(f:p.ok)(e:a.getD i undef= .pointer (some ⟨g,0,none⟩))(d:fo w g 42 p.cs):(results c a).run prog w= .ok (.tuple #[p.v,a.getD u undef,a.getD v undef]) w:=by (have b:a[i]?.getD undef= .pointer (some ⟨g,0,none⟩):=by simpa using e);simp only[results,h];simp[Sem.run_bind,Result.andThen,b,asAddr,xV w g p f d]
end
theorem fB.fJ:fB.zero.ok:=⟨by simp[fB.zero,fv],by simp[fB.zero,fv],by simp[fB.zero],by simp[fB.zero],by simp[fB.zero],by simp[fB.zero]⟩
def fB.lY(p:fB)(i:Nat):fB:={p with nu:=uG p.nu i}
theorem fB.mG{p:fB}(h:p.ok)(i:Nat):(p.lY i).ok:=⟨h.cu,(Hk _ _).trans h.nu,h.sec,h.pgs,h.num,h.mt⟩
theorem fB.xO{p:fB}(h:p.ok)(i:Nat):p.cs.take 138++(uG p.nu i).map fP++p.cs.drop (138+128)=(p.lY i).cs:=by have a:=h.cu;rw[bN (by rw[fB.fH h];omega),bm];unfold fB.cs fB.lY;rw[←az,cX (by simp[a]),au (by simp[a]),az]
theorem GF(p:fB)(id:Nat)(w:World)(a:p.ok)(s:p.vB id=true)(r:id<1024):Calls prog 149 #[p.v,.int .i64 id] w fun e w'=>e= .returned (.tuple #[(p.lY id).v,.int .i64 0])∧fm w w':=by have U:=fun C=>AE p id C a;rw[s]at U;have D:=fB.fH a;go_enter func149,ntmps149;unfold fB.v;obtain⟨n,m,t⟩:=box w 42 p.cs;go_wp2_with (first|((with_reducible refine fq 42 ?_);refine ij (w.heap.size+1) t _ rT ?_;intro G o l E;go_frame;have f:=n.below l (by omega);have b:=m.trans (l.mono (by omega));clear n m)|((with_reducible refine fp 42 ?_);refine iR w.heap.size p a f rfl ?_;go_frame));refine(U _).mono ?_;rintro e B ⟨rfl,i⟩;have f:=f.fg i;have q:=o.fg i;have c:=b.trans (i.mono b.size);clear o b i;have F:=Cb w.heap.size 138 42 p.cs p.nu id B f a.nu r (by omega) (p.N4 a.cu);rw[fB.xO a]at F;go_wp2_with fail;refine F.mono ?_;rintro e H ⟨rfl,x,k⟩;have y:=q.grown k (by simp);have d:=c.grown k c.size (fun g j=>by cases j;omega);clear q f k c;go_wp2_with (first|((with_reducible refine fp 42 ?_);refine iR w.heap.size (p.lY id) (fB.mG a id) x rfl ?_;go_frame)|((with_reducible refine fk 42 ?_);refine jB (w.heap.size+1) _ (p.lY id) (fB.mG a id) y (by rw[fB.fH fB.fJ]) rfl rfl ?_;intro I z A;go_frame));refine bodyPost_ret (oV (by rfl) _ _ (w.heap.size+1) (p.lY id) (fB.mG a id) rfl z) rfl ⟨rfl,d.grown A d.size (fun g j=>by cases j;omega)⟩
end
end Go.Proofs.YtlpbeifnibodoaaGreatDoor
