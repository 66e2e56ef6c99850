/- Lemmas. Conditions: those of each. -/
import Derived.Test.YtlpbeifnibodoaaGreatDoorY00
import Derived.WalkKit
import Derived.ProofKit
import Derived.OpenShut
import Derived.Maps.AppendAt
import Derived.BigQuiet
import Derived.Deep.RegionHeld3
set_option linter.all false
set_option maxRecDepth 100000
set_option maxHeartbeats 16000000
namespace Go.Proofs.YtlpbeifnibodoaaGreatDoor
open Go.RowKit
theorem fh{p:Prop}(h:p):Hid p:=h
def N8(b:UInt8):Int:=b.toNat
def nU(b:BitVec 32):Int:=b.toNat
theorem FM(b:UInt8):0≤N8 b:=by unfold N8;omega
theorem FN(b:UInt8):N8 b<256:=by unfold N8;have:=b.toNat_lt;omega
theorem J8(b:BitVec 32):0≤nU b:=by unfold nU;omega
theorem M4(b:BitVec 32):nU b<4294967296:=by unfold nU;have:=b.isLt;omega
theorem Al{a b:UInt8}(h:N8 a=N8 b):a=b:=by unfold N8 at h;exact dQ.1 (by omega)
@[go_sem] theorem M3 (a b:UInt8):(N8 a==N8 b)=(a==b):=by rw[Bool.eq_iff_iff];simp only[dr];exact⟨Al,fun h=>by rw[h]⟩
@[go_sem] theorem M1 (a b:UInt8):(N8 a !=N8 b)=(a !=b):=by unfold bne;rw[M3]
theorem wrap_u32(n:Int)(a:0≤n)(b:n<4294967296):IntKind.u32.wrap n=n:=by have e:IntKind.u32.wrap n=n%2^32:=rfl;rw[e];omega
theorem wrap_u8(n:Int)(a:0≤n)(b:n<256):IntKind.u8.wrap n=n:=by have e:IntKind.u8.wrap n=n%2^8:=rfl;rw[e];omega
theorem ofInt32(x:BitVec 32):BitVec.ofInt 32 (nU x)=x:=by unfold nU;rw[ej];simp
theorem ofInt8(x:UInt8):BitVec.ofInt 8 (N8 x)=x.toBitVec:=by unfold N8;rw[ej];apply BitVec.eq_of_toNat_eq;simp
@[go_sem] theorem OK (x y:BitVec 32):bits .xor .u32 (nU x) (nU y)=nU (x^^^y):=by show IntKind.u32.wrap ((BitVec.ofInt 32 (nU x)^^^BitVec.ofInt 32 (nU y)).toNat:Int)=_;rw[ofInt32,ofInt32];exact wrap_u32 _ (by omega) (by have:=(x^^^y).isLt;omega)
@[go_sem] theorem N9 (x y:UInt8):bits .xor .u8 (N8 x) (N8 y)=N8 (x^^^y):=by show IntKind.u8.wrap ((BitVec.ofInt 8 (N8 x)^^^BitVec.ofInt 8 (N8 y)).toNat:Int)=_;rw[ofInt8,ofInt8];exact wrap_u8 _ (by omega) (by have:=(x.toBitVec^^^y.toBitVec).isLt;omega)
@[go_sem] theorem OM (x:BitVec 32):bits .xor .u32 IntKind.u32.max (nU x)=nU (~~~x):=by show IntKind.u32.wrap ((BitVec.ofInt 32 4294967295^^^BitVec.ofInt 32 (nU x)).toNat:Int)=_;rw[ofInt32,show BitVec.ofInt 32 4294967295^^^x= ~~~x from by rw[show BitVec.ofInt 32 4294967295=BitVec.allOnes 32 from by decide,BitVec.xor_comm,BitVec.xor_allOnes]];exact wrap_u32 _ (by omega) (by have:=(~~~x).isLt;omega)
@[go_sem] theorem NX (x:BitVec 32):bits .and .u32 (nU x) 15=nU (x&&&15#32):=by show IntKind.u32.wrap ((BitVec.ofInt 32 (nU x)&&&BitVec.ofInt 32 15).toNat:Int)=_;rw[ofInt32];exact wrap_u32 _ (by omega) (by have:=(x&&&BitVec.ofInt 32 15).isLt;omega)
@[go_sem] theorem NS (x:BitVec 32) (n:Nat):nU x/(2:Int)^n=nU (x>>>n):=by unfold nU;rw[BitVec.toNat_ushiftRight,Nat.shiftRight_eq_div_pow];push_cast;rfl
@[go_sem] theorem NR (x:BitVec 32):nU x/(16:Int)=nU (x>>>4):=NS x 4
theorem Dj(b:UInt8):(b.toBitVec.setWidth 32).toNat=b.toNat:=by simp
attribute [go_sem] FM FN J8 M4
@[go_sem] theorem NP (x:BitVec 32):nU (x&&&15#32)<(16:Int):=by unfold nU;rw[BitVec.toNat_and];have:x.toNat&&&(15#32).toNat≤(15#32).toNat:=Nat.and_le_right;have e:(15#32).toNat=15:=rfl;omega
def RL(w:World)(size:Nat)(A:O6)(n:Nat)(xs:O5):Prop:=xs.length=n*size∧(0<n→∃b a,A=some ⟨b,a,none⟩∧b<w.heap.size∧∀j u,xs[j]? =some u→w.cell? ⟨b,a+j,none⟩=some u)
theorem gq(b a i:Nat):(⟨b,a,none⟩:Addr).add i=⟨b,a+i,none⟩:=by unfold Addr.add;split<;>simp_all
section
variable {w w':World} {size n:Nat} {A:O6} {xs:O5}
theorem RL.nil(w:World)(size:Nat)(A:O6):RL w size A 0 []:=⟨by simp,fun h=>absurd h (by omega)⟩
theorem RL.fg(h:RL w size A n xs)(j:w.heap.size≤w'.heap.size)(f:∀p:Addr,p.block<w.heap.size→w'.cell? p=w.cell? p):RL w' size A n xs:=⟨h.1,fun g=>by obtain⟨b,a,e,c,d⟩:=h.2 g;exact⟨b,a,e,by omega,fun k x i=>(f ⟨b,a+k,none⟩ c).trans (d k x i)⟩⟩
theorem RL.below(h:RL w size A n xs)(a:Below w.heap.size w w'):RL w' size A n xs:=h.fg a.size fun _ b=>a.cell b
theorem RL.drew(h:RL w size A n xs):RL w.drew size A n xs:=h
theorem RL.alloc(h:RL w size A n xs)(o:Obj):RL (w.alloc o) size A n xs:=h.below ((ae _ _).alloc (aa _) _)
theorem RL.grown(h:RL w size A n xs){c:Option Nat}(f:w.grownBy w' c)(m:∀g,c=some g→0<n→∀b a,A=some ⟨b,a,none⟩→b≠g):RL w' size A n xs:=⟨h.1,fun i=>by obtain⟨b,a,e,d,l⟩:=h.2 i;refine⟨b,a,e,aB d f.size,fun k x o=> ?_⟩;refine(World.cell?_of_block (f.block b d ?_)).trans (l k x o);intro j;exact m b j.symm i b a e rfl⟩
theorem RL.cut(h:RL w size A n xs){k cap:Nat}(g:k≤n)(f:n≤cap):RL w size (if cap=k then A else A.map (·.add (k*size))) (n-k) (xs.drop (k*size)):=by refine⟨by rw[bp,h.1,Nat.sub_mul],fun i=> ?_⟩;obtain⟨b,c,rfl,d,a⟩:=h.2 (by omega);rw[ai (by omega)];refine⟨b,c+k*size,by simp[gq],d,fun j u e=> ?_⟩;have:=a (k*size+j) u (by rw[←e,bC]);rwa[←cy]at this
theorem RL.pre(h:RL w size A n xs){k:Nat}(g:k≤n):RL w size A k (xs.take (k*size)):=by refine⟨by rw[aH,h.1];exact dq (dN _ g),fun i=> ?_⟩;obtain⟨b,d,e,f,a⟩:=h.2 (by omega);refine⟨b,d,e,f,fun j u c=>a j u ?_⟩;rw[aZ]at c;split at c;{exact c};{cases c}
theorem RL.new(w:World)(cs:Array Value)(t:TypeId)(fr:Nat×Nat)(size n:Nat)(h:cs.size=n*size):RL (w.alloc (.cells cs t fr)) size (some ⟨w.heap.size,0,none⟩) n cs.toList:=by refine⟨by simpa using h,fun _=>⟨w.heap.size,0,rfl,by simp,fun j u b=> ?_⟩⟩;(have a:(w.alloc (.cells cs t fr)).heap[w.heap.size]? =some (.cells cs t fr):=by show(w.heap.push (.cells cs t fr))[w.heap.size]? =_;simp);rw[cell_of_row _ _ _ cs t fr a];simpa using b
theorem RL.rI{base:Nat}{e:TypeId}{c:Nat}(h:w.ownsRow base e size (.slice A n c) n xs):RL w size A n xs:=by refine⟨h.1,fun l=> ?_⟩;(rcases h.2 with⟨b,k⟩|⟨g,cap,cur,b,_,f,_⟩);{omega};{(have d:A=some ⟨g,0,none⟩:=by injection b);subst d;have a:=(dH.1 f).1;refine⟨g,0,rfl,a,fun j u i=> ?_⟩;have:=h.cells (g:=g) (by simp[Value.ownBlock]) j u i;rwa[gq]at this}
end
structure Ext (W:World) where
 w:World
 h:Below W.heap.size W w
instance(W:World):Nonempty (Ext W):=⟨⟨W,ae _ _⟩⟩
theorem Ext.cell{w:World}{p:Addr}{v:Value}(h:w.cell? p=some v)(x:Ext w):x.w.cell? p=some v:=(x.h.cell (World.block_lt_of_cell? w p h)).trans h
theorem Ext.calls{P:Program}{f:FuncId}{args:Array Value}{w:World}{v:Value}(x:Ext w)(h:Calls P f args x.w fun e w'=>e= .returned v∧Below x.w.heap.size x.w w'):Calls P f args x.w fun e w'=>e= .returned v∧∃y:Ext w,w'=y.w:=h.mono fun _ _ ⟨b,a⟩=>⟨b,⟨_,x.h.trans (a.mono x.h.size)⟩,rfl⟩
theorem Ext.me{P:Program}{f:FuncId}{args:Array Value}{w:World}{v:Value}(x:Ext w)(h:Calls P f args x.w fun e w'=>e= .returned v∧x.w=w'):Calls P f args x.w fun e w'=>e= .returned v∧∃y:Ext w,w'=y.w:=h.mono fun _ _ ⟨b,a⟩=>⟨b,x,a.symm⟩
theorem gm{P:Program}{id:Nat}{Q:O3}{a:Act}{w:World}{l:List Oper}(d:P.follows .mixedOrders=true)(c:Region.lexB .any l.toArray=true)(h:wpQuiet P l.toArray (fun w'=>∃x:Ext w,w'=x.w) (fun b=>∀w',(∃x:Ext w,w'=x.w)→Q .normal b w') l a):(Code.region id l.toArray true).wp P Q a w:=wp_region_quiet (C:=fun w'=>∃x:Ext w,w'=x.w) d c ⟨⟨_,(ae _ _).drew⟩,rfl⟩ (by simpa using h)
theorem zV{α:Type}(f:α→O5)(size:Nat)(a:∀x,(f x).length=size):∀(X:List α)(i r:Nat),r<size→(X.flatMap f)[i*size+r]? =(X[i]?).bind fun x=>(f x)[r]?|[],i,r,_=>by simp|x::X,0,r,b=>by simp only[bj,eu,bz];rw[aL (by rw[a];exact b)];simp|x::X,i+1,r,b=>by simp only[bj];rw[aD (by rw[a,Nat.add_mul];omega),a,show(i+1)*size+r-size=i*size+r from by rw[Nat.add_mul];omega,zV f size a X i r b];simp
theorem iP{α:Type}(f:α→O5)(size:Nat)(a:∀x,(f x).length=size):∀(X:List α),(X.flatMap f).length=X.length*size|[]=>by simp|x::X=>by simp only[bj,ab,a,iP f size a X,ao,Nat.add_mul];omega
theorem RL.el{α:Type}{f:α→O5}{w:World}{size n:Nat}{A:O6}{X:List α}(c:∀x,(f x).length=size)(h:RL w size A n (X.flatMap f)){k:Nat}(q:k<n)(o:0<size):∃b a x,A=some ⟨b,a,none⟩∧b<w.heap.size∧X[k]? =some x∧∀r u,(f x)[r]? =some u→w.cell? ⟨b,a+k*size+r,none⟩=some u:=by obtain⟨b,a,e,j,l⟩:=h.2 (by omega);have d:=h.1;rw[iP f size c]at d;have p:X.length=n:=Nat.eq_of_mul_eq_mul_right o d;have i:X[k]? =some (X[k]'(by omega)):=ag _;refine⟨b,a,_,e,j,i,fun r u g=> ?_⟩;(have m:r<size:=by rw[←c (X[k]'(by omega))];exact(ah.1 g).1);have:=l (k*size+r) u (by rw[zV f size c X k r m,i];exact g);rwa[←cy]at this
def fP(b:UInt8):Value:= .int .u8 (N8 b)
def RB(w:World)(A:O6)(n:Nat)(l:O4):Prop:=RL w 1 A n (l.map fP)
section
variable {w w':World} {A:O6} {n:Nat} {l:O4}
theorem RB.len(h:RB w A n l):l.length=n:=by have:=h.1;simpa using this
theorem RB.nil(w:World)(A:O6):RB w A 0 []:=RL.nil w 1 A
theorem RB.at(h:RB w A n l){k:Nat}(g:k<n):∃b a x,A=some ⟨b,a,none⟩∧b<w.heap.size∧l[k]? =some x∧w.cell? ⟨b,a+k,none⟩=some (.int .u8 (N8 x)):=by obtain⟨b,a,e,d,f⟩:=h.2 (by omega);(have c:k<l.length:=by have:=h.len;omega);exact⟨b,a,l[k],e,d,ag c,f k _ (by simp[c,fP])⟩
theorem RB.below(h:RB w A n l)(a:Below w.heap.size w w'):RB w' A n l:=RL.below h a
theorem RB.alloc(h:RB w A n l)(o:Obj):RB (w.alloc o) A n l:=RL.alloc h o
theorem RB.cut(h:RB w A n l){k cap:Nat}(b:k≤n)(a:n≤cap):RB w (if cap=k then A else A.map (·.add k)) (n-k) (l.drop k):=by have:=RL.cut h b a;unfold RB;simpa[bT]using this
theorem RB.pre(h:RB w A n l){k:Nat}(a:k≤n):RB w A k (l.take k):=by have:=RL.pre h a;unfold RB;simpa[bP]using this
end
theorem RB.sub{w:World}{b a n:Nat}{l:O4}(h:RB w (some ⟨b,a,none⟩) n l)(i m:Nat)(o:i+m≤n):RB w (some ⟨b,a+i,none⟩) m ((l.drop i).take m):=by refine⟨by have:=h.len;simp;omega,fun p=> ?_⟩;obtain⟨k,q,e,d,f⟩:=h.2 (by omega);cases e;refine⟨b,a+i,rfl,d,fun j u c=> ?_⟩;rw[cy];refine f (i+j) u ?_;rw[←c];(have g:j<m:=by have:=(ah.1 c).1;simp at this;omega);simp[aZ,g]
theorem RB.tail{w:World}{b a n:Nat}{l:O4}(h:RB w (some ⟨b,a,none⟩) n l)(i m:Nat)(c:i+m=n):RB w (some ⟨b,a+i,none⟩) m (l.drop i):=by have:=h.sub i m (by omega);rwa[au (by have:=h.len;simp;omega)]at this
theorem yS(n:Nat):List.replicate n (Value.int .u8 0)=(List.replicate n (0:UInt8)).map fP:=by rw[List.map_replicate];rfl
theorem Hz{α:Type}{X:List α}{x z:α}{k n:Nat}(a:X[k]? =some x)(b:k<n):(X.take k++List.replicate (n-k) z).set k x=X.take (k+1)++List.replicate (n-(k+1)) z:=by have c:k<X.length:=(ah.1 a).1;(have e:(X.take k).length=k:=by simp;omega);rw[cZ _ _ (by omega),e,cM,show n-k=(n-(k+1))+1 from by omega,List.replicate_succ,List.set_cons_zero,aT,a];simp
theorem ig(l:O4):∀u∈l.map fP,u.oneCell'=true:=by intro u a;obtain⟨_,_,rfl⟩:=aJ.1 a;rfl
theorem ku{w:World}{base a:Nat}{e:TypeId}{size:Nat}{v:Value}{n:Nat}{xs:O5}(h:w.ownsRow base e size v n xs)(f:a≤base):w.ownsRow a e size v n xs:=by refine⟨h.1,?_⟩;(rcases h.2 with b|⟨g,cap,cur,c,b,d⟩);{exact .inl b};{exact .inr ⟨g,cap,cur,c,by omega,d⟩}
theorem fI{w w':World}{base:Nat}{e:TypeId}{size:Nat}{v:Value}{n:Nat}{xs:O5}(h:w.ownsRow base e size v n xs)(a:Below w.heap.size w w'):w'.ownsRow base e size v n xs:=h.kept ⟨a.os,a.tape,a.output,a.size,fun k b _=>a.block k b⟩ (by cases c:v.ownBlock<;>simp:v.ownBlock=none∨v.ownBlock≠none)
theorem jd{w:World}{base:Nat}{e:TypeId}{v:Value}{n:Nat}{xs:O5}(h:w.ownsRow base e 1 v n xs):∃A c,v= .slice A n c∧RL w 1 A n xs∧n≤c∧c≤9223372036854775807:=by have a:=h;(rcases h.2 with⟨rfl,rfl⟩|⟨g,cap,cur,rfl,_,_,d,b,_⟩);{exact⟨_,_,rfl,RL.rI a,aa _,by omega⟩};{exact⟨_,_,rfl,RL.rI a,d,by simp only[maxLen]at b;omega⟩}
theorem sy{P:Program}{w:World}{A:O6}{n:Nat}{l:O4}(h:RB w A n l)(src dst e:TypeId)(c:Nat)(k:P.underlying src=some (.slice e))(g:P.underlying e=some (.int .u8))(f:P.underlying dst=some .string):(convert src dst (.slice A n c)).run P w= .ok (.string ⟨l.toArray⟩) w:=by have o:=h.len;subst o;(rcases cg l.length with d|d);{obtain rfl:l=[]:=aR d;cases A with|none=>show(convert src dst (.slice none 0 c)).run P w=_;rw[run_convert_bytes_string w src dst e none 0 c k g f];rfl|some a=>exact run_convert_bytes_back w src dst e a c [] k g f (fun j i=>absurd i (by simp))};{obtain⟨b,p,rfl,q,m⟩:=h.2 d;refine run_convert_bytes_back w src dst e _ c l k g f (fun j i=> ?_);rw[gq];exact m j _ (by simp[i,fP];rfl)}
theorem oh{P:Program}(t e:TypeId)(j:P.underlying t=some (.slice e))(b:(P.info? e).map (·.size)=some 1)(A:O6)(n c l:Nat)(d:IntKind)(i:Int)(g:i=(l:Int))(k:l≤n)(w:World):(Instr.slice t (.slice A n c) (some (.int d i)) none none).run P w= .ok (.slice (if c=l then A else A.map (·.add l)) (n-l) (c-l)) w:=by subst g;cases a:P.info? e with|none=>simp[a]at b|some q=>simp[a]at b;have f:∀code,(Instr.sliceBound (.int d (l:Int)) n code).run P w= .ok l w:=fun code=>(run_sliceBound w _ _ _ code (dV _) (by omega)).trans (by simp);simp[Instr.slice,run_underlying j,Instr.sliceBounds,f,sizeOf,typeInfo,a,b]
theorem sB{P:Program}(t e:TypeId)(p:P.underlying t=some (.slice e))(b:(P.info? e).map (·.size)=some 1)(A:O6)(n c l h:Nat)(f d:IntKind)(i j:Int)(m:i=(l:Int))(o:j=(h:Int))(s:l≤h)(r:h≤c)(w:World):(Instr.slice t (.slice A n c) (some (.int f i)) (some (.int d j)) none).run P w= .ok (.slice (if c=l then A else A.map (·.add l)) (h-l) (c-l)) w:=by subst m o;cases a:P.info? e with|none=>simp[a]at b|some q=>simp[a]at b;have g:∀code,(Instr.sliceBound (.int f (l:Int)) h code).run P w= .ok l w:=fun code=>(run_sliceBound w _ _ _ code (dV _) (by omega)).trans (by simp);have k:∀code,(Instr.sliceBound (.int d (h:Int)) c code).run P w= .ok h w:=fun code=>(run_sliceBound w _ _ _ code (dV _) (by omega)).trans (by simp);simp[Instr.slice,run_underlying p,Instr.sliceBounds,g,k,sizeOf,typeInfo,a,b]
theorem zB{P:Program}(t e:TypeId)(m:Nat)(j:P.underlying t=some (.array m e))(b:(P.info? e).map (·.size)=some 1)(g o l:Nat)(c:IntKind)(i:Int)(f:i=(l:Int))(k:l<m)(w:World):(Instr.sliceAt t (.pointer (some ⟨g,o,none⟩)) (some (.int c i)) none none).run P w= .ok (.slice (some ⟨g,o+l,none⟩) (m-l) (m-l)) w:=by subst f;cases a:P.info? e with|none=>simp[a]at b|some q=>simp[a]at b;have d:∀code,(Instr.sliceBound (.int c (l:Int)) m code).run P w= .ok l w:=fun code=>(run_sliceBound w _ _ _ code (dV _) (by omega)).trans (by simp);simp[Instr.sliceAt,Instr.sureAddr,run_underlying j,Instr.sliceBounds,d,sizeOf,typeInfo,a,b,gq];omega
theorem RB.part{w:World}{A:O6}{n c:Nat}{l:O4}(h:RB w A n l){i m:Nat}(d:i+m≤n)(b:n≤c):RB w (if c=i then A else A.map (·.add i)) m ((l.drop i).take m):=by (rcases cg m with a|a);{subst a;simpa using RB.nil w _};{have:=(h.cut (k:=i) (by omega) b).pre (k:=m) (by omega);exact this}
theorem oB{u:Value}(h:u.oneCell'=true):∀x∈(#[u]:Array Value).toList,x.oneCell'=true:=by intro x a;simp at a;subst a;exact h
def uM(P:Program)(t e:TypeId)(z:Value)(bytes:Nat):Prop:=P.underlying t=some (.slice e)∧(∃i,P.info? e=some i∧i.zero=some z∧i.size=1∧i.bytes=bytes)∧z.cells.size=1
section
variable {P:Program} (w:World)
theorem AY(base:Nat)(t ty e:TypeId)(z:Value)(bytes:Nat)(j:uM P t e z bytes)(v:Value)(n:Nat)(xs:O5)(a:w.ownsRow base e 1 v n xs)(c:Nat):(Builtin.append_ #[t,t] ty #[v,.slice none 0 c]).run P w= .ok v w:=by obtain⟨f,⟨i,d,_,_,_⟩,_⟩:=j;(rcases a.2 with⟨rfl,rfl⟩|⟨g,cap,cur,rfl,_,_,b,_⟩);{simp[Builtin.append_,run_underlying f,sizeOf,typeInfo,d,Builtin.lenOf,Builtin.firstCells]};{simp[Builtin.append_,run_underlying f,sizeOf,typeInfo,d,Builtin.lenOf,Builtin.firstCells,b,storeCells]}
theorem se{ops:Array Oper}{rest:List Oper}{o:Oper}{a:Act}{Q:O3}(g:o.guard=none)(l c:Operand)(t:TypeId)(j:o.op=Op.makeSlice t l c)(base:Nat)(e:TypeId)(z:Value)(bytes:Nat)(A:uM P t e z bytes)(k:z.cells= #[z])(p m:IntKind)(L C:Int)(n:Nat)(F:a.eval l= .int p L)(B:a.eval c= .int m C)(y:L=(n:Int))(v:C=(n:Int))(q:bytes*n≤281474976710656)(r:n≤maxLen)(s:base≤w.heap.size)(x:∀w',w'.ownsRow base e 1 (.slice (some ⟨w.heap.size,0,none⟩) n n) n (List.replicate n z)→w.grownBy w' none→wpList P ops Q rest (a.put o.dst (.slice (some ⟨w.heap.size,0,none⟩) n n)) w'):wpList P ops Q (o::rest) a w:=by obtain⟨G,⟨i,E,H,d,f⟩,I⟩:=A;refine wpList_make_full w g l c t j base e i z 1 G E H d p m L C n F B y v (by rw[f];exact q) r s fun w' b D=>x w' ?_ D;rw[k,dG,toList_madeCells_one]at b;exact b
theorem rZ{ops:Array Oper}{rest:List Oper}{o:Oper}{a:Act}{Q:O3}(f:o.guard=none)(l c:Operand)(t:TypeId)(g:o.op=Op.makeSlice t l c)(base:Nat)(e:TypeId)(z:Value)(bytes:Nat)(v:uM P t e z bytes)(k j:IntKind)(C:Int)(n:Nat)(A:a.eval l= .int k 0)(x:a.eval c= .int j C)(r:C=(n:Int))(m:bytes*n≤281474976710656)(p:n≤maxLen)(q:base≤w.heap.size)(s:∀w',w'.ownsRow base e 1 (.slice (some ⟨w.heap.size,0,none⟩) 0 n) 0 []→w.grownBy w' none→wpList P ops Q rest (a.put o.dst (.slice (some ⟨w.heap.size,0,none⟩) 0 n)) w'):wpList P ops Q (o::rest) a w:=by obtain⟨B,⟨i,y,D,b,d⟩,E⟩:=v;exact wpList_make_own w f l c t g base e i z 1 B y D b k j C n A x r (by rw[d];exact m) p q s
theorem Kw(base:Nat)(t ty e:TypeId)(z:Value)(bytes:Nat)(E:uM P t e z bytes)(v:Value)(n:Nat)(xs:O5)(d:w.ownsRow base e 1 v n xs)(A:O6)(m c:Nat)(a:O5)(q:RL w 1 A m a)(G:∀u∈a,u.oneCell'=true)(s:n+m≤maxLen)(f:(n+m)*bytes≤140737488355328)(l:base≤w.heap.size):∃p w',(Builtin.append_ #[t,t] ty #[v,.slice A m c]).run P w= .ok p w'∧w'.ownsRow base e 1 p (n+m) (xs++a)∧w.grownBy w' v.ownBlock∧(p.ownBlock=v.ownBlock∨p.ownBlock=some w.heap.size):=by have x:=E;obtain⟨N,⟨i,L,O,o,y⟩,C⟩:=E;(rcases A with _|D);{(have M:m=0:=by (rcases cg m with k|k);{exact k};{obtain⟨_,_,h,_⟩:=q.2 k;cases h});subst M;have B:a=[]:=aR (by simpa using q.1);subst B;exact⟨v,w,AY w base t ty e z bytes x v n xs d c,by simpa using d,World.grownBy.refl w _,.inl rfl⟩};{(have g:∀j u,a[j]? =some u→w.cell? (D.add j)=some u:=by intro j u F;(rcases cg m with k|k);{subst k;have B:a=[]:=aR (by simpa using q.1);subst B;simp at F};{obtain⟨b,Q,h,_,K⟩:=q.2 k;injection h with h;subst h;rw[gq];exact K j u F});obtain⟨p,w',r,H,I,_,J⟩:=run_append_own_at (P:=P) w base t ty e i z 1 bytes N L O o y C (by omega) v n xs d D m c a q.1 g G s f l;exact⟨p,w',r,H,I,J⟩}
theorem iF{ops:Array Oper}{rest:List Oper}{o:Oper}{a:Act}{Q:O3}(l:o.guard=none)(s x:Operand)(t:TypeId)(D:o.op= .call {callee:= .builtin .append,args:= #[s,x],argTypes:= #[t,t]})(base:Nat)(e:TypeId)(z:Value)(bytes:Nat)(C:uM P t e z bytes)(v:Value)(n:Nat)(xs:O5)(i:w.ownsRow base e 1 v n xs)(F:a.eval s=v)(A:O6)(m c:Nat)(b:O5)(E:RL w 1 A m b)(G:a.eval x= .slice A m c)(p:∀u∈b,u.oneCell'=true)(k:n+m≤maxLen)(d:(n+m)*bytes≤140737488355328)(f:base≤w.heap.size)(h:∀g w',w'.ownsRow base e 1 g (n+m) (xs++b)→w.grownBy w' v.ownBlock→(g.ownBlock=v.ownBlock∨g.ownBlock=some w.heap.size)→wpList P ops Q rest (a.put o.dst g) w'):wpList P ops Q (o::rest) a w:=by refine wpList_plain l fun K B=> ?_;obtain⟨g,w',j,q,r,y⟩:=Kw (P:=P) w base t o.type e z bytes C v n xs i A m c b E p k d f;unfold Oper.wp execOp;simp only[D,resolve,invoke,builtin,Sem.run_bind,Sem.run_pure,Result.andThen_ok,eZ,aA,cL,F,G,j];exact B _ _ (h g w' q r y)
end
end Go.Proofs.YtlpbeifnibodoaaGreatDoor
