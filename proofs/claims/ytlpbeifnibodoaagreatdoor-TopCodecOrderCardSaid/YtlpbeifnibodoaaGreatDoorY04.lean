/- Lemmas. Conditions: those of each. -/
import Derived.Test.YtlpbeifnibodoaaGreatDoorY03
import Derived.Laws.CopyOwn
import Derived.Maps.RangeWalk
set_option linter.all false
set_option maxRecDepth 100000
set_option maxHeartbeats 16000000
namespace Go.Proofs.YtlpbeifnibodoaaGreatDoor
open Go.RowKit
section
def fo(w:World)(g:Nat)(t:TypeId)(cs:O5):Prop:=w.heap[g]? =some (.cells cs.toArray t (0,0))
section
variable {w w':World} {g:Nat} {t:TypeId} {cs:O5}
theorem fo.lt(h:fo w g t cs):g<w.heap.size:=(dH.1 h).1
theorem fo.cell(h:fo w g t cs)(i:Nat):w.cell? ⟨g,i,none⟩=cs[i]? :=by rw[cell_of_row w g i cs.toArray t (0,0) h];simp
theorem fo.frozen(h:fo w g t cs)(i:Nat):w.frozen? ⟨g,i,none⟩=false:=frozen_of_row w g i cs.toArray t h
theorem fo.new(w:World)(t:TypeId)(cs:O5):fo (w.alloc (.cells cs.toArray t)) w.heap.size t cs:=heap_alloc_new w _
theorem fo.below{B:Nat}(h:fo w g t cs)(a:Below B w w')(b:g<B):fo w' g t cs:=(a.block g b).trans h
theorem fo.fg(h:fo w g t cs)(a:Below w.heap.size w w'):fo w' g t cs:=h.below a h.lt
theorem fo.grown{a:Option Nat}(h:fo w g t cs)(b:w.grownBy w' a)(c:a≠some g):fo w' g t cs:=(b.block g h.lt (fun e=>c e.symm)).trans h
theorem fo.rq(h:fo w g t cs)(i:Nat)(u:Value):fo (w.setCell ⟨g,i,none⟩ u) g t (cs.set i u):=by have:=heap_setCell_same w g i cs.toArray t u h;unfold fo;rw[this];simp
theorem fo.rp(h:fo w g t cs)(i:Nat)(u:Value):w.grownBy (w.setCell ⟨g,i,none⟩ u) (some g):=⟨rfl,rfl,rfl,by simp,fun k _ a=>heap_setCell_other w ⟨g,i,none⟩ k u (fun e=>a (by simp[e]))⟩
theorem fo.rl(h:fo w g t cs)(a n size:Nat)(c:a+n*size≤cs.length):RL w size (some ⟨g,a,none⟩) n ((cs.drop a).take (n*size)):=by refine⟨by simp;omega,fun _=>⟨g,a,rfl,h.lt,fun j u b=> ?_⟩⟩;rw[h.cell];rw[aZ]at b;split at b;{rw[bC]at b;exact b};{cases b}
end
theorem fo.fz{w:World}{g:Nat}{t:TypeId}{cs:O5}(h:fo w g t cs):∀i,w.frozen? ⟨g,i,none⟩=false:=h.frozen
theorem fo.c1{w:World}{g:Nat}{t:TypeId}{a:Value}(h:fo w g t [a]):w.cell? ⟨g,0,none⟩=some a:=h.cell 0
theorem fo.c2{w:World}{g:Nat}{t:TypeId}{a b:Value}(h:fo w g t [a,b]):w.cell? ⟨g,0,none⟩=some a∧w.cell? ⟨g,1,none⟩=some b:=⟨h.cell 0,h.cell 1⟩
theorem fo.c3{w:World}{g:Nat}{t:TypeId}{a b c:Value}(h:fo w g t [a,b,c]):w.cell? ⟨g,0,none⟩=some a∧w.cell? ⟨g,1,none⟩=some b∧w.cell? ⟨g,2,none⟩=some c:=⟨h.cell 0,h.cell 1,h.cell 2⟩
theorem fo.c4{w:World}{g:Nat}{t:TypeId}{a b c d:Value}(h:fo w g t [a,b,c,d]):w.cell? ⟨g,0,none⟩=some a∧w.cell? ⟨g,1,none⟩=some b∧w.cell? ⟨g,2,none⟩=some c∧w.cell? ⟨g,3,none⟩=some d:=⟨h.cell 0,h.cell 1,h.cell 2,h.cell 3⟩
theorem fo.c5{w:World}{g:Nat}{t:TypeId}{a b c d e:Value}(h:fo w g t [a,b,c,d,e]):w.cell? ⟨g,0,none⟩=some a∧w.cell? ⟨g,1,none⟩=some b∧w.cell? ⟨g,2,none⟩=some c∧w.cell? ⟨g,3,none⟩=some d∧w.cell? ⟨g,4,none⟩=some e:=⟨h.cell 0,h.cell 1,h.cell 2,h.cell 3,h.cell 4⟩
theorem fo.c7{w:World}{g:Nat}{t:TypeId}{a b c d e f h:Value}(k:fo w g t [a,b,c,d,e,f,h]):w.cell? ⟨g,0,none⟩=some a∧w.cell? ⟨g,1,none⟩=some b∧w.cell? ⟨g,2,none⟩=some c∧w.cell? ⟨g,3,none⟩=some d∧w.cell? ⟨g,4,none⟩=some e∧w.cell? ⟨g,5,none⟩=some f∧w.cell? ⟨g,6,none⟩=some h:=⟨k.cell 0,k.cell 1,k.cell 2,k.cell 3,k.cell 4,k.cell 5,k.cell 6⟩
def nB(w:World)(g:Nat)(t:TypeId)(l:O4):Prop:=fo w g t (l.map fP)
theorem nB.rb{w:World}{g:Nat}{t:TypeId}{l:O4}(h:nB w g t l)(a n:Nat)(b:a+n≤l.length):RB w (some ⟨g,a,none⟩) n ((l.drop a).take n):=by have:=fo.rl h a n 1 (by simpa using b);unfold RB;simpa[bP,bT]using this
section
variable {P:Program} {ops:Array Oper} {rest:List Oper} {Q:O3} {a:Act} {w:World} {ty:TypeId} {ps:String} {af:Array Edge} {d:Option Tmp} {g:Option (Nat×Bool)}
theorem fq(t:TypeId)(h:wpList P ops Q (⟨d,Op.alloc t,ty,ps,af,g⟩::rest) a w):wpList P ops Q (⟨d,Op.alloc t,ty,ps,af,g⟩::rest) a w:=h
theorem fp(t:TypeId){x:Operand}(h:wpList P ops Q (⟨d,Op.load t x,ty,ps,af,g⟩::rest) a w):wpList P ops Q (⟨d,Op.load t x,ty,ps,af,g⟩::rest) a w:=h
theorem fk(t:TypeId){x y:Operand}(h:wpList P ops Q (⟨d,Op.store t x y,ty,ps,af,g⟩::rest) a w):wpList P ops Q (⟨d,Op.store t x y,ty,ps,af,g⟩::rest) a w:=h
theorem nK{as9:Array Operand}{b:Array TypeId}(h:wpList P ops Q (⟨d,Op.call {callee:= .builtin .copy,args:=as9,argTypes:=b},ty,ps,af,g⟩::rest) a w):wpList P ops Q (⟨d,Op.call {callee:= .builtin .copy,args:=as9,argTypes:=b},ty,ps,af,g⟩::rest) a w:=h
end
theorem nB.cells{w:World}{g:Nat}{t:TypeId}{l:O4}(h:nB w g t l){n:Nat}(a:l.length=n):RB w (some ⟨g,0,none⟩) n l:=by have:=h.rb 0 n (by omega);rwa[aG,au (by omega)]at this
theorem zG{w:World}{base:Nat}{e:TypeId}{g n:Nat}{xs:O5}(h:w.ownsRow base e 1 (.slice (some ⟨g,0,none⟩) n n) n xs):fo w g e xs:=by obtain⟨i,h|⟨d,cap,cur,b,_,c,_,_,f,a⟩⟩:=h;{cases h.1};{cases b;unfold fo;rw[c];have:cur.toList.take (n*1)=cur.toList:=au (by simp;omega);rw[this]at a;rw[←a]}
theorem rH{w:World}{base:Nat}{e:TypeId}{g n:Nat}{xs:O5}(h:fo w g e xs)(b:base≤g)(a:xs.length=n)(c:n≤9223372036854775807):w.ownsRow base e 1 (.slice (some ⟨g,0,none⟩) n n) n xs:=⟨by rw[a,dG],.inr ⟨g,n,xs.toArray,rfl,b,h,aa _,by unfold maxLen;exact c,by simp[a],by rw[au (by simp;omega)]⟩⟩
theorem fo.list{w:World}{g:Nat}{t:TypeId}{cs:O5}{n:Nat}(h:fo w g t cs)(a:cs.length=n):RL w 1 (some ⟨g,0,none⟩) n cs:=by have:=h.rl 0 n 1 (by omega);rwa[aG,au (by omega)]at this
def iQ(m:Nat):O4:=List.replicate m 0
theorem tu(m:Nat):(iQ m).length=m:=by simp[iQ]
theorem Ef(k m:Nat):(iQ m).drop k=iQ (m-k):=by simp[iQ]
theorem Ha{m k:Nat}(h:k<m):(iQ m)[k]? =some 0:=by simp[iQ,h]
theorem vp{m:Nat}(h:0<m):iQ m=0::iQ (m-1):=by obtain⟨k,rfl⟩:∃k,m=k+1:=⟨m-1,by omega⟩;rfl
theorem wS(pre xs:O4)(m a:Nat)(b:pre.length=a):((pre++iQ m).map fP).take a++xs.map fP++((pre++iQ m).map fP).drop (a+xs.length)=((pre++xs)++iQ (m-xs.length)).map fP:=by subst b;rw[←bP,←bT,←aF,←aF];congr 1;have e:List.drop (pre.length+xs.length) pre=[]:=dF (by omega);simp[List.take_append,List.drop_append,e,Ef]
theorem Ji(pre:O4)(x:UInt8)(m a:Nat)(c:pre.length=a)(b:0<m):((pre++iQ m).map fP).set a (fP x)=((pre++[x])++iQ (m-1)).map fP:=by subst c;rw[←List.map_set,cZ _ _ (by omega),vp b];simp
def jm(P:Program)(t:TypeId)(cs:O5):Prop:=(P.info? t).map (fun i=>(i.zero,i.size))=some (some (.agg cs.toArray),cs.length)
section
variable {P:Program} {ops:Array Oper} {rest:List Oper} {Q:O3} {a:Act} {w:World} {ty:TypeId} {ps:String} {af:Array Edge}
theorem Gc{t:TypeId}{cs:O5}(a:jm P t cs)(w:World):(zeroValue t).run P w= .ok (.agg cs.toArray) w:=by unfold jm at a;cases b:P.info? t with|none=>simp[b]at a|some i=>simp[b]at a;simp[zeroValue,typeInfo,b,a.1]
theorem nL(t:TypeId)(cs:O5)(a:jm P t cs)(w:World):(Instr.alloc t true (.tuple #[])).run P w= .ok (.pointer (some ⟨w.heap.size,0,none⟩)) (w.alloc (.cells cs.toArray t)):=by unfold jm at a;cases b:P.info? t with|none=>simp[b]at a|some i=>simp[b]at a;(have c:(zeroValue t).run P w= .ok (.agg cs.toArray) w:=by simp[zeroValue,typeInfo,b,a.1]);simp[Instr.alloc,c,newVar,Value.cells];rfl
theorem ft{d:Tmp}{t:TypeId}(cs:O5)(e:jm P t cs)(c:∀w',fo w' w.heap.size t cs→Below w.heap.size w w'→w'.heap.size=w.heap.size+1→wpList P ops Q rest (a.put (some d) (.pointer (some ⟨w.heap.size,0,none⟩))) w'):wpList P ops Q (⟨some d,Op.alloc t,ty,ps,af,none⟩::rest) a w:=by refine wpList_plain rfl fun K b=> ?_;unfold Oper.wp;simp[execOp,nL t cs e,Result.andThen,Oper.upon];exact b _ _ (c _ (fo.new _ _ _) ((ae _ _).alloc (aa _) _) (by simp))
theorem ij{d:Tmp}{t:TypeId}(H:Nat)(hH:w.heap.size=H)(cs:O5)(c:jm P t cs)(b:∀w',fo w' H t cs→Below H w w'→w'.heap.size=H+1→wpList P ops Q rest (a.put (some d) (.pointer (some ⟨H,0,none⟩))) w'):wpList P ops Q (⟨some d,Op.alloc t,ty,ps,af,none⟩::rest) a w:=by subst hH;exact ft cs c b
theorem Au{d:Tmp}{t:TypeId}{x:Operand}(g n:Nat)(e b:TypeId)(cs:O5)(c:fo w g b cs)(i:P.underlying t=some (.array n e))(f:(P.info? t).map (·.size)=some cs.length)(j:a.eval x= .pointer (some ⟨g,0,none⟩))(h:wpList P ops Q rest (a.put (some d) (.agg cs.toArray)) w):wpList P ops Q (⟨some d,Op.load t x,ty,ps,af,none⟩::rest) a w:=wpList_load_row rfl t x rfl g j b cs.toArray (0,0) _ c i rfl (by simpa using f) h
theorem fF{t:TypeId}{x y:Operand}(g:Nat)(c:TypeId)(cur cs:O5)(j:fo w g c cur)(d:(P.info? t).map (·.size)=some cs.length)(s:cur.length=cs.length)(n:∀v∈cs,v.oneCell'=true)(q:a.eval x= .pointer (some ⟨g,0,none⟩))(r:a.eval y= .agg cs.toArray)(h:∀w',fo w' g c cs→w.grownBy w' (some g)→wpList P ops Q rest (a.put none undef) w'):wpList P ops Q (⟨none,Op.store t x y,ty,ps,af,none⟩::rest) a w:=by refine wpList_plain rfl fun K o=> ?_;have l:=run_storeCells_at P g 0 c cs 0 cur.toArray w j (by simp;omega) n;(have b:(Instr.storeAt t (.pointer (some ⟨g,0,none⟩)) (.agg cs.toArray)).run P w= .ok () (w.setRow g cs.toArray):=by cases f:P.info? t with|none=>simp[f]at d|some i=>simp[f]at d;(have m:(cur.toArray.toList.take (0+0)++cs++cur.toArray.toList.drop (0+0+cs.length)).toArray=cs.toArray:=by simp;omega);rw[m]at l;simp[Instr.storeAt,Instr.sureAddr,storeVar,sizeOf,typeInfo,f,Value.cells,d,l]);unfold Oper.wp;simp[execOp,q,r,b,Result.andThen,Oper.upon];exact o _ _ (h _ (setRow_heap w g _ _ c _ j) ⟨rfl,rfl,rfl,by simp[World.setRow],fun k _ p=>setRow_other w g k _ (fun e=>p (by rw[e]))⟩)
theorem jO{t:TypeId}{x y:Operand}(g b:Nat)(d:TypeId)(cur cs:O5)(v:Value)(l:fo w g d cur)(q:v.cells=cs.toArray)(f:(P.info? t).map (·.size)=some cs.length)(z:b+cs.length≤cur.length)(n:∀v∈cs,v.oneCell'=true)(r:a.eval x= .pointer (some ⟨g,b,none⟩))(s:a.eval y=v)(h:∀w',fo w' g d (cur.take b++cs++cur.drop (b+cs.length))→w.grownBy w' (some g)→wpList P ops Q rest (a.put none undef) w'):wpList P ops Q (⟨none,Op.store t x y,ty,ps,af,none⟩::rest) a w:=by refine wpList_plain rfl fun K o=> ?_;have m:=run_storeCells_at P g b d cs 0 cur.toArray w l (by simp;omega) n;(have c:(Instr.storeAt t (.pointer (some ⟨g,b,none⟩)) v).run P w= .ok () (w.setRow g (cur.take b++cs++cur.drop (b+cs.length)).toArray):=by cases j:P.info? t with|none=>simp[j]at f|some i=>simp[j]at f;simp only[dX]at m;simp[Instr.storeAt,Instr.sureAddr,storeVar,sizeOf,typeInfo,j,q,f];simpa using m);unfold Oper.wp;simp only[execOp,r,s,c,Sem.run_bind,Result.andThen,Oper.upon,Sem.run_pure];refine o _ _ (h _ ?_ ⟨rfl,rfl,rfl,by simp[World.setRow],fun k _ p=>setRow_other w g k _ (fun e=>p (by rw[e]))⟩);have:=setRow_heap w g cur.toArray ((cur.take b++cs++cur.drop (b+cs.length)).toArray) d _ l;unfold fo;rw[this]
theorem fK{t:TypeId}{x y:Operand}(g b:Nat)(d:TypeId)(cur:O5)(v:Value)(i:fo w g d cur)(l:v.cells= #[v])(j:(P.info? t).map (·.size)=some 1)(e:b<cur.length)(f:v.oneCell'=true)(m:a.eval x= .pointer (some ⟨g,b,none⟩))(n:a.eval y=v)(h:∀w',fo w' g d (cur.set b v)→w.grownBy w' (some g)→wpList P ops Q rest (a.put none undef) w'):wpList P ops Q (⟨none,Op.store t x y,ty,ps,af,none⟩::rest) a w:=by refine jO g b d cur [v] v i l j e (by simpa using f) m n fun w' c k=>h w' ?_ k;rw[List.set_eq_take_append_cons_drop,aq e];simpa using c
theorem jx{G:Option Tmp}{p z:TypeId}{x y:Operand}(g f d i:Nat)(e r:TypeId)(cur:O5)(t:fo w g r cur)(D:P.underlying p=some (.slice e))(m:(P.info? e).map (·.size)=some 1)(A:O6)(n c:Nat)(xs:O5)(C:RL w 1 A n xs)(H:∀v∈xs,v.oneCell'=true)(E:a.eval x= .slice (some ⟨g,f,none⟩) d i)(F:a.eval y= .slice A n c)(B:f+d≤cur.length)(h:∀w',fo w' g r (cur.take f++xs.take (min n d)++cur.drop (f+min n d))→w.grownBy w' (some g)→wpList P ops Q rest (a.put G (goInt (min n d:Nat))) w'):wpList P ops Q (⟨G,Op.call {callee:= .builtin .copy,args:= #[x,y],argTypes:= #[p,z]},ty,ps,af,none⟩::rest) a w:=by by_cases s:min n d=0;{refine wpList_copy_nothing rfl x y p z rfl e D m _ _ _ _ _ _ E F s ?_;have:=h w (by rw[s];simpa using t) (World.grownBy.refl w _);rw[s]at this;exact this};{obtain⟨b,o,rfl,L,I⟩:=C.2 (by omega);have M:=C.1;(have l:(xs.take (min n d)).length=min n d:=by simp;omega);refine wpList_copy_own rfl x y p z rfl e D m g f d i ⟨b,o,none⟩ n c E F cur.toArray r t (xs.take (min n d)) l (fun j v q=> ?_) (by simp;omega) (fun v K=>H v (bL K)) ?_;{rw[gq];rw[aZ]at q;split at q;{exact I j v q};{cases q}};{rw[l];refine h _ ?_ ⟨rfl,rfl,rfl,by simp[World.setRow],fun k _ J=>setRow_other w g k _ (fun e=>J (by rw[e]))⟩;have:=setRow_heap w g cur.toArray ((cur.toArray.toList.take f++(xs.take (min n d)++cur.toArray.toList.drop (f+min n d))).toArray) r _ t;unfold fo;rw[this];simp}}
theorem Aw{t:Option Tmp}{o v:TypeId}{x y:Operand}(g c d f:Nat)(e n:TypeId)(cur:O5)(r:fo w g n cur)(D:P.underlying o=some (.slice e))(p:(P.info? e).map (·.size)=some 1)(l:O4)(E:a.eval x= .slice (some ⟨g,c,none⟩) d f)(F:a.eval y= .string ⟨l.toArray⟩)(q:c+d≤cur.length)(A:l.length≤d)(h:∀w',fo w' g n (cur.take c++l.map fP++cur.drop (c+l.length))→w.grownBy w' (some g)→wpList P ops Q rest (a.put t (goInt l.length)) w'):wpList P ops Q (⟨t,Op.call {callee:= .builtin .copy,args:= #[x,y],argTypes:= #[o,v]},ty,ps,af,none⟩::rest) a w:=by refine wpList_plain rfl fun K z=> ?_;have C:=run_storeCells_at P g c n (l.map fP) 0 cur.toArray w r (by simp;omega) (ig l);(have m:(Builtin.copy_ #[o,v] ty #[.slice (some ⟨g,c,none⟩) d f,.string ⟨l.toArray⟩]).run P w= .ok (goInt l.length) (w.setRow g (cur.take c++l.map fP++cur.drop (c+l.length)).toArray):=by cases s:P.info? e with|none=>simp[s]at p|some i=>(have j:(⟨l.toArray⟩:ByteArray).size.min d=l.length:=by show Nat.min l.toArray.size d=_;rw[List.size_toArray];exact dq A);(have hex:(Array.map (fun b:UInt8=>Value.int .u8 ↑b.toNat) ((⟨l.toArray⟩:ByteArray).extract 0 l.length).data).toList=l.map fP:=by (have:((⟨l.toArray⟩:ByteArray).extract 0 l.length).data=l.toArray:=by rw[ByteArray.data_extract];simp);rw[this];simp[fP,N8]);simp[Builtin.copy_,run_underlying D,Builtin.lenOf,j,sizeOf,typeInfo,s,Builtin.firstCells,hex];(have e2:(List.take l.length (List.map (fun b:UInt8=>Value.int .u8 ↑b.toNat) l))=l.map fP:=by rw[au (by simp)];rfl);rw[e2,C];simp[Result.andThen]);unfold Oper.wp;simp[execOp,resolve,invoke,builtin,E,F,m,Result.andThen,Oper.upon];refine z _ _ (h _ ?_ ⟨rfl,rfl,rfl,by simp[World.setRow],fun k _ B=>setRow_other w g k _ (fun e=>B (by rw[e]))⟩);have:=setRow_heap w g cur.toArray ((cur.take c++(l.map fP++cur.drop (c+l.length))).toArray) n _ r;unfold fo;rw[this];simp
theorem pK{s:Option Tmp}{p E:TypeId}{x y:Operand}(g d b f:Nat)(e o:TypeId)(pre:O4)(m:Nat)(t:nB w g o (pre++iQ m))(z:pre.length=d)(B:P.underlying p=some (.slice e))(j:(P.info? e).map (·.size)=some 1)(A:O6)(n c:Nat)(l:O4)(r:RB w A n l)(C:a.eval x= .slice (some ⟨g,d,none⟩) b f)(D:a.eval y= .slice A n c)(q:b≤m)(h:∀w',nB w' g o ((pre++l.take (min n b))++iQ (m-min n b))→w.grownBy w' (some g)→wpList P ops Q rest (a.put s (goInt (min n b:Nat))) w'):wpList P ops Q (⟨s,Op.call {callee:= .builtin .copy,args:= #[x,y],argTypes:= #[p,E]},ty,ps,af,none⟩::rest) a w:=by (have v:(l.take (min n b)).length=min n b:=by have:=r.1;simp at this;simp;omega);refine jx g d b f e o _ t B j A n c _ r (ig l) C D (by simp[tu];omega) fun w' k i=>h w' ?_ i;have:=wS pre (l.take (min n b)) m d z;rw[v]at this;unfold nB;rw[←this,bP];exact k
theorem FR{p:Option Tmp}{n A:TypeId}{x y:Operand}(g c b d:Nat)(e k:TypeId)(pre:O4)(m:Nat)(r:nB w g k (pre++iQ m))(s:pre.length=c)(t:P.underlying n=some (.slice e))(i:(P.info? e).map (·.size)=some 1)(l:O4)(v:a.eval x= .slice (some ⟨g,c,none⟩) b d)(z:a.eval y= .string ⟨l.toArray⟩)(o:b≤m)(q:l.length≤b)(h:∀w',nB w' g k ((pre++l)++iQ (m-l.length))→w.grownBy w' (some g)→wpList P ops Q rest (a.put p (goInt l.length)) w'):wpList P ops Q (⟨p,Op.call {callee:= .builtin .copy,args:= #[x,y],argTypes:= #[n,A]},ty,ps,af,none⟩::rest) a w:=by refine Aw g c b d e k _ r t i l v z (by simp[tu];omega) q fun w' j f=>h w' ?_ f;unfold nB;rw[←wS pre l m c s];exact j
end
end
abbrev fm (w w' : World) : Prop := Below w.heap.size w w'
theorem sN {a b : Nat} (h : a ≠ b) : ¬ some a = some b := fun e => h (ak e)
theorem aI {a b : Prop} (h : a) (g : b) : a ∧ b := ⟨h, g⟩
theorem bA {w : World} (o : Obj) : Below w.heap.size w (w.alloc o) := (ae _ _).alloc (aa _) _
theorem box (w : World) (t : TypeId) (cs : O5) : fo (w.alloc (.cells cs.toArray t)) w.heap.size t cs ∧ Below w.heap.size w (w.alloc (.cells cs.toArray t)) ∧ (w.alloc (.cells cs.toArray t)).heap.size = w.heap.size + 1 := ⟨fo.new w t cs, bA _, by simp⟩
section
def RN(N:Nat→Prop)(w:World)(size:Nat)(A:O6)(n:Nat)(xs:O5):Prop:=RL w size A n xs∧∀b o,A=some ⟨b,o,none⟩→0<n→N b
section
variable {N N':Nat→Prop} {w w':World} {size:Nat} {A:O6} {n:Nat} {xs:O5}
theorem RN.rl(h:RN N w size A n xs):RL w size A n xs:=h.1
theorem RN.fg(h:RN N w size A n xs)(a:fm w w'):RN N w' size A n xs:=⟨h.1.below a,h.2⟩
theorem RN.mono(h:RN N w size A n xs)(c:∀b,N b→N' b):RN N' w size A n xs:=⟨h.1,fun b o a d=>c b (h.2 b o a d)⟩
theorem RN.lt(h:RN N w size A n xs):RN (fun b=>N b∧b<w.heap.size) w size A n xs:=⟨h.1,fun b o a c=>⟨h.2 b o a c,by obtain⟨f,g,e,d,_⟩:=h.1.2 c;rw[a]at e;cases e;exact d⟩⟩
theorem RN.grown{a:Option Nat}(h:RN N w size A n xs)(f:w.grownBy w' a)(j:∀g,a=some g→¬N g):RN N w' size A n xs:=⟨h.1.grown f (fun g c i b o d e=>j g c (e▸h.2 b o d i)),h.2⟩
theorem RN.nil(N:Nat→Prop)(w:World)(size:Nat)(A:O6):RN N w size A 0 []:=⟨RL.nil w size A,fun _ _ _ h=>absurd h (by omega)⟩
theorem RN.own{base:Nat}{e:TypeId}{c:Nat}(h:w.ownsRow base e size (.slice A n c) n xs)(d:∀b,base≤b→N b):RN N w size A n xs:=by refine⟨RL.rI h,fun b o a f=> ?_⟩;subst a;exact d b (h.lt b rfl).1
theorem RN.all(h:RL w size A n xs):RN (fun _=>True) w size A n xs:=⟨h,fun _ _ _ _=>trivial⟩
theorem RN.pre(h:RN N w size A n xs){k:Nat}(c:k≤n):RN N w size A k (xs.take (k*size)):=⟨h.1.pre c,fun b o a d=>h.2 b o a (by omega)⟩
end
structure Sl where
 (A:O6) (n c:Nat)
def Sl.v(s:Sl):Value:= .slice s.A s.n s.c
theorem Sl.one(s:Sl):s.v.oneCell'=true:=rfl
structure vh (N:Nat→Prop) (w:World) (s:Sl) (l:O4):Prop where
 r:RN N w 1 s.A s.n (l.map fP)
 nc:s.n≤s.c
 cm:s.c≤9223372036854775807
section
variable {N N':Nat→Prop} {w w':World} {s:Sl} {l:O4}
theorem vh.rb(h:vh N w s l):RB w s.A s.n l:=h.r.1
theorem vh.len(h:vh N w s l):l.length=s.n:=h.rb.len
theorem vh.fg(h:vh N w s l)(a:fm w w'):vh N w' s l:=⟨h.r.fg a,h.nc,h.cm⟩
theorem vh.mono(h:vh N w s l)(a:∀b,N b→N' b):vh N' w s l:=⟨h.r.mono a,h.nc,h.cm⟩
theorem vh.lt(h:vh N w s l):vh (fun b=>N b∧b<w.heap.size) w s l:=⟨h.r.lt,h.nc,h.cm⟩
theorem vh.grown{a:Option Nat}(h:vh N w s l)(b:w.grownBy w' a)(c:∀g,a=some g→¬N g):vh N w' s l:=⟨h.r.grown b c,h.nc,h.cm⟩
theorem vh.own{base:Nat}{e:TypeId}{v:Value}{n:Nat}(h:w.ownsRow base e 1 v n (l.map fP))(a:∀b,base≤b→N b):∃s:Sl,v=s.v∧s.n=n∧vh N w s l:=by obtain⟨A,c,rfl,g,d,f⟩:=jd h;exact⟨⟨A,n,c⟩,rfl,rfl,RN.own h a,d,f⟩
end
def tm(N:Nat→Prop)(w:World)(b:List Sl)(a:List O4):Prop:=b.length=a.length∧∀(i:Nat)(s:Sl)(l:O4),b[i]? =some s→a[i]? =some l→vh N w s l
section
variable {N N':Nat→Prop} {w w':World} {ss:List Sl} {ls:List O4}
theorem tm.fg(h:tm N w ss ls)(c:fm w w'):tm N w' ss ls:=⟨h.1,fun i s l a b=>(h.2 i s l a b).fg c⟩
theorem tm.mono(h:tm N w ss ls)(d:∀b,N b→N' b):tm N' w ss ls:=⟨h.1,fun i s l a c=>(h.2 i s l a c).mono d⟩
theorem tm.lt(h:tm N w ss ls):tm (fun b=>N b∧b<w.heap.size) w ss ls:=⟨h.1,fun i s l a c=>(h.2 i s l a c).lt⟩
theorem tm.grown{a:Option Nat}(h:tm N w ss ls)(d:w.grownBy w' a)(e:∀g,a=some g→¬N g):tm N w' ss ls:=⟨h.1,fun i s l b c=>(h.2 i s l b c).grown d e⟩
theorem tm.nil:tm N w [] []:=⟨rfl,fun i s l h=>by simp at h⟩
theorem tm.at(h:tm N w ss ls){i:Nat}{l:O4}(a:ls[i]? =some l):∃s,ss[i]? =some s∧vh N w s l:=by have c:=(ah.1 a).1;have b:ss[i]? =some (ss[i]'(by rw[h.1];exact c)):=ag _;exact⟨_,b,h.2 i _ l b a⟩
theorem tm.snoc(h:tm N w ss ls){s:Sl}{l:O4}(d:vh N w s l):tm N w (ss++[s]) (ls++[l]):=by refine⟨by simp[h.1],fun i f e a c=> ?_⟩;(rcases ef i ss.length with b|b|b);{rw[aL b]at a;rw[aL (by rw[←h.1];exact b)]at c;exact h.2 i f e a c};{rw[b,dW]at a;rw[b,h.1,dW]at c;cases a;cases c;exact d};{rw[bV (by simp;omega)]at a;cases a}
theorem tm.set(h:tm N w ss ls){s:Sl}{l:O4}(d:vh N w s l)(k:Nat):tm N w (ss.set k s) (ls.set k l):=by refine⟨by simp[h.1],fun i f e a b=> ?_⟩;rw[cJ]at a b;by_cases c:k=i;{rw[aq c]at a b;split at a;{rw[aq (by rw[←h.1];assumption)]at b;cases a;cases b;exact d};{cases a}};{rw[ai c]at a b;exact h.2 i f e a b}
theorem tm.app{s:Sl}{l:O4}{v e:Value}(h:tm (fun b=>N b∧v.ownBlock≠some b) w ss ls)(k:vh (fun b=>N b∧v.ownBlock≠some b) w s l)(j:w.grownBy w' v.ownBlock)(a:e.ownBlock=v.ownBlock∨e.ownBlock=some w.heap.size):tm (fun b=>N b∧e.ownBlock≠some b) w' (ss++[s]) (ls++[l]):=by refine((h.snoc k).lt.grown j (fun g i f=>f.1.2 i)).mono fun b c=>⟨c.1.1,fun d=> ?_⟩;(rcases a with a|a);{exact c.1.2 (a▸d)};{rw[a]at d;cases d;exact absurd c.2 (by omega)}
end
end
end Go.Proofs.YtlpbeifnibodoaaGreatDoor
