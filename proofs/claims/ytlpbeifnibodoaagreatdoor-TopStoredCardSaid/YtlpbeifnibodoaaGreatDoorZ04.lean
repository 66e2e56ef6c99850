/- Lemmas. Conditions: those of each. -/
import Derived.Test.YtlpbeifnibodoaaGreatDoorZ03
import Derived.Laws.CopyOwn
import Derived.Maps.RangeWalk
set_option linter.all false
set_option maxRecDepth 100000
set_option maxHeartbeats 16000000
namespace Go.Proofs.YtlpbeifnibodoaaGreatDoor
open Go.RowKit
section
def fB(w:World)(g:Nat)(t:TypeId)(cs:Qg):Prop:=w.heap[g]? =some (.cells cs.toArray t (0,0))
section
variable {w w':World} {g:Nat} {t:TypeId} {cs:Qg}
theorem fB.lt(h:fB w g t cs):g<w.heap.size:=(dB.1 h).1
theorem fB.cell(h:fB w g t cs)(i:Nat):w.cell? ⟨g,i,none⟩=cs[i]? :=by rw[cell_of_row w g i cs.toArray t (0,0) h];simp
theorem fB.frozen(h:fB w g t cs)(i:Nat):w.frozen? ⟨g,i,none⟩=false:=frozen_of_row w g i cs.toArray t h
theorem fB.new(w:World)(t:TypeId)(cs:Qg):fB (w.alloc (.cells cs.toArray t)) w.heap.size t cs:=heap_alloc_new w _
theorem fB.below{B:Nat}(h:fB w g t cs)(a:Below B w w')(b:g<B):fB w' g t cs:=(a.block g b).trans h
theorem fB.fv(h:fB w g t cs)(a:Below w.heap.size w w'):fB w' g t cs:=h.below a h.lt
theorem fB.grown{a:Option Nat}(h:fB w g t cs)(b:w.grownBy w' a)(c:a≠some g):fB w' g t cs:=(b.block g h.lt (fun e=>c e.symm)).trans h
theorem fB.qR(h:fB w g t cs)(i:Nat)(u:Value):fB (w.setCell ⟨g,i,none⟩ u) g t (cs.set i u):=by have:=heap_setCell_same w g i cs.toArray t u h;unfold fB;rw[this];simp
theorem fB.qQ(h:fB w g t cs)(i:Nat)(u:Value):w.grownBy (w.setCell ⟨g,i,none⟩ u) (some g):=⟨rfl,rfl,rfl,by simp,fun k _ a=>heap_setCell_other w ⟨g,i,none⟩ k u (fun e=>a (by simp[e]))⟩
theorem fB.rl(h:fB w g t cs)(a n size:Nat)(c:a+n*size≤cs.length):RL w size (some ⟨g,a,none⟩) n ((cs.drop a).take (n*size)):=by refine⟨by simp;omega,fun _=>⟨g,a,rfl,h.lt,fun j u b=> ?_⟩⟩;rw[h.cell];rw[bo]at b;split at b;{rw[bN]at b;exact b};{cases b}
end
theorem fB.fz{w:World}{g:Nat}{t:TypeId}{cs:Qg}(h:fB w g t cs):∀i,w.frozen? ⟨g,i,none⟩=false:=h.frozen
theorem fB.c1{w:World}{g:Nat}{t:TypeId}{a:Value}(h:fB w g t [a]):w.cell? ⟨g,0,none⟩=some a:=h.cell 0
theorem fB.c2{w:World}{g:Nat}{t:TypeId}{a b:Value}(h:fB w g t [a,b]):w.cell? ⟨g,0,none⟩=some a∧w.cell? ⟨g,1,none⟩=some b:=⟨h.cell 0,h.cell 1⟩
theorem fB.c3{w:World}{g:Nat}{t:TypeId}{a b c:Value}(h:fB w g t [a,b,c]):w.cell? ⟨g,0,none⟩=some a∧w.cell? ⟨g,1,none⟩=some b∧w.cell? ⟨g,2,none⟩=some c:=⟨h.cell 0,h.cell 1,h.cell 2⟩
theorem fB.c4{w:World}{g:Nat}{t:TypeId}{a b c d:Value}(h:fB w g t [a,b,c,d]):w.cell? ⟨g,0,none⟩=some a∧w.cell? ⟨g,1,none⟩=some b∧w.cell? ⟨g,2,none⟩=some c∧w.cell? ⟨g,3,none⟩=some d:=⟨h.cell 0,h.cell 1,h.cell 2,h.cell 3⟩
theorem fB.c5{w:World}{g:Nat}{t:TypeId}{a b c d e:Value}(h:fB w g t [a,b,c,d,e]):w.cell? ⟨g,0,none⟩=some a∧w.cell? ⟨g,1,none⟩=some b∧w.cell? ⟨g,2,none⟩=some c∧w.cell? ⟨g,3,none⟩=some d∧w.cell? ⟨g,4,none⟩=some e:=⟨h.cell 0,h.cell 1,h.cell 2,h.cell 3,h.cell 4⟩
theorem fB.c7{w:World}{g:Nat}{t:TypeId}{a b c d e f h:Value}(k:fB w g t [a,b,c,d,e,f,h]):w.cell? ⟨g,0,none⟩=some a∧w.cell? ⟨g,1,none⟩=some b∧w.cell? ⟨g,2,none⟩=some c∧w.cell? ⟨g,3,none⟩=some d∧w.cell? ⟨g,4,none⟩=some e∧w.cell? ⟨g,5,none⟩=some f∧w.cell? ⟨g,6,none⟩=some h:=⟨k.cell 0,k.cell 1,k.cell 2,k.cell 3,k.cell 4,k.cell 5,k.cell 6⟩
def nI(w:World)(g:Nat)(t:TypeId)(l:Qf):Prop:=fB w g t (l.map fZ)
theorem nI.rb{w:World}{g:Nat}{t:TypeId}{l:Qf}(h:nI w g t l)(a n:Nat)(b:a+n≤l.length):RB w (some ⟨g,a,none⟩) n ((l.drop a).take n):=by have:=fB.rl h a n 1 (by simpa using b);unfold RB;simpa[ca,bW]using this
section
variable {P:Program} {ops:Array Oper} {rest:List Oper} {Q:Qe} {a:Act} {w:World} {ty:TypeId} {ps:String} {af:Array Edge} {d:Option Tmp} {g:Option (Nat×Bool)}
theorem fC(t:TypeId)(h:wpList P ops Q (⟨d,Op.alloc t,ty,ps,af,g⟩::rest) a w):wpList P ops Q (⟨d,Op.alloc t,ty,ps,af,g⟩::rest) a w:=h
theorem fA(t:TypeId){x:Operand}(h:wpList P ops Q (⟨d,Op.load t x,ty,ps,af,g⟩::rest) a w):wpList P ops Q (⟨d,Op.load t x,ty,ps,af,g⟩::rest) a w:=h
theorem fx(t:TypeId){x y:Operand}(h:wpList P ops Q (⟨d,Op.store t x y,ty,ps,af,g⟩::rest) a w):wpList P ops Q (⟨d,Op.store t x y,ty,ps,af,g⟩::rest) a w:=h
theorem oT{as9:Array Operand}{b:Array TypeId}(h:wpList P ops Q (⟨d,Op.call {callee:= .builtin .copy,args:=as9,argTypes:=b},ty,ps,af,g⟩::rest) a w):wpList P ops Q (⟨d,Op.call {callee:= .builtin .copy,args:=as9,argTypes:=b},ty,ps,af,g⟩::rest) a w:=h
end
theorem nI.cells{w:World}{g:Nat}{t:TypeId}{l:Qf}(h:nI w g t l){n:Nat}(a:l.length=n):RB w (some ⟨g,0,none⟩) n l:=by have:=h.rb 0 n (by omega);rwa[aH,ar (by omega)]at this
theorem Bi{w:World}{base:Nat}{e:TypeId}{g n:Nat}{xs:Qg}(h:w.ownsRow base e 1 (.slice (some ⟨g,0,none⟩) n n) n xs):fB w g e xs:=by obtain⟨i,h|⟨d,cap,cur,b,_,c,_,_,f,a⟩⟩:=h;{cases h.1};{cases b;unfold fB;rw[c];have:cur.toList.take (n*1)=cur.toList:=ar (by simp;omega);rw[this]at a;rw[←a]}
theorem ti{w:World}{base:Nat}{e:TypeId}{g n:Nat}{xs:Qg}(h:fB w g e xs)(b:base≤g)(a:xs.length=n)(c:n≤9223372036854775807):w.ownsRow base e 1 (.slice (some ⟨g,0,none⟩) n n) n xs:=⟨by rw[a,dR],.inr ⟨g,n,xs.toArray,rfl,b,h,aa _,by unfold maxLen;exact c,by simp[a],by rw[ar (by simp;omega)]⟩⟩
theorem fB.list{w:World}{g:Nat}{t:TypeId}{cs:Qg}{n:Nat}(h:fB w g t cs)(a:cs.length=n):RL w 1 (some ⟨g,0,none⟩) n cs:=by have:=h.rl 0 n 1 (by omega);rwa[aH,ar (by omega)]at this
def jg(m:Nat):Qf:=List.replicate m 0
theorem uC(m:Nat):(jg m).length=m:=by simp[jg]
theorem FV(k m:Nat):(jg m).drop k=jg (m-k):=by simp[jg]
theorem Jo{m k:Nat}(h:k<m):(jg m)[k]? =some 0:=by simp[jg,h]
theorem xd{m:Nat}(h:0<m):jg m=0::jg (m-1):=by obtain⟨k,rfl⟩:∃k,m=k+1:=⟨m-1,by omega⟩;rfl
theorem yD(pre xs:Qf)(m a:Nat)(b:pre.length=a):((pre++jg m).map fZ).take a++xs.map fZ++((pre++jg m).map fZ).drop (a+xs.length)=((pre++xs)++jg (m-xs.length)).map fZ:=by subst b;rw[←ca,←bW,←aD,←aD];congr 1;have e:List.drop (pre.length+xs.length) pre=[]:=dQ (by omega);simp[List.take_append,List.drop_append,e,FV]
theorem K8(pre:Qf)(x:UInt8)(m a:Nat)(c:pre.length=a)(b:0<m):((pre++jg m).map fZ).set a (fZ x)=((pre++[x])++jg (m-1)).map fZ:=by subst c;rw[←List.map_set,dp _ _ (by omega),xd b];simp
def jv(P:Program)(t:TypeId)(cs:Qg):Prop:=(P.info? t).map (fun i=>(i.zero,i.size))=some (some (.agg cs.toArray),cs.length)
section
variable {P:Program} {ops:Array Oper} {rest:List Oper} {Q:Qe} {a:Act} {w:World} {ty:TypeId} {ps:String} {af:Array Edge}
theorem Ii{t:TypeId}{cs:Qg}(a:jv P t cs)(w:World):(zeroValue t).run P w= .ok (.agg cs.toArray) w:=by unfold jv at a;cases b:P.info? t with|none=>simp[b]at a|some i=>simp[b]at a;simp[zeroValue,typeInfo,b,a.1]
theorem oY(t:TypeId)(cs:Qg)(a:jv P t cs)(w:World):(Instr.alloc t true (.tuple #[])).run P w= .ok (.pointer (some ⟨w.heap.size,0,none⟩)) (w.alloc (.cells cs.toArray t)):=by unfold jv at a;cases b:P.info? t with|none=>simp[b]at a|some i=>simp[b]at a;(have c:(zeroValue t).run P w= .ok (.agg cs.toArray) w:=by simp[zeroValue,typeInfo,b,a.1]);simp[Instr.alloc,c,newVar,Value.cells];rfl
theorem fD{d:Tmp}{t:TypeId}(cs:Qg)(e:jv P t cs)(c:∀w',fB w' w.heap.size t cs→Below w.heap.size w w'→w'.heap.size=w.heap.size+1→wpList P ops Q rest (a.put (some d) (.pointer (some ⟨w.heap.size,0,none⟩))) w'):wpList P ops Q (⟨some d,Op.alloc t,ty,ps,af,none⟩::rest) a w:=by refine wpList_plain rfl fun K b=> ?_;unfold Oper.wp;simp[execOp,oY t cs e,Result.andThen,Oper.upon];exact b _ _ (c _ (fB.new _ _ _) ((ab _ _).alloc (aa _) _) (by simp))
theorem ir{d:Tmp}{t:TypeId}(H:Nat)(b:w.heap.size=H)(cs:Qg)(e:jv P t cs)(c:∀w',fB w' H t cs→Below H w w'→w'.heap.size=H+1→wpList P ops Q rest (a.put (some d) (.pointer (some ⟨H,0,none⟩))) w'):wpList P ops Q (⟨some d,Op.alloc t,ty,ps,af,none⟩::rest) a w:=by subst b;exact fD cs e c
theorem Ch{d:Tmp}{t:TypeId}{x:Operand}(g n:Nat)(e b:TypeId)(cs:Qg)(c:fB w g b cs)(i:P.underlying t=some (.array n e))(f:(P.info? t).map (·.size)=some cs.length)(j:a.eval x= .pointer (some ⟨g,0,none⟩))(h:wpList P ops Q rest (a.put (some d) (.agg cs.toArray)) w):wpList P ops Q (⟨some d,Op.load t x,ty,ps,af,none⟩::rest) a w:=wpList_load_row rfl t x rfl g j b cs.toArray (0,0) _ c i rfl (by simpa using f) h
theorem fM{t:TypeId}{x y:Operand}(g:Nat)(c:TypeId)(cur cs:Qg)(j:fB w g c cur)(d:(P.info? t).map (·.size)=some cs.length)(s:cur.length=cs.length)(n:∀v∈cs,v.oneCell'=true)(q:a.eval x= .pointer (some ⟨g,0,none⟩))(r:a.eval y= .agg cs.toArray)(h:∀w',fB w' g c cs→w.grownBy w' (some g)→wpList P ops Q rest (a.put none undef) w'):wpList P ops Q (⟨none,Op.store t x y,ty,ps,af,none⟩::rest) a w:=by refine wpList_plain rfl fun K o=> ?_;have l:=run_storeCells_at P g 0 c cs 0 cur.toArray w j (by simp;omega) n;(have b:(Instr.storeAt t (.pointer (some ⟨g,0,none⟩)) (.agg cs.toArray)).run P w= .ok () (w.setRow g cs.toArray):=by cases f:P.info? t with|none=>simp[f]at d|some i=>simp[f]at d;(have m:(cur.toArray.toList.take (0+0)++cs++cur.toArray.toList.drop (0+0+cs.length)).toArray=cs.toArray:=by simp;omega);rw[m]at l;simp[Instr.storeAt,Instr.sureAddr,storeVar,sizeOf,typeInfo,f,Value.cells,d,l]);unfold Oper.wp;simp[execOp,q,r,b,Result.andThen,Oper.upon];exact o _ _ (h _ (setRow_heap w g _ _ c _ j) ⟨rfl,rfl,rfl,by simp[World.setRow],fun k _ p=>setRow_other w g k _ (fun e=>p (by rw[e]))⟩)
theorem jt{t:TypeId}{x y:Operand}(g b:Nat)(d:TypeId)(cur cs:Qg)(v:Value)(l:fB w g d cur)(q:v.cells=cs.toArray)(f:(P.info? t).map (·.size)=some cs.length)(z:b+cs.length≤cur.length)(n:∀v∈cs,v.oneCell'=true)(r:a.eval x= .pointer (some ⟨g,b,none⟩))(s:a.eval y=v)(h:∀w',fB w' g d (cur.take b++cs++cur.drop (b+cs.length))→w.grownBy w' (some g)→wpList P ops Q rest (a.put none undef) w'):wpList P ops Q (⟨none,Op.store t x y,ty,ps,af,none⟩::rest) a w:=by refine wpList_plain rfl fun K o=> ?_;have m:=run_storeCells_at P g b d cs 0 cur.toArray w l (by simp;omega) n;(have c:(Instr.storeAt t (.pointer (some ⟨g,b,none⟩)) v).run P w= .ok () (w.setRow g (cur.take b++cs++cur.drop (b+cs.length)).toArray):=by cases j:P.info? t with|none=>simp[j]at f|some i=>simp[j]at f;simp only[er]at m;simp[Instr.storeAt,Instr.sureAddr,storeVar,sizeOf,typeInfo,j,q,f];simpa using m);unfold Oper.wp;simp only[execOp,r,s,c,Sem.run_bind,Result.andThen,Oper.upon,Sem.run_pure];refine o _ _ (h _ ?_ ⟨rfl,rfl,rfl,by simp[World.setRow],fun k _ p=>setRow_other w g k _ (fun e=>p (by rw[e]))⟩);have:=setRow_heap w g cur.toArray ((cur.take b++cs++cur.drop (b+cs.length)).toArray) d _ l;unfold fB;rw[this]
theorem fS{t:TypeId}{x y:Operand}(g b:Nat)(d:TypeId)(cur:Qg)(v:Value)(i:fB w g d cur)(l:v.cells= #[v])(j:(P.info? t).map (·.size)=some 1)(e:b<cur.length)(f:v.oneCell'=true)(m:a.eval x= .pointer (some ⟨g,b,none⟩))(n:a.eval y=v)(h:∀w',fB w' g d (cur.set b v)→w.grownBy w' (some g)→wpList P ops Q rest (a.put none undef) w'):wpList P ops Q (⟨none,Op.store t x y,ty,ps,af,none⟩::rest) a w:=by refine jt g b d cur [v] v i l j e (by simpa using f) m n fun w' c k=>h w' ?_ k;rw[List.set_eq_take_append_cons_drop,aq e];simpa using c
theorem jD{G:Option Tmp}{p z:TypeId}{x y:Operand}(g f d i:Nat)(e r:TypeId)(cur:Qg)(t:fB w g r cur)(D:P.underlying p=some (.slice e))(m:(P.info? e).map (·.size)=some 1)(A:Qh)(n c:Nat)(xs:Qg)(C:RL w 1 A n xs)(H:∀v∈xs,v.oneCell'=true)(E:a.eval x= .slice (some ⟨g,f,none⟩) d i)(F:a.eval y= .slice A n c)(B:f+d≤cur.length)(h:∀w',fB w' g r (cur.take f++xs.take (min n d)++cur.drop (f+min n d))→w.grownBy w' (some g)→wpList P ops Q rest (a.put G (goInt (min n d:Nat))) w'):wpList P ops Q (⟨G,Op.call {callee:= .builtin .copy,args:= #[x,y],argTypes:= #[p,z]},ty,ps,af,none⟩::rest) a w:=by by_cases s:min n d=0;{refine wpList_copy_nothing rfl x y p z rfl e D m _ _ _ _ _ _ E F s ?_;have:=h w (by rw[s];simpa using t) (World.grownBy.refl w _);rw[s]at this;exact this};{obtain⟨b,o,rfl,L,I⟩:=C.2 (by omega);have M:=C.1;(have l:(xs.take (min n d)).length=min n d:=by simp;omega);refine wpList_copy_own rfl x y p z rfl e D m g f d i ⟨b,o,none⟩ n c E F cur.toArray r t (xs.take (min n d)) l (fun j v q=> ?_) (by simp;omega) (fun v K=>H v (bF K)) ?_;{rw[gY];rw[bo]at q;split at q;{exact I j v q};{cases q}};{rw[l];refine h _ ?_ ⟨rfl,rfl,rfl,by simp[World.setRow],fun k _ J=>setRow_other w g k _ (fun e=>J (by rw[e]))⟩;have:=setRow_heap w g cur.toArray ((cur.toArray.toList.take f++(xs.take (min n d)++cur.toArray.toList.drop (f+min n d))).toArray) r _ t;unfold fB;rw[this];simp}}
theorem Ci{t:Option Tmp}{o v:TypeId}{x y:Operand}(g c d f:Nat)(e n:TypeId)(cur:Qg)(r:fB w g n cur)(D:P.underlying o=some (.slice e))(p:(P.info? e).map (·.size)=some 1)(l:Qf)(E:a.eval x= .slice (some ⟨g,c,none⟩) d f)(F:a.eval y= .string ⟨l.toArray⟩)(q:c+d≤cur.length)(A:l.length≤d)(h:∀w',fB w' g n (cur.take c++l.map fZ++cur.drop (c+l.length))→w.grownBy w' (some g)→wpList P ops Q rest (a.put t (goInt l.length)) w'):wpList P ops Q (⟨t,Op.call {callee:= .builtin .copy,args:= #[x,y],argTypes:= #[o,v]},ty,ps,af,none⟩::rest) a w:=by refine wpList_plain rfl fun K z=> ?_;have C:=run_storeCells_at P g c n (l.map fZ) 0 cur.toArray w r (by simp;omega) (iy l);(have m:(Builtin.copy_ #[o,v] ty #[.slice (some ⟨g,c,none⟩) d f,.string ⟨l.toArray⟩]).run P w= .ok (goInt l.length) (w.setRow g (cur.take c++l.map fZ++cur.drop (c+l.length)).toArray):=by cases s:P.info? e with|none=>simp[s]at p|some i=>(have j:(⟨l.toArray⟩:ByteArray).size.min d=l.length:=by show Nat.min l.toArray.size d=_;rw[List.size_toArray];exact dt A);(have hex:(Array.map (fun b:UInt8=>Value.int .u8 ↑b.toNat) ((⟨l.toArray⟩:ByteArray).extract 0 l.length).data).toList=l.map fZ:=by (have:((⟨l.toArray⟩:ByteArray).extract 0 l.length).data=l.toArray:=by rw[ByteArray.data_extract];simp);rw[this];simp[fZ,N8]);simp[Builtin.copy_,run_underlying D,Builtin.lenOf,j,sizeOf,typeInfo,s,Builtin.firstCells,hex];(have e2:(List.take l.length (List.map (fun b:UInt8=>Value.int .u8 ↑b.toNat) l))=l.map fZ:=by rw[ar (by simp)];rfl);rw[e2,C];simp[Result.andThen]);unfold Oper.wp;simp[execOp,resolve,invoke,builtin,E,F,m,Result.andThen,Oper.upon];refine z _ _ (h _ ?_ ⟨rfl,rfl,rfl,by simp[World.setRow],fun k _ B=>setRow_other w g k _ (fun e=>B (by rw[e]))⟩);have:=setRow_heap w g cur.toArray ((cur.take c++(l.map fZ++cur.drop (c+l.length))).toArray) n _ r;unfold fB;rw[this];simp
theorem rh{s:Option Tmp}{p E:TypeId}{x y:Operand}(g d b f:Nat)(e o:TypeId)(pre:Qf)(m:Nat)(t:nI w g o (pre++jg m))(z:pre.length=d)(B:P.underlying p=some (.slice e))(j:(P.info? e).map (·.size)=some 1)(A:Qh)(n c:Nat)(l:Qf)(r:RB w A n l)(C:a.eval x= .slice (some ⟨g,d,none⟩) b f)(D:a.eval y= .slice A n c)(q:b≤m)(h:∀w',nI w' g o ((pre++l.take (min n b))++jg (m-min n b))→w.grownBy w' (some g)→wpList P ops Q rest (a.put s (goInt (min n b:Nat))) w'):wpList P ops Q (⟨s,Op.call {callee:= .builtin .copy,args:= #[x,y],argTypes:= #[p,E]},ty,ps,af,none⟩::rest) a w:=by (have v:(l.take (min n b)).length=min n b:=by have:=r.1;simp at this;simp;omega);refine jD g d b f e o _ t B j A n c _ r (iy l) C D (by simp[uC];omega) fun w' k i=>h w' ?_ i;have:=yD pre (l.take (min n b)) m d z;rw[v]at this;unfold nI;rw[←this,ca];exact k
theorem Hs{p:Option Tmp}{n A:TypeId}{x y:Operand}(g c b d:Nat)(e k:TypeId)(pre:Qf)(m:Nat)(r:nI w g k (pre++jg m))(s:pre.length=c)(t:P.underlying n=some (.slice e))(i:(P.info? e).map (·.size)=some 1)(l:Qf)(v:a.eval x= .slice (some ⟨g,c,none⟩) b d)(z:a.eval y= .string ⟨l.toArray⟩)(o:b≤m)(q:l.length≤b)(h:∀w',nI w' g k ((pre++l)++jg (m-l.length))→w.grownBy w' (some g)→wpList P ops Q rest (a.put p (goInt l.length)) w'):wpList P ops Q (⟨p,Op.call {callee:= .builtin .copy,args:= #[x,y],argTypes:= #[n,A]},ty,ps,af,none⟩::rest) a w:=by refine Ci g c b d e k _ r t i l v z (by simp[uC];omega) q fun w' j f=>h w' ?_ f;unfold nI;rw[←yD pre l m c s];exact j
end
end
abbrev fy (w w' : World) : Prop := Below w.heap.size w w'
theorem sN {a b : Nat} (h : a ≠ b) : ¬ some a = some b := fun e => h (ai e)
theorem aI {a b : Prop} (h : a) (g : b) : a ∧ b := ⟨h, g⟩
theorem bA {w : World} (o : Obj) : Below w.heap.size w (w.alloc o) := (ab _ _).alloc (aa _) _
theorem box (w : World) (t : TypeId) (cs : Qg) : fB (w.alloc (.cells cs.toArray t)) w.heap.size t cs ∧ Below w.heap.size w (w.alloc (.cells cs.toArray t)) ∧ (w.alloc (.cells cs.toArray t)).heap.size = w.heap.size + 1 := ⟨fB.new w t cs, bA _, by simp⟩
section
def RN(N:Nat→Prop)(w:World)(size:Nat)(A:Qh)(n:Nat)(xs:Qg):Prop:=RL w size A n xs∧∀b o,A=some ⟨b,o,none⟩→0<n→N b
section
variable {N N':Nat→Prop} {w w':World} {size:Nat} {A:Qh} {n:Nat} {xs:Qg}
theorem RN.rl(h:RN N w size A n xs):RL w size A n xs:=h.1
theorem RN.fv(h:RN N w size A n xs)(a:fy w w'):RN N w' size A n xs:=⟨h.1.below a,h.2⟩
theorem RN.mono(h:RN N w size A n xs)(c:∀b,N b→N' b):RN N' w size A n xs:=⟨h.1,fun b o a d=>c b (h.2 b o a d)⟩
theorem RN.lt(h:RN N w size A n xs):RN (fun b=>N b∧b<w.heap.size) w size A n xs:=⟨h.1,fun b o a c=>⟨h.2 b o a c,by obtain⟨f,g,e,d,_⟩:=h.1.2 c;rw[a]at e;cases e;exact d⟩⟩
theorem RN.grown{a:Option Nat}(h:RN N w size A n xs)(f:w.grownBy w' a)(j:∀g,a=some g→¬N g):RN N w' size A n xs:=⟨h.1.grown f (fun g c i b o d e=>j g c (e▸h.2 b o d i)),h.2⟩
theorem RN.nil(N:Nat→Prop)(w:World)(size:Nat)(A:Qh):RN N w size A 0 []:=⟨RL.nil w size A,fun _ _ _ h=>absurd h (by omega)⟩
theorem RN.own{base:Nat}{e:TypeId}{c:Nat}(h:w.ownsRow base e size (.slice A n c) n xs)(d:∀b,base≤b→N b):RN N w size A n xs:=by refine⟨RL.rM h,fun b o a f=> ?_⟩;subst a;exact d b (h.lt b rfl).1
theorem RN.all(h:RL w size A n xs):RN (fun _=>True) w size A n xs:=⟨h,fun _ _ _ _=>trivial⟩
theorem RN.pre(h:RN N w size A n xs){k:Nat}(c:k≤n):RN N w size A k (xs.take (k*size)):=⟨h.1.pre c,fun b o a d=>h.2 b o a (by omega)⟩
end
structure Sl where
 (A:Qh) (n c:Nat)
def Sl.v(s:Sl):Value:= .slice s.A s.n s.c
theorem Sl.one(s:Sl):s.v.oneCell'=true:=rfl
structure wX (N:Nat→Prop) (w:World) (s:Sl) (l:Qf):Prop where
 r:RN N w 1 s.A s.n (l.map fZ)
 nc:s.n≤s.c
 cm:s.c≤9223372036854775807
section
variable {N N':Nat→Prop} {w w':World} {s:Sl} {l:Qf}
theorem wX.rb(h:wX N w s l):RB w s.A s.n l:=h.r.1
theorem wX.len(h:wX N w s l):l.length=s.n:=h.rb.len
theorem wX.fv(h:wX N w s l)(a:fy w w'):wX N w' s l:=⟨h.r.fv a,h.nc,h.cm⟩
theorem wX.mono(h:wX N w s l)(a:∀b,N b→N' b):wX N' w s l:=⟨h.r.mono a,h.nc,h.cm⟩
theorem wX.lt(h:wX N w s l):wX (fun b=>N b∧b<w.heap.size) w s l:=⟨h.r.lt,h.nc,h.cm⟩
theorem wX.grown{a:Option Nat}(h:wX N w s l)(b:w.grownBy w' a)(c:∀g,a=some g→¬N g):wX N w' s l:=⟨h.r.grown b c,h.nc,h.cm⟩
theorem wX.own{base:Nat}{e:TypeId}{v:Value}{n:Nat}(h:w.ownsRow base e 1 v n (l.map fZ))(a:∀b,base≤b→N b):∃s:Sl,v=s.v∧s.n=n∧wX N w s l:=by obtain⟨A,c,rfl,g,d,f⟩:=iZ h;exact⟨⟨A,n,c⟩,rfl,rfl,RN.own h a,d,f⟩
end
def uz(N:Nat→Prop)(w:World)(b:List Sl)(a:List Qf):Prop:=b.length=a.length∧∀(i:Nat)(s:Sl)(l:Qf),b[i]? =some s→a[i]? =some l→wX N w s l
section
variable {N N':Nat→Prop} {w w':World} {ss:List Sl} {ls:List Qf}
theorem uz.fv(h:uz N w ss ls)(c:fy w w'):uz N w' ss ls:=⟨h.1,fun i s l a b=>(h.2 i s l a b).fv c⟩
theorem uz.mono(h:uz N w ss ls)(d:∀b,N b→N' b):uz N' w ss ls:=⟨h.1,fun i s l a c=>(h.2 i s l a c).mono d⟩
theorem uz.lt(h:uz N w ss ls):uz (fun b=>N b∧b<w.heap.size) w ss ls:=⟨h.1,fun i s l a c=>(h.2 i s l a c).lt⟩
theorem uz.grown{a:Option Nat}(h:uz N w ss ls)(d:w.grownBy w' a)(e:∀g,a=some g→¬N g):uz N w' ss ls:=⟨h.1,fun i s l b c=>(h.2 i s l b c).grown d e⟩
theorem uz.nil:uz N w [] []:=⟨rfl,fun i s l h=>by simp at h⟩
theorem uz.at(h:uz N w ss ls){i:Nat}{l:Qf}(a:ls[i]? =some l):∃s,ss[i]? =some s∧wX N w s l:=by have c:=(ah.1 a).1;have b:ss[i]? =some (ss[i]'(by rw[h.1];exact c)):=ag _;exact⟨_,b,h.2 i _ l b a⟩
theorem uz.snoc(h:uz N w ss ls){s:Sl}{l:Qf}(d:wX N w s l):uz N w (ss++[s]) (ls++[l]):=by refine⟨by simp[h.1],fun i f e a c=> ?_⟩;(rcases fe i ss.length with b|b|b);{rw[aM b]at a;rw[aM (by rw[←h.1];exact b)]at c;exact h.2 i f e a c};{rw[b,ej]at a;rw[b,h.1,ej]at c;cases a;cases c;exact d};{rw[bz (by simp;omega)]at a;cases a}
theorem uz.set(h:uz N w ss ls){s:Sl}{l:Qf}(d:wX N w s l)(k:Nat):uz N w (ss.set k s) (ls.set k l):=by refine⟨by simp[h.1],fun i f e a b=> ?_⟩;rw[cJ]at a b;by_cases c:k=i;{rw[aq c]at a b;split at a;{rw[aq (by rw[←h.1];assumption)]at b;cases a;cases b;exact d};{cases a}};{rw[aj c]at a b;exact h.2 i f e a b}
theorem uz.app{s:Sl}{l:Qf}{v e:Value}(h:uz (fun b=>N b∧v.ownBlock≠some b) w ss ls)(k:wX (fun b=>N b∧v.ownBlock≠some b) w s l)(j:w.grownBy w' v.ownBlock)(a:e.ownBlock=v.ownBlock∨e.ownBlock=some w.heap.size):uz (fun b=>N b∧e.ownBlock≠some b) w' (ss++[s]) (ls++[l]):=by refine((h.snoc k).lt.grown j (fun g i f=>f.1.2 i)).mono fun b c=>⟨c.1.1,fun d=> ?_⟩;(rcases a with a|a);{exact c.1.2 (a▸d)};{rw[a]at d;cases d;exact absurd c.2 (by omega)}
end
end
end Go.Proofs.YtlpbeifnibodoaaGreatDoor
