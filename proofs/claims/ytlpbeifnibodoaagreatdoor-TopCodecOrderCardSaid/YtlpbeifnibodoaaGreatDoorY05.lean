/- Lemmas. Conditions: those of each. -/
import Derived.Test.YtlpbeifnibodoaaGreatDoorY04
import Derived.StillTailTactics
set_option linter.all false
set_option maxRecDepth 100000
set_option maxHeartbeats 16000000
namespace Go.Proofs.YtlpbeifnibodoaaGreatDoor
open Go.RowKit
section
structure tT (B:Nat) (ds:List (Nat×TypeId)) (Z:TypeId→O5) (a:Act) (w:World):Prop where
 each:∀x∈ds,a.tmps.getD x.1 undef=undef∨∃g,B≤g∧a.tmps.getD x.1 undef= .pointer (some ⟨g,0,none⟩)∧fo w g x.2 (Z x.2)
 apart:∀x∈ds,∀y∈ds,x.1≠y.1→∀g,a.tmps.getD x.1 undef= .pointer (some ⟨g,0,none⟩)→a.tmps.getD y.1 undef≠.pointer (some ⟨g,0,none⟩)
theorem ko(a:Act)(d:Nat)(v:Value)(i:Nat):(a.put (some d) v).tmps.getD i undef=if i=d∧d<a.tmps.size then v else a.tmps.getD i undef:=by simp only[Act.put];by_cases h:i=d;{subst h;by_cases b:i<a.tmps.size;{simp[b]};{simp[b]}};{rw[ai (fun c=>h c.1)];simp[Array.getElem?_setIfInBounds,Ne.symm h]}
section
variable {P:Program} {ops:Array Oper} {w0:World} {Us:Nat→Value→Prop} {B:Nat} {ds:List (Nat×TypeId)} {Z:TypeId→O5}
theorem tT.start{a:Act}{w:World}(h:∀x∈ds,a.tmps.getD x.1 undef=undef):tT B ds Z a w:=⟨fun x b=> .inl (h x b),fun x b y d _ g c=>by rw[h x b]at c;cases c⟩
theorem tT.fg{a f:Act}{w w':World}(h:tT B ds Z a w)(d:∀x∈ds,f.tmps.getD x.1 undef=a.tmps.getD x.1 undef)(l:Below w.heap.size w w'):tT B ds Z f w':=⟨fun x b=>by rw[d x b];(rcases h.each x b with c|⟨g,c,j,k⟩);{exact .inl c};{exact .inr ⟨g,c,j,k.fg l⟩}, fun x b y i e g=>by rw[d x b,d y i];exact h.apart x b y i e g⟩
theorem tT.clear{a:Act}{w:World}(h:tT B ds Z a w)(d:Nat):tT B ds Z (a.put (some d) undef) w:=by refine⟨fun x f=> ?_,fun x f y i e g=> ?_⟩;{rw[ko];split;{exact .inl rfl};{exact h.each x f}};{rw[ko,ko];intro c b;split at c;{cases c};{split at b;{cases b};{exact h.apart x f y i e g c b}}}
def Md (ds : List (Nat × TypeId)) (o : Oper) : Bool :=
  match o.dst with
  | none => true
  | some d => if ds.any (fun x => x.1 == d) then (match o.op with | .alloc t => ds.all (fun x => x.1 != d || x.2 == t) | _ => false) else true
theorem Bp{o:Oper}(O:B≤w0.heap.size)(Q:∀x∈ds,jm P x.2 (Z x.2))(h:Md ds o=true):L6 P w0 (tT B ds Z) o:=by obtain⟨dst,op,ty,ps,L,N⟩:=o;intro a w T e;cases dst with|none=>exact⟨e,fun u w' _ c=>e.fg (fun _ _=>rfl) c,fun f args w1 u w' _ c=>e.fg (fun _ _=>rfl) c⟩|some d=>by_cases k:ds.any (fun x=>x.1==d)=true;{simp only[Md,k,if_true]at h;cases op;(case alloc t=>(have J:∀x∈ds,x.1=d→x.2=t:=fun x i l=>by have:=bK.1 h x i;simpa[l]using this);obtain⟨I,r,s⟩:=List.any_eq_true.1 k;(have l:I.1=d:=by simpa using s);(have H:jm P t (Z t):=by have:=Q I r;rwa[J I r l]at this);(have j:(execOp a.eval (⟨some d,Op.alloc t,ty,ps,L,N⟩:Oper)).run P w= .ok (.value (.pointer (some ⟨w.heap.size,0,none⟩))) (w.alloc (.cells (Z t).toArray t)):=by simp[execOp,nL t (Z t) H,Result.andThen]);refine⟨e.clear d,fun u w' q c=> ?_,fun f args w1 u w' q c=> ?_⟩;{rw[j]at q;(obtain⟨S,rfl⟩:(.pointer (some ⟨w.heap.size,0,none⟩):Value)=u∧w.alloc (.cells (Z t).toArray t)=w':=by simpa using q);subst S;refine⟨fun x i=> ?_,fun x i y K p g=> ?_⟩;{rw[ko];split;{rename_i E;refine .inr ⟨w.heap.size,al O T.size,rfl,?_⟩;rw[J x i E.1];exact fo.new _ _ _};{(rcases e.each x i with m|⟨g,m,A,C⟩);{exact .inl m};{exact .inr ⟨g,m,A,C.fg c⟩}}};{rw[ko,ko];(have old:∀z∈ds,a.tmps.getD z.1 undef≠.pointer (some ⟨w.heap.size,0,none⟩):=fun z H v=>by (rcases e.each z H with m|⟨M,m,A,C⟩);{rw[m]at v;cases v};{rw[A]at v;have R:=C.lt;(obtain rfl:M=w.heap.size:=by simpa using v);omega});intro n b;split at n;{rename_i F;rw[←n]at b;split at b;{rename_i G;exact p (F.1.trans G.1.symm)};{exact old y K b}};{split at b;{rw[←b]at n;exact old x i n};{exact e.apart x i y K p g n b}}}};{rw[j]at q;simp at q});all_goals simp at h};{(have D:∀(u:Value),∀x∈ds,(a.put (some d) u).tmps.getD x.1 undef=a.tmps.getD x.1 undef:=fun u x i=>by rw[ko,ai];intro E;exact k (List.any_eq_true.2 ⟨x,i,by simp[E.1]⟩));exact⟨e.fg (D _) (ae _ _),fun u w' _ c=>e.fg (D u) c,fun f args w1 u w' _ c=>e.fg (D u) c⟩}
theorem gu{Q:Act→Prop}{o:Oper}{l:List Oper}{k d:Nat}{a:Act}(v:Value)(A:o.dst=some d)(i:d<a.tmps.size)(q:Us k=fun u=>u=v)(h:∀x:Ext w0,wpQuiet P ops (fun w'=>∃y:Ext x.w,w'=y.w) (fun p=>p=a.put o.dst v∧FV P ops w0 Us Q l (k+1) p) [o] a):FV P ops w0 Us Q (o::l) k a:=by (have j:∀g,a.put o.dst g=a.put o.dst v→g=v:=fun g c=>by rw[A]at c;have:=aN (fun b:Act=>b.tmps.getD d undef) c;simp only[ko]at this;simpa[i]using this);unfold FV;split;{rename_i m;(have H:∀x:Ext w0,o.quietAt P a (fun w'=>∃y:Ext x.w,w'=y.w) x.w v∧FV P ops w0 Us Q l (k+1) (a.put o.dst v):=fun x=>by have:=h x;unfold wpQuiet at this;rw[aq m]at this;obtain⟨g,C,c,t⟩:=this;obtain rfl:=j g c;exact⟨C _ ⟨⟨x.w,ae _ _⟩,rfl⟩,t⟩);refine⟨fun w z=> ?_,fun u s=> ?_⟩;{have:=(H ⟨w,z⟩).1;unfold Oper.quietAt at this;generalize (execOp a.eval o).run P w=r at this;rw[q];cases r with|ok n w'=>cases n<;>simp only[Oper.quietUpon,xN]at this ⊢;(case value u=>exact⟨this.1▸ae _ _,this.2⟩);(case skip=>exact⟨this.1,this.2.symm⟩);case enter f args=>refine⟨this.1,this.2.mono fun e D B=> ?_⟩;obtain⟨c,y,rfl⟩:=B;exact⟨v,c,rfl,y.h⟩|halt x w'=>simp only[Oper.quietUpon]at this};{rw[q]at s;subst s;exact(H ⟨w0,ae _ _⟩).2}};{rename_i m;have:=h ⟨w0,ae _ _⟩;unfold wpQuiet at this;rw[ai m]at this;exact this.2}
theorem qE{Q:Act→Prop}{l:List Oper}{k d:Nat}{a:Act}{t:TypeId}{ty:TypeId}{ps:String}{c:Array Edge}(cs:O5)(n:jm P t cs)(e:Us k=fun u=>∃g,w0.heap.size≤g∧u= .pointer (some ⟨g,0,none⟩))(h:∀g,w0.heap.size≤g→FV P ops w0 Us Q l (k+1) (a.put (some d) (.pointer (some ⟨g,0,none⟩)))):FV P ops w0 Us Q (⟨some d,Op.alloc t,ty,ps,c,none⟩::l) k a:=by have m:Region.wanted (⟨some d,Op.alloc t,ty,ps,c,none⟩:Oper) (yielded ops a.tmps)=true:=rfl;unfold FV;rw[aq m];refine⟨fun w i=> ?_,fun u f=> ?_⟩;{(have b:(execOp a.eval (⟨some d,Op.alloc t,ty,ps,c,none⟩:Oper)).run P w= .ok (.value (.pointer (some ⟨w.heap.size,0,none⟩))) (w.alloc (.cells cs.toArray t)):=by simp[execOp,nL t cs n,Result.andThen]);rw[b];refine⟨(ae _ _).alloc (aa _) _,?_⟩;rw[e];exact⟨_,i.size,rfl⟩};{rw[e]at f;obtain⟨g,j,rfl⟩:=f;exact h g j}
end
end
section
section
variable {P:Program} {ops:Array Oper} {rest:List Oper} {Q:O3} {a:Act} {w:World} {K:Act→World→Prop} {E:Prop}
def Mo(P:Program)(t e:TypeId)(z:Value)(size bytes:Nat):Prop:=P.underlying t=some (.slice e)∧(∃i,P.info? e=some i∧i.zero=some z∧i.size=size∧i.bytes=bytes)∧z.cells.size=size∧0<size
theorem uM.el{P:Program}{t e:TypeId}{z:Value}{bytes:Nat}(h:uM P t e z bytes):Mo P t e z 1 bytes:=⟨h.1,h.2.1,h.2.2,Nat.one_pos⟩
theorem iJ{w:World}{base:Nat}{e:TypeId}{size:Nat}{v:Value}{n:Nat}{xs:O5}(h:w.ownsRow base e size v n xs):∃A c,v= .slice A n c∧RL w size A n xs∧n≤c∧c≤9223372036854775807:=by have a:=h;(rcases h.2 with⟨rfl,rfl⟩|⟨g,cap,cur,rfl,_,_,d,b,_⟩);{exact⟨_,_,rfl,RL.rI a,aa _,by omega⟩};{exact⟨_,_,rfl,RL.rI a,d,by simp only[maxLen]at b;omega⟩}
theorem Ib(w:World)(base:Nat)(t ty e:TypeId)(z:Value)(size bytes:Nat)(N:Mo P t e z size bytes)(v:Value)(n:Nat)(xs:O5)(d:w.ownsRow base e size v n xs)(A:O6)(m c:Nat)(a:O5)(s:RL w size A m a)(J:∀u∈a,u.oneCell'=true)(y:n+m≤maxLen)(f:(n+m)*bytes≤140737488355328)(o:base≤w.heap.size):∃q w',(Builtin.append_ #[t,t] ty #[v,.slice A m c]).run P w= .ok q w'∧w'.ownsRow base e size q (n+m) (xs++a)∧w.grownBy w' v.ownBlock∧(q.ownBlock=v.ownBlock∨q.ownBlock=some w.heap.size):=by obtain⟨F,⟨i,C,R,p,B⟩,G,r⟩:=N;(rcases A with _|H);{(have Q:m=0:=by (rcases cg m with l|l);{exact l};{obtain⟨_,_,h,_⟩:=s.2 l;cases h});subst Q;have D:a=[]:=aR (by simpa using s.1);subst D;refine⟨v,w,?_,by simpa using d,World.grownBy.refl w _,.inl rfl⟩;(rcases d.2 with⟨rfl,rfl⟩|⟨g,cap,cur,rfl,_,_,E,_⟩);{simp[Builtin.append_,run_underlying F,sizeOf,typeInfo,C,Builtin.lenOf,Builtin.firstCells]};{simp[Builtin.append_,run_underlying F,sizeOf,typeInfo,C,Builtin.lenOf,Builtin.firstCells,E,storeCells]}};{(have k:∀j u,a[j]? =some u→w.cell? (H.add j)=some u:=by intro j u I;(rcases cg m with l|l);{subst l;have D:a=[]:=aR (by simpa using s.1);subst D;simp at I};{obtain⟨b,S,h,_,O⟩:=s.2 l;injection h with h;subst h;rw[gq];exact O j u I});obtain⟨q,w',x,K,L,_,M⟩:=run_append_own_at (P:=P) w base t ty e i z size bytes F C R p B G r v n xs d H m c a s.1 k J y f o;exact⟨q,w',x,K,L,M⟩}
theorem gV{o:Oper}(l:o.guard=none)(s x:Operand)(t:TypeId)(D:o.op= .call {callee:= .builtin .append,args:= #[s,x],argTypes:= #[t,t]})(base:Nat)(e:TypeId)(z:Value)(size bytes:Nat)(C:Mo P t e z size bytes)(v:Value)(n:Nat)(xs:O5)(i:w.ownsRow base e size v n xs)(F:a.eval s=v)(A:O6)(m c:Nat)(b:O5)(E:RL w size A m b)(G:a.eval x= .slice A m c)(p:∀u∈b,u.oneCell'=true)(k:n+m≤maxLen)(d:(n+m)*bytes≤140737488355328)(f:base≤w.heap.size)(h:∀g w',w'.ownsRow base e size g (n+m) (xs++b)→w.grownBy w' v.ownBlock→(g.ownBlock=v.ownBlock∨g.ownBlock=some w.heap.size)→wpList P ops Q rest (a.put o.dst g) w'):wpList P ops Q (o::rest) a w:=by refine wpList_plain l fun K B=> ?_;obtain⟨g,w',j,q,r,y⟩:=Ib (P:=P) w base t o.type e z size bytes C v n xs i A m c b E p k d f;unfold Oper.wp;simp only[execOp,D,resolve,invoke,builtin,Sem.run_bind,Sem.run_pure,Result.andThen_ok,eZ,aA,cL,F,G,j];exact B _ _ (h g w' q r y)
end
end
section
def fY(b:Act)(ds:List Nat)(f:Nat→Value):Act:=ds.foldl (fun a d=>a.put (some d) (f d)) b
theorem pY(a:Act)(d:Nat)(ds:List Nat)(f:Nat→Value):fY a (d::ds) f=fY (a.put (some d) (f d)) ds f:=rfl
theorem vW(a:Act)(d:Nat)(v:Value):(a.put (some d) v).tmps.size=a.tmps.size:=by simp[Act.put]
theorem put_defers(a:Act)(d:Nat)(v:Value):(a.put (some d) v).defers=a.defers:=rfl
theorem mq(f:Nat→Value):∀(ds:List Nat)(a:Act),(fY a ds f).tmps.size=a.tmps.size|[],_=>rfl|d::ds,a=>by rw[pY,mq f ds,vW]
theorem mh(f:Nat→Value):∀(ds:List Nat)(a:Act),(fY a ds f).defers=a.defers|[],_=>rfl|d::ds,a=>by rw[pY,mh f ds,put_defers]
theorem nH(f:Nat→Value)(s:Nat):∀(ds:List Nat)(a:Act),(fY a ds f).tmps.getD s undef=if s∈ds∧s<a.tmps.size then f s else a.tmps.getD s undef|[],a=>by simp[fY]|d::ds,a=>by rw[pY,nH f s ds,vW,ko];by_cases e:s∈ds∧s<a.tmps.size;{rw[aq e,aq ⟨av _ e.1,e.2⟩]};{rw[ai e];by_cases b:s=d∧d<a.tmps.size;{rw[aq b,aq ⟨by rw[b.1];exact ar ..,by rw[b.1];exact b.2⟩,b.1]};{rw[ai b,ai];rintro⟨c,g⟩;(rcases aC.1 c with c|c);{exact b ⟨c,by rw[←c];exact g⟩};{exact e ⟨c,g⟩}}}
theorem FH{a b:Act}(d:a.tmps.size=b.tmps.size)(h:∀i,a.tmps.getD i undef=b.tmps.getD i undef)(c:a.defers=b.defers):a=b:=by obtain⟨t,j⟩:=a;obtain⟨k,e⟩:=b;dsimp only at d h c;subst c;congr 1;apply Array.ext d;intro i f g;have:=h i;simpa[f,g]using this
theorem rF{a:Act}{ds:List Nat}{f:Nat→Value}{d:Nat}(c:d∈ds)(b:d<a.tmps.size)(u:Value):(fY a ds f).put (some d) u=fY a ds (fun s=>if s=d then u else f s):=by refine FH (by rw[vW,mq,mq]) (fun i=> ?_) (by rw[put_defers,mh,mh]);rw[ko,nH,nH,mq];by_cases h:i=d;{rw[aq ⟨h,b⟩,aq ⟨by rw[h];exact c,by rw[h];exact b⟩,aq h]};{rw[ai (fun e=>h e.1),ai h]}
theorem pX(a:Act)(ds:List Nat):fY a ds (fun s=>a.tmps.getD s undef)=a:=by refine FH (mq _ _ _) (fun i=> ?_) (mh _ _ _);rw[nH];split<;>rfl
def jc(o:Oper):Bool:=o.dst.isNone
def Mi (l : List Oper) (ds : List Nat) (n : Nat) : Bool :=
  (List.range l.length).all fun k => match l[k]? with
    | none => false
    | some o => o.guard.isNone && o.after.all (fun e => !Region.binds .any e || decide (e.on < k)) &&
      (match o.dst with
        | none => true
        | some d => ds.contains d && decide (d < n) && (List.range l.length).all (fun j => j == k || (match l[j]? with | some a => a.dst != some d | none => true)))
def zZ (l : List Oper) (k : Nat) : Bool := (List.range l.length).all fun j => j == k || match l[j]? with
  | none => true
  | some o => !jc o || o.after.any (fun e => Region.binds .any e && e.on == k)
def OJ(U:Nat→(Nat→Value)→World→Prop)(B:World→Prop)(k:Nat)(o:Oper)(f:Nat→Value)(a:Act)(w:World)(e:Exit)(c:Act)(w':World):Prop:=e= .normal∧((jc o=false∧∃u,c=a.put o.dst u∧Below w.heap.size w w'∧∀b,(∀s,o.dst=some s→b s=u)→U k b w')∨(jc o=true∧c=a∧B w'∧U k f w'∧∀j b,j≠k→U j b w→U j b w'))
def Local(l:List Oper)(U:Nat→(Nat→Value)→World→Prop):Prop:=∀(k:Nat)(o:Oper),l[k]? =some o→∀(f a:Nat→Value)(w:World),(∀s,(o.dst=some s∨∃e∈o.after,Region.binds .any e=true∧(l[e.on]?).bind (·.dst)=some s)→a s=f s)→U k f w→U k a w
theorem tv{P:Program}{o:Oper}{a:Act}{w:World}{K f:Act→World→Prop}{Q Q':O3}(d:∀e a w,e≠.normal→Q e a w→Q' e a w)(h:∀a w,K a w→f a w)(b:o.wp P a w K Q):o.wp P a w f Q':=by have g:LetsOut Q→LetsOut Q':=fun⟨a,w,h⟩=>⟨a,w,d _ _ _ (by simp) h⟩;unfold Oper.wp at *;generalize (execOp a.eval o).run P w=r at *;cases r with|ok n w'=>(cases n<;>simp only[Oper.upon]at b ⊢ <;> first|exact h _ _ b|exact Calls.mono b (fun e i c=>by cases e<;>first|exact h _ _ c|exact d _ _ _ (by simp) c|exact g c)|exact Rows.mono b (fun _ _ c=>h _ _ c))|halt x w'=>cases x<;>simp only[Oper.upon]at b ⊢ <;>first|exact d _ _ _ (by simp) b|exact b
theorem uX:∀(n i:Nat)(p a:Nat→Bool),i<n→p i=true→a i=false→(∀j,j≠i→a j=p j)→(List.range n).countP p=(List.range n).countP a+1|0,i,_,_,h,_,_,_=>absurd h (by omega)|n+1,i,p,a,h,c,d,b=>by rw[dg,List.countP_append,List.countP_append,List.countP_singleton,List.countP_singleton];by_cases f:i=n;{subst f;rw[c,d];(have:(List.range i).countP p=(List.range i).countP a:=List.countP_congr fun j g=>by rw[b j (by have:=bI.1 g;omega)]);simp[this]};{rw[uX n i p a (by omega) c d b,b n (fun e=>f e.symm)];omega}
section
variable {P:Program} {Q:O3} {a:Act} {w:World} {l:List Oper}
structure M6 (l:List Oper) (a:Act) (ds:List Nat) (U:Nat→(Nat→Value)→World→Prop) (B Pre:World→Prop) (listed:Array Bool) (a':Act) (w':World):Prop where
 b:B w'
 pre:(∀k o,l[k]? =some o→jc o=true→listed.getD k false=false)→Pre w'
 closed:∀(k:Nat)(o:Oper),l[k]? =some o→listed.getD k false=true→∀e∈o.after,Region.binds .any e=true→listed.getD e.on false=true
 f:∃f:Nat→Value,a'=fY a ds f∧∀k o,l[k]? =some o→listed.getD k false=true→U k f w'
theorem mP{id:Nat}(n:Nat)(ds:List Nat)(U:Nat→(Nat→Value)→World→Prop)(B v:World→Prop)(hm:P.follows .mixedOrders=true)(bn:a.tmps.size=n)(hF:Mi l ds n=true)(hU:∀k f w1 t,Below w1.heap.size w1 t→U k f w1→U k f t)(bc:∀w1 t,Below w1.heap.size w1 t→B w1→B t)(bf:∀w1 t,Below w1.heap.size w1 t→v w1→v t)(h0:B w.drew)(p0:v w.drew)(aO:∀k o,l[k]? =some o→∀(f:Nat→Value)(w':World),B w'→(zZ l k=true→v w')→(∀e∈o.after,Region.binds .any e=true→U e.on f w')→wpList P l.toArray (OJ U B k o f (fY a ds f) w') [o] (fY a ds f) w')(a7:Local l U)(h:∀f w',B w'→(∀k o,l[k]? =some o→U k f w')→Q .normal (fY a ds f) w'):(Code.region id l.toArray true).wp P Q a w:=by subst bn;(have J:∀k o,l[k]? =some o→o.guard=none∧(∀e∈o.after,Region.binds .any e=true→e.on<k)∧(∀d,o.dst=some d→d∈ds∧d<a.tmps.size∧∀j o',l[j]? =some o'→j≠k→o'.dst≠some d):=by intro k o z;have L:k<l.length:=(ah.1 z).1;have:=bK.1 hF k (bI.2 L);simp only[z,br]at this;obtain⟨⟨Y,h2⟩,X⟩:=this;refine⟨by simpa using Y,fun e y r=> ?_,fun d hd=> ?_⟩;{have:=Array.all_eq_true_iff_forall_mem.1 h2 e y;simpa[r]using this};{rw[hd]at X;simp only[br,aV]at X;refine⟨by simpa using X.1.1,X.1.2,fun j o' m an=> ?_⟩;have:=bK.1 X.2 j (bI.2 (ah.1 m).1);simp only[m]at this;simpa[an]using this});refine wp_region_any hm ?_;(have main:∀(p:Nat)(c:Array Bool)(R:Act)(w':World),c.size=l.length→(List.range l.length).countP (fun k=> !c.getD k false)=p→M6 l a ds U B v c R w'→wpAny P .any l.toArray Q p c R w':=by (have done:∀(c:Array Bool)(R:Act)(w':World),c.size=l.length→M6 l a ds U B v c R w'→Region.ready .any l.toArray c=[]→Q .normal R w':=by intro c R w' D G hr;(have q:∀k,k<l.length→c.getD k false=true:=by intro k;induction k using Nat.strongRecOn with|_ k ih=>intro z;by_cases K:c.getD k false=true;{exact K};{exfalso;(have:k∈Region.ready .any l.toArray c:=by rw[mem_ready];have ad:l[k]? =some l[k]:=ag z;refine⟨?_,l[k],by simp[ad],fun e y r=>ih e.on ((J k _ ad).2.1 e y r) (by have:=(J k _ ad).2.1 e y r;omega)⟩;(have C:k<c.size:=by omega);simp only[Array.getD,C,eU]at K ⊢;simpa using K);rw[hr]at this;cases this});obtain⟨f,rfl,hf⟩:=G.f;exact h f w' G.b fun k o z=>hf k o z (q k (ah.1 z).1));intro p;induction p with|zero=>intro c R w' D hc G;(have hr:Region.ready .any l.toArray c=[]:=by rw[List.eq_nil_iff_forall_not_mem];intro k z;obtain⟨Y,o,ho,_⟩:=mem_ready.1 z;(have L:k<l.length:=by simpa using(dH.1 ho).1);have:=List.countP_eq_zero.1 hc k (bI.2 L);(have C:k<c.size:=by omega);simp only[Array.getD,C,eU]at Y this;rw[Y]at this;simp at this);exact⟨hr,done c R w' D G hr⟩|succ p ih=>intro c R w' D hc G;refine⟨fun hr=>done c R w' D G hr,fun k z=> ?_⟩;obtain⟨Y,o,ho,H⟩:=mem_ready.1 z;(have A:l[k]? =some o:=by simpa using ho);have L:k<l.length:=(ah.1 A).1;(have C:k<c.size:=by omega);(have T:c.getD k false=false:=by simp only[Array.getD,C,eU]at Y ⊢;exact Y);obtain⟨hg,a8,bh⟩:=J k o A;(have I:∀e∈o.after,Region.binds .any e=true→c.getD e.on false=true:=fun e y r=>by have X:=H e y r;(have h4:e.on<c.size:=by have:=a8 e y r;omega);simp only[Array.getD,h4,eU]at X ⊢;exact X);obtain⟨f,rfl,hf⟩:=G.f;(have M:∀(W:Act)(t:World),M6 l a ds U B v (c.setIfInBounds k true) W t→wpAny P .any l.toArray Q p (c.setIfInBounds k true) W t:=fun W t bd=>by refine ih _ W t (by simpa using D) ?_ bd;have:=uX l.length k (fun j=> !c.getD j false) (fun j=> !(c.setIfInBounds k true).getD j false) L (by simp[T]) (by simp[Array.getD,C]) (fun j m=>by show(!(c.setIfInBounds k true).getD j false)= !c.getD j false;rw[getD_set_ne false (fun e=>m e.symm)]);omega);(have N:∀j,(c.setIfInBounds k true).getD j false=true→j=k∨c.getD j false=true:=fun j m=>by by_cases g:j=k;{exact .inl g};{right;rw[getD_set_ne false (fun e=>g e.symm)]at m;exact m});(have ba:∀e∈o.after,Region.binds .any e=true→U e.on f w':=fun e y r=>by have bq:=a8 e y r;exact hf e.on _ (ag (by omega)) (H e y r));(have S:zZ l k=true→v w':=fun y=>G.pre fun j F m V=>by by_cases g:j=k;{rw[g];exact T};have:=bK.1 y j (bI.2 (ah.1 m).1);(have a6:(j==k)=false:=by simpa using g);simp only[m,V,a6,Bool.not_true,eG]at this;obtain⟨i,hi,Z⟩:=Array.any_eq_true.1 this;simp only[br,dr]at Z;cases q:c.getD j false with|false=>rfl|true=>have:=G.closed j F m q _ (Array.getElem_mem hi) Z.1;rw[Z.2,T]at this;cases this);have E:=aO k o A f w' G.b S ba;(have x:∀(j:Nat)(F:Oper),l[j]? =some F→(c.setIfInBounds k true).getD j false=true→∀e∈F.after,Region.binds .any e=true→(c.setIfInBounds k true).getD e.on false=true:=by (have up:∀i,c.getD i false=true→(c.setIfInBounds k true).getD i false=true:=fun i hi=>by by_cases a1:i=k;{subst a1;simp[Array.getD,C]};{rw[getD_set_ne false (fun e=>a1 e.symm)];exact hi});intro j F m q e y r;(rcases N j q with g|q);{subst g;rw[A]at m;cases m;exact up _ (I e y r)};{exact up _ (G.closed j F m q e y r)});(have fin:∀u O,jc o=false→Below w'.heap.size w' O→(∀f',(∀s,o.dst=some s→f' s=u)→U k f' O)→wpAny P .any l.toArray Q p (c.setIfInBounds k true) ((fY a ds f).put o.dst u) O:=fun u O V r hu=>by simp only[jc,Option.isNone_eq_false_iff]at V;obtain⟨d,hd⟩:=Option.isSome_iff_exists.1 V;obtain⟨d1,d2,d3⟩:=bh d hd;rw[hd,rF d1 d2];refine M _ _ ⟨bc _ _ r G.b,fun K=>bf _ _ r (G.pre fun j F m bb=> ?_),x,⟨_,rfl,fun j F m q=> ?_⟩⟩;{have:=K j F m bb;by_cases g:k=j;{subst g;rw[A]at m;cases m;simp[jc,hd]at bb};{rw[getD_set_ne false g]at this;exact this}};{by_cases g:j=k;{subst g;rw[A]at m;cases m;exact hu _ fun s D=>by rw[hd]at D;cases D;simp};{have q:=(N j q).resolve_left g;refine a7 j F m f _ O (fun s D=> ?_) (hU _ _ _ _ r (hf j F m q));(have bl:s≠d:=by rintro rfl;(rcases D with D|⟨e,y,bg,D⟩);{exact d3 j F m g D};{cases af:l[e.on]? with|none=>simp[af]at D|some oe=>rw[af]at D;refine d3 e.on oe af ?_ D;intro bk;have:=G.closed j F m q e y bg;rw[bk,T]at this;cases this});simp[bl]}});unfold wpOp;rw[ho];(have hw:Region.wanted o (yielded l.toArray (fY a ds f).tmps)=true:=by simp[Region.wanted,hg]);simp only[hw,if_true];unfold wpList at E;simp only[hw,if_true]at E;refine .inl ?_;(rcases E with E|⟨_,W,t,E⟩);{refine tv (fun e W t an K=>absurd K.1 an) (fun W t K=> ?_) E;obtain⟨-,⟨e1,u,rfl,r,hu⟩|⟨e1,rfl,e2,e3,e4⟩⟩:=(show OJ U B k o f (fY a ds f) w' .normal W t from K);{exact fin u t e1 r hu};{simp only[jc,Option.isNone_iff_eq_none]at e1;refine M _ _ ⟨e2,fun K=> ?_,x,⟨f,rfl,fun j F m q=> ?_⟩⟩;{have:=K k o A (by simp[jc,e1]);simp[Array.getD,C]at this};{by_cases g:j=k;{subst g;rw[A]at m;cases m;exact e3};{(rcases N j q with q|q);{exact absurd q g};{exact e4 j _ g (hf j F m q)}}}}};{exact absurd E.1 (by simp)});exact main _ _ a w.drew (by simp) (by rw[List.countP_eq_length.2];{simp};{intro k z;have:=bI.1 z;simp[Array.getD,this]}) ⟨h0,fun _=>p0,fun k o z q=>by exfalso;have:=(ah.1 z).1;simp[Array.getD,this]at q,⟨fun s=>a.tmps.getD s undef,(pX a ds).symm,fun k o z q=>by exfalso;have:=(ah.1 z).1;simp[Array.getD,this]at q⟩⟩
end
end
section
def N0(U:Nat→(Nat→Value)→World→Prop)(B:World→Prop)(J:(Nat→Prop)→(Nat→Value)→World→Prop)(D:Nat→Prop)(k:Nat)(o:Oper)(f:Nat→Value)(a:Act)(w:World)(e:Exit)(c:Act)(w':World):Prop:=e= .normal∧((jc o=false∧∃u,c=a.put o.dst u∧Below w.heap.size w w'∧(∀b,(∀s,o.dst=some s→b s=u)→U k b w')∧∀b,(∀s,o.dst=some s→b s=u)→(∀s,o.dst≠some s→b s=f s)→J (fun j=>j=k∨D j) b w')∨(jc o=true∧c=a∧B w'∧U k f w'∧(∀j,j≠k→U j f w→U j f w')∧J (fun j=>j=k∨D j) f w'))
def J9(i j a b:Nat)(D:Nat→Prop)(f:Nat→Value)(_w:World):Prop:=D i→D j→f a≠f b
theorem J9.zero{i j a b:Nat}{w:World}(f:Nat→Value):J9 i j a b (fun _=>False) f w:=fun h=>h.elim
theorem J9.other{i j c d k:Nat}{D:Nat→Prop}{f e:Nat→Value}{w w':World}(h:J9 i j c d D f w)(m:i≠k)(n:j≠k)(g:e c=f c)(l:e d=f d):J9 i j c d (fun q=>q=k∨D q) e w':=fun a b=>by rw[g,l];exact h (a.resolve_left m) (b.resolve_left n)
theorem J9.left{i j d a:Nat}{D:Nat→Prop}{f c:Nat→Value}{w w':World}(g:j≠i)(e:c a=f a)(h:D j→c d≠f a):J9 i j d a (fun q=>q=i∨D q) c w':=fun _ b=>by rw[e];exact h (b.resolve_left g)
theorem J9.right{i j b d:Nat}{D:Nat→Prop}{f c:Nat→Value}{w w':World}(g:i≠j)(e:c b=f b)(h:D i→f b≠c d):J9 i j b d (fun q=>q=j∨D q) c w':=fun a _=>by rw[e];exact h (a.resolve_left g)
section
variable {P:Program} {Q:O3} {a:Act} {w:World} {l:List Oper}
structure Ka (l:List Oper) (a:Act) (ds:List Nat) (U:Nat→(Nat→Value)→World→Prop) (B Pre:World→Prop) (J:(Nat→Prop)→(Nat→Value)→World→Prop) (listed:Array Bool) (a':Act) (w':World):Prop where
 b:B w'
 pre:(∀k o,l[k]? =some o→jc o=true→listed.getD k false=false)→Pre w'
 closed:∀(k:Nat)(o:Oper),l[k]? =some o→listed.getD k false=true→∀e∈o.after,Region.binds .any e=true→listed.getD e.on false=true
 f:∃f:Nat→Value,a'=fY a ds f∧(∀k o,l[k]? =some o→listed.getD k false=true→U k f w')∧J (fun k=>listed.getD k false=true) f w'
theorem uD {id : Nat} (n : Nat) (ds : List Nat) (U : Nat → (Nat → Value) → World → Prop) (B A : World → Prop) (J : (Nat → Prop) → (Nat → Value) → World → Prop) (hm : P.follows .mixedOrders = true) (bf : a.tmps.size = n) (hF : Mi l ds n = true)
    (hU : ∀ k f w1 z, Below w1.heap.size w1 z → U k f w1 → U k f z) (a8 : ∀ w1 z, Below w1.heap.size w1 z → B w1 → B z) (bb : ∀ w1 z, Below w1.heap.size w1 z → A w1 → A z)
    (h0 : B w.drew) (p0 : A w.drew) (j0 : ∀ f, J (fun _ => False) f w.drew)
    (af : ∀ k o, l[k]? = some o → ∀ (D : Nat → Prop) (f : Nat → Value) (w' : World), B w' → (zZ l k = true → A w') → (∀ e ∈ o.after, Region.binds .any e = true → U e.on f w' ∧ D e.on) → (∀ j o', l[j]? = some o' → D j → U j f w') → ¬ D k → J D f w' →
      wpList P l.toArray (N0 U B J D k o f (fY a ds f) w') [o] (fY a ds f) w')
    (a1 : Local l U)
    (h : ∀ D f w', B w' → (∀ k o, l[k]? = some o → U k f w' ∧ D k) → J D f w' → Q .normal (fY a ds f) w') : (Code.region id l.toArray true).wp P Q a w := by
  subst bf
  have M : ∀ k o, l[k]? = some o → o.guard = none ∧ (∀ e ∈ o.after, Region.binds .any e = true → e.on < k) ∧ (∀ d, o.dst = some d → d ∈ ds ∧ d < a.tmps.size ∧ ∀ j o', l[j]? = some o' → j ≠ k → o'.dst ≠ some d) := by
    intro k o v
    have O : k < l.length := (ah.1 v).1
    have := bK.1 hF k (bI.2 O)
    simp only [v, br] at this
    obtain ⟨⟨h1, h2⟩, X⟩ := this
    refine ⟨by simpa using h1, fun e y t => ?_, fun d Y => ?_⟩
    · have := Array.all_eq_true_iff_forall_mem.1 h2 e y
      simpa [t] using this
    · rw [Y] at X
      simp only [br, aV] at X
      refine ⟨by simpa using X.1.1, X.1.2, fun j o' m ad => ?_⟩
      have := bK.1 X.2 j (bI.2 (ah.1 m).1)
      simp only [m] at this
      simpa [ad] using this
  refine wp_region_any hm ?_
  have main : ∀ (p : Nat) (c : Array Bool) (S : Act) (w' : World), c.size = l.length → (List.range l.length).countP (fun k => !c.getD k false) = p → Ka l a ds U B A J c S w' → wpAny P .any l.toArray Q p c S w' := by
    have done : ∀ (c : Array Bool) (S : Act) (w' : World), c.size = l.length → Ka l a ds U B A J c S w' → Region.ready .any l.toArray c = [] → Q .normal S w' := by
      intro c S w' r hI hr
      have q : ∀ k, k < l.length → c.getD k false = true := by
        intro k
        induction k using Nat.strongRecOn with
        | _ k ih =>
          intro v
          by_cases K : c.getD k false = true
          · exact K
          · exfalso
            have : k ∈ Region.ready .any l.toArray c := by
              rw [mem_ready]
              have Z : l[k]? = some l[k] := ag v
              refine ⟨?_, l[k], by simp [Z], fun e y t => ih e.on ((M k _ Z).2.1 e y t) (by have := (M k _ Z).2.1 e y t; omega)⟩
              have x : k < c.size := by omega
              simp only [Array.getD, x, eU] at K ⊢
              simpa using K
            rw [hr] at this
            cases this
      obtain ⟨f, rfl, hf, m⟩ := hI.f
      exact h _ f w' hI.b (fun k o v => ⟨hf k o v (q k (ah.1 v).1), q k (ah.1 v).1⟩) m
    intro p
    induction p with
    | zero =>
      intro c S w' r hc hI
      have hr : Region.ready .any l.toArray c = [] := by
        rw [List.eq_nil_iff_forall_not_mem]
        intro k v
        obtain ⟨h1, o, ho, _⟩ := mem_ready.1 v
        have O : k < l.length := by simpa using (dH.1 ho).1
        have := List.countP_eq_zero.1 hc k (bI.2 O)
        have x : k < c.size := by omega
        simp only [Array.getD, x, eU] at h1 this
        rw [h1] at this
        simp at this
      exact ⟨hr, done c S w' r hI hr⟩
    | succ p ih =>
      intro c S w' r hc hI
      refine ⟨fun hr => done c S w' r hI hr, fun k v => ?_⟩
      obtain ⟨h1, o, ho, hafter⟩ := mem_ready.1 v
      have F : l[k]? = some o := by simpa using ho
      have O : k < l.length := (ah.1 F).1
      have x : k < c.size := by omega
      have N : c.getD k false = false := by
        simp only [Array.getD, x, eU] at h1 ⊢
        exact h1
      obtain ⟨hg, hon, hds⟩ := M k o F
      have C : ∀ e ∈ o.after, Region.binds .any e = true → c.getD e.on false = true := fun e y t => by
        have X := hafter e y t
        have h4 : e.on < c.size := by have := hon e y t; omega
        simp only [Array.getD, h4, eU] at X ⊢
        exact X
      obtain ⟨f, rfl, hf, bc⟩ := hI.f
      have R : ∀ (W : Act) (z : World), Ka l a ds U B A J (c.setIfInBounds k true) W z → wpAny P .any l.toArray Q p (c.setIfInBounds k true) W z := fun W z ba => by
        refine ih _ W z (by simpa using r) ?_ ba
        have := uX l.length k (fun j => !c.getD j false) (fun j => !(c.setIfInBounds k true).getD j false) O (by simp [N]) (by simp [Array.getD, x]) (fun j m => by
          show (!(c.setIfInBounds k true).getD j false) = !c.getD j false
          rw [getD_set_ne false (fun e => m e.symm)])
        omega
      have I : ∀ j, (c.setIfInBounds k true).getD j false = true → j = k ∨ c.getD j false = true := fun j m => by
        by_cases g : j = k
        · exact .inl g
        · right
          rw [getD_set_ne false (fun e => g e.symm)] at m
          exact m
      have hD : (fun j => j = k ∨ c.getD j false = true) = fun j => (c.setIfInBounds k true).getD j false = true := by
        funext j
        refine propext ⟨fun K => ?_, I j⟩
        by_cases g : j = k
        · subst g
          simp [Array.getD, x]
        · rw [getD_set_ne false (fun e => g e.symm)]
          exact K.resolve_left g
      have a6 : ∀ e ∈ o.after, Region.binds .any e = true → U e.on f w' ∧ c.getD e.on false = true := fun e y t => by
        have bg := hon e y t
        exact ⟨hf e.on _ (ag (by omega)) (hafter e y t), C e y t⟩
      have T : zZ l k = true → A w' := fun y => hI.pre fun j H m V => by
        by_cases g : j = k
        · rw [g]
          exact N
        have := bK.1 y j (bI.2 (ah.1 m).1)
        have aO : (j == k) = false := by simpa using g
        simp only [m, V, aO, Bool.not_true, eG] at this
        obtain ⟨i, hi, hee⟩ := Array.any_eq_true.1 this
        simp only [br, dr] at hee
        cases q : c.getD j false with
        | false => rfl
        | true =>
          have := hI.closed j H m q _ (Array.getElem_mem hi) hee.1
          rw [hee.2, N] at this
          cases this
      have G := af k o F (fun j => c.getD j false = true) f w' hI.b T a6 hf (by rw [N]; simp) bc
      have E : ∀ (j : Nat) (H : Oper), l[j]? = some H → (c.setIfInBounds k true).getD j false = true → ∀ e ∈ H.after, Region.binds .any e = true → (c.setIfInBounds k true).getD e.on false = true := by
        have up : ∀ i, c.getD i false = true → (c.setIfInBounds k true).getD i false = true := fun i hi => by
          by_cases hik : i = k
          · subst hik
            simp [Array.getD, x]
          · rw [getD_set_ne false (fun e => hik e.symm)]
            exact hi
        intro j H m q e y t
        rcases I j q with g | q
        · subst g
          rw [F] at m
          cases m
          exact up _ (C e y t)
        · exact up _ (hI.closed j H m q e y t)
      have fin : ∀ u L, jc o = false → Below w'.heap.size w' L → (∀ f', (∀ s, o.dst = some s → f' s = u) → U k f' L) → (∀ f', (∀ s, o.dst = some s → f' s = u) → (∀ s, o.dst ≠ some s → f' s = f s) → J (fun j => j = k ∨ c.getD j false = true) f' L) → wpAny P .any l.toArray Q p (c.setIfInBounds k true) ((fY a ds f).put o.dst u) L := fun u L V t hu an => by
        simp only [jc, Option.isNone_eq_false_iff] at V
        obtain ⟨d, Y⟩ := Option.isSome_iff_exists.1 V
        obtain ⟨d1, d2, d3⟩ := hds d Y
        rw [Y, rF d1 d2]
        refine R _ _ ⟨a8 _ _ t hI.b, fun K => bb _ _ t (hI.pre fun j H m a7 => ?_), E, ⟨_, rfl, fun j H m q => ?_, ?_⟩⟩
        · have := K j H m a7
          by_cases g : k = j
          · subst g
            rw [F] at m
            cases m
            simp [jc, Y] at a7
          · rw [getD_set_ne false g] at this
            exact this
        · by_cases g : j = k
          · subst g
            rw [F] at m
            cases m
            exact hu _ fun s r => by
              rw [Y] at r
              cases r
              simp
          · have q := (I j q).resolve_left g
            refine a1 j H m f _ L (fun s r => ?_) (hU _ _ _ _ t (hf j H m q))
            have bd : s ≠ d := by
              rintro rfl
              rcases r with r | ⟨e, y, hbe, r⟩
              · exact d3 j H m g r
              · cases hle : l[e.on]? with
                | none => simp [hle] at r
                | some oe =>
                  rw [hle] at r
                  refine d3 e.on oe hle ?_ r
                  intro hek
                  have := hI.closed j H m q e y hbe
                  rw [hek, N] at this
                  cases this
            simp [bd]
        · rw [← hD]
          exact an _ (fun s r => by rw [Y] at r; cases r; simp) (fun s r => by rw [Y] at r; have : s ≠ d := fun e => r (by rw [e]); simp [this])
      unfold wpOp
      rw [ho]
      have hw : Region.wanted o (yielded l.toArray (fY a ds f).tmps) = true := by simp [Region.wanted, hg]
      simp only [hw, if_true]
      unfold wpList at G
      simp only [hw, if_true] at G
      refine .inl ?_
      rcases G with G | ⟨_, W, z, G⟩
      · refine tv (fun e W z ad K => absurd K.1 ad) (fun W z K => ?_) G
        obtain ⟨-, ⟨e1, u, rfl, t, hu, an⟩ | ⟨e1, rfl, e2, e3, e4, e5⟩⟩ := (show N0 U B J (fun j => c.getD j false = true) k o f (fY a ds f) w' .normal W z from K)
        · exact fin u z e1 t hu an
        · simp only [jc, Option.isNone_iff_eq_none] at e1
          refine R _ _ ⟨e2, fun K => ?_, E, ⟨f, rfl, fun j H m q => ?_, by rw [← hD]; exact e5⟩⟩
          · have := K k o F (by simp [jc, e1])
            simp [Array.getD, x] at this
          · by_cases g : j = k
            · subst g
              rw [F] at m
              cases m
              exact e3
            · rcases I j q with q | q
              · exact absurd q g
              · exact e4 j g (hf j H m q)
      · exact absurd G.1 (by simp)
  exact main _ _ a w.drew (by simp) (by
    rw [List.countP_eq_length.2]
    · simp
    · intro k v
      have := bI.1 v
      simp [Array.getD, this]) ⟨h0, fun _ => p0, fun k o v q => by
      exfalso
      have := (ah.1 v).1
      simp [Array.getD, this] at q, ⟨fun s => a.tmps.getD s undef, (pX a ds).symm, fun k o v q => by
      exfalso
      have := (ah.1 v).1
      simp [Array.getD, this] at q, by
      have e : (fun k => (Array.replicate l.toArray.size false).getD k false = true) = fun _ => False := by
        funext k
        simp only [eq_iff_iff, iff_false, Bool.not_eq_true]
        by_cases v : k < l.length <;> simp [Array.getD, v]
      rw [e]
      exact j0 _⟩⟩
end
end
section
def tU(V:Value→World→Prop)(o:Oper)(a:Act)(w:World)(e:Exit)(b:Act)(w':World):Prop:=e= .normal∧∃u,b=a.put o.dst u∧Below w.heap.size w w'∧V u w'
def qM(o:Oper):Bool:=(match o.op with| .extract _ _=>true|_=>false)&&o.guard.isNone
def xS(l:List Oper)(n:Nat):Nat→Nat→Bool|0,_=>false|f+1,k=>Region.waitsFor .any l.toArray n k||(List.range n).any fun j=>Region.waitsFor .any l.toArray j k&&xS l n f j
def mw(l:List Oper)(k:Nat):Nat:=((l[k]?).bind (·.dst)).getD 0
def zR (l : List Oper) (ds : List Nat) (a ex : List Nat) (n N : Nat) : Bool :=
  decide (n ≤ l.length) && Region.noSelect l.toArray && Region.chainB .any l.toArray n &&
  ((List.range n).all fun k => match l[k]? with
    | none => false
    | some o => o.after.all (fun e => !Region.binds .any e || decide (e.on < k)) &&
      (match o.dst with
        | none => false
        | some d => ds.contains d && decide (d < N) && (List.range n).all (fun j => j == k || (match l[j]? with | some c => c.dst != some d | none => true))) &&
      (if a.contains k then decide (n < l.length) && (ex.contains k || qM o) && (List.range l.length).all (fun j => decide (j ≤ k) || !(decide (n ≤ j) || a.contains j) || (match l[j]? with | some b => b.after.any (fun e => Region.binds .any e && e.on == k) || o.apart l.toArray b | none => true))
        else decide (n = l.length) || xS l n l.length k)) &&
  Region.seqB .any l.toArray (l.length - n) n ((List.range l.length).map (fun k => decide (k < n))).toArray
def Mh(l:List Oper)(ds:List Nat)(a:List Nat)(n N:Nat):Bool:=zR l ds a [] n N
theorem Gz{P:Program}{o:Oper}{a:Act}{w:World}{ops:Array Oper}{V:Value→World→Prop}{K:Act→World→Prop}{Q:O3}(h:wpList P ops (tU V o a w) [o] a w)(l:∀u w',Below w.heap.size w w'→V u w'→K (a.put o.dst u) w')(i:Nat)(n:ops[i]? =some o):wpOp P ops Q i K a w:=by unfold wpOp;rw[n];unfold wpList at h;by_cases m:Region.wanted o (yielded ops a.tmps)=true;{simp only[m,if_true]at h ⊢;refine .inl ?_;(rcases h with h|⟨_,c,b,h⟩);{refine tv (fun e c b g f=>absurd f.1 g) (fun c b f=> ?_) h;obtain⟨-,u,rfl,d,j⟩:=(show tU V o a w .normal c b from f);exact l u b d j};{exact absurd h.1 (by simp)}};{simp only[m]at h ⊢;obtain⟨-,u,k,d,j⟩:=(show tU V o a w .normal (a.put o.dst undef) w from h);rw[k];exact l u w d j}
theorem xz{P:Program}{o:Oper}{a:Act}{w:World}{ops:Array Oper}{V:Value→World→Prop}(b:qM o=true)(h:wpList P ops (tU V o a w) [o] a w):∃v,Yields P ops o v a∧∃u,a.put o.dst u=a.put o.dst v∧∃w',Below w.heap.size w w'∧w'=w∧V u w':=by obtain⟨dst,op,ty,ps,f,l⟩:=o;simp only[qM,br,Option.isNone_iff_eq_none]at b;obtain⟨b,rfl⟩:=b;cases op<;>simp at b;rename_i t ix;unfold wpList at h;(have e:Region.wanted ⟨dst,.extract t ix,ty,ps,f,none⟩ (yielded ops a.tmps)=true:=by simp[Region.wanted]);simp only[e,if_true]at h;(rcases h with h|⟨_,k,m,h⟩);{unfold Oper.wp at h;unfold Yields;cases c:a.eval t with|tuple vs=>(cases d:vs[ix]? with|none=>simp[execOp,Instr.extract,c,d,Oper.upon]at h|some v=>simp only[execOp,Instr.extract,c,d]at h ⊢;refine⟨v,.inl ⟨e,fun w=>by simp⟩,?_⟩;simp[Oper.upon]at h;obtain⟨-,u,g,i,j⟩:=(show tU V _ a w .normal (a.put dst v) w from h);exact⟨u,g.symm,w,i,rfl,j⟩)|_=>simp[execOp,Instr.extract,c,Oper.upon]at h};{exact absurd h.1 (by simp)}
def Ox (vs : List (Option Value)) (V : Nat → Value → World → Prop) (k : Nat) (u : Value) (w : World) : Prop :=
  match vs.getD k none with
  | some v => u = v
  | none => V k u w
section
variable {P:Program} {Q:O3} {a:Act} {w:World} {l:List Oper}
structure OH (l:List Oper) (n:Nat) (ds:List Nat) (V:Nat→Value→World→Prop) (a:Act) (w:World) (listed:Array Bool) (a':Act) (w':World):Prop where
 size:listed.size=l.length
 tail:∀t,n≤t→t<l.length→listed.getD t false=false
 closed:∀(k:Nat)(o:Oper),l[k]? =some o→listed.getD k false=true→∀e∈o.after,Region.binds .any e=true→listed.getD e.on false=true
 bel:Below w.heap.size w w'
 f:∃f:Nat→Value,a'=fY a ds f∧∀k,k<n→listed.getD k false=true→V k (f (mw l k)) w'
structure uN (V:Nat→Value→World→Prop) (l:List Oper) (o:Oper) (f:Nat→Value) (w:World):Prop where
 get:∀e∈o.after,Region.binds .any e=true→V e.on (f (mw l e.on)) w
structure G2 (V:Nat→Value→World→Prop) (l:List Oper) (n:Nat) (f:Nat→Value) (w:World):Prop where
 get:∀k,k<n→V k (f (mw l k)) w
def fw(P:Program)(l:List Oper)(a:Act)(ds:List Nat)(V:Nat→Value→World→Prop)(w:World):List Oper→Nat→Prop|[],_=>True|o::r,k=>(∀(f:Nat→Value)(w':World),Below w.heap.size w w'→uN V l o f w'→wpList P l.toArray (tU (V k) o (fY a ds f) w') [o] (fY a ds f) w')∧fw P l a ds V w r (k+1)
theorem fw.nil{ds:List Nat}{V:Nat→Value→World→Prop}{k:Nat}:fw P l a ds V w [] k:=trivial
theorem fw.cons{ds:List Nat}{V:Nat→Value→World→Prop}{k:Nat}{o:Oper}{r:List Oper}(h:∀(f:Nat→Value)(w':World),Below w.heap.size w w'→uN V l o f w'→wpList P l.toArray (tU (V k) o (fY a ds f) w') [o] (fY a ds f) w') (b:fw P l a ds V w r (k+1)):fw P l a ds V w (o::r) k:=⟨h,b⟩
theorem fw.get{ds:List Nat}{V:Nat→Value→World→Prop}:∀{r:List Oper}{b:Nat},fw P l a ds V w r b→∀k o,r[k]? =some o→∀(f:Nat→Value)(w':World),Below w.heap.size w w'→uN V l o f w'→wpList P l.toArray (tU (V (b+k)) o (fY a ds f) w') [o] (fY a ds f) w'|[],_,_,_,_,c=>by simp at c|o::r,b,h,0,_,c=>by rw[bo]at c;cases c;exact h.1|o::r,b,h,k+1,_,c=>by rw[aU]at c;have:=fw.get h.2 k _ c;rwa[show b+1+k=b+(k+1) by omega]at this
theorem uh{n:Nat}{a:Array Bool}(i:∀(k:Nat)(o:Oper),l[k]? =some o→a.getD k false=true→∀e∈o.after,Region.binds .any e=true→a.getD e.on false=true)(m:∀o,l[n]? =some o→∀e∈o.after,Region.binds .any e=true→a.getD e.on false=true):∀(f k:Nat),xS l n f k=true→a.getD k false=true|0,_,h=>by simp[xS]at h|f+1,k,h=>by simp only[xS,eH,List.any_eq_true,bI,br]at h;(rcases h with h|⟨j,_,p,q⟩);{obtain⟨o,g,e,d,c,b⟩:=Region.waitsFor_spec h;have:=m o (by simpa using g) e d c;rwa[b]at this};{obtain⟨o,g,e,d,c,b⟩:=Region.waitsFor_spec p;have:=i j o (by simpa using g) (uh i m f j q) e d c;rwa[b]at this}
theorem qq{a:Array Bool}:∀(n:Nat),(∃k,k<n∧a.getD k false=false)→∃i,i<n∧a.getD i false=false∧∀j,j<i→a.getD j false=true|0,⟨k,h,_⟩=>absurd h (by omega)|n+1,⟨k,m,e⟩=>by by_cases c:∃k,k<n∧a.getD k false=false;{obtain⟨i,o,f,g⟩:=qq n c;exact⟨i,by omega,f,g⟩};{refine⟨n,by omega,?_,fun j l=> ?_⟩;{(obtain rfl:k=n:=by by_cases d:k=n;{exact d};{exact absurd ⟨k,by omega,e⟩ c});exact e};{cases b:a.getD j false with|true=>rfl|false=>exact absurd ⟨j,l,b⟩ c}}
theorem pw{id:Nat}(N n:Nat)(ds K ex:List Nat)(V:Nat→Value→World→Prop)(hm:P.follows .mixedOrders=true)(b6:a.tmps.size=N)(hF:zR l ds K ex n N=true)(hQ:K=[]∨∀c d v a w,Q (.panic c) (a.put d v) w→Q (.panic c) a w)(hV:∀k u w1 w2,Below w1.heap.size w1 w2→V k u w1→V k u w2)(an:fw P l a ds V w (l.take n) 0)(hY:∀k∈ex,∀o,l[k]? =some o→∀(f:Nat→Value)(w':World),Below w.heap.size w w'→uN V l o f w'→∃v,Yields P l.toArray o v (fY a ds f)∧V k v w')(h:∀(f:Nat→Value)(w':World),Below w.heap.size w w'→G2 V l n f w'→wpList P l.toArray Q (l.drop n) (fY a ds f) w'):(Code.region id l.toArray true).wp P Q a w:=by subst b6;(have bb:∀k o,k<n→l[k]? =some o→∀(f:Nat→Value)(w':World),Below w.heap.size w w'→(∀e∈o.after,Region.binds .any e=true→V e.on (f (mw l e.on)) w')→wpList P l.toArray (tU (V k) o (fY a ds f) w') [o] (fY a ds f) w':=fun k o m A=>by have:=fw.get an k o (by rw[aZ,aq m];exact A);rw[bz]at this;exact fun f w' z hU=>this f w' z ⟨hU⟩);simp only[zR,br,aV]at hF;obtain⟨⟨⟨⟨b8,bs⟩,S⟩,U⟩,bt⟩:=hF;(have y:∀k o,k<n→l[k]? =some o→(∀e∈o.after,Region.binds .any e=true→e.on<k)∧(∃d,o.dst=some d∧d∈ds∧d<a.tmps.size∧∀j o',j<n→l[j]? =some o'→j≠k→o'.dst≠some d)∧(k∈K→n<l.length∧(k∈ex∨qM o=true)∧∀j oj,l[j]? =some oj→k<j→(n≤j∨j∈K)→(∀e∈oj.after,Region.binds .any e=true→e.on≠k)→o.apart l.toArray oj=true)∧(k∉K→n=l.length∨xS l n l.length k=true):=by intro k o m A;have:=bK.1 U k (bI.2 m);simp only[A,br]at this;obtain⟨⟨h2,h3⟩,h4⟩:=this;refine⟨fun e D z=> ?_,?_,fun O=> ?_,fun O=> ?_⟩;{have:=Array.all_eq_true_iff_forall_mem.1 h2 e D;simpa[z]using this};{cases hd:o.dst with|none=>rw[hd]at h3;simp at h3|some d=>rw[hd]at h3;simp only[br,aV]at h3;refine⟨d,rfl,by simpa using h3.1.1,h3.1.2,fun j o' q H ad=> ?_⟩;have:=bK.1 h3.2 j (bI.2 q);simp only[H]at this;simpa[ad]using this};{(have:K.contains k=true:=by simpa using O);rw[aq this]at h4;simp only[br,aV]at h4;refine⟨h4.1.1,by simpa using h4.1.2,fun j oj H ad q ba=> ?_⟩;have E:=bK.1 h4.2 j (bI.2 (ah.1 H).1);simp only[H,eH,aV,Bool.not_eq_true',Bool.or_eq_false_iff,cd]at E;(rcases E with(E|E)|E|E);{exact absurd E (by omega)};{exfalso;(rcases q with q|q);{exact E.1 q};{(have:K.contains j=true:=by simpa using q);rw[this]at E;exact absurd E.2 (by simp)}};{obtain⟨e,D,z⟩:=Array.any_eq_true'.1 E;simp only[br,dr]at z;exact absurd z.2 (ba e D z.1)};{exact E}};{(have:¬K.contains k=true:=by simpa using O);rw[ai this]at h4;simpa using h4});refine wp_region_any hm ?_;(have main:∀(r:Nat)(b:Array Bool)(M:Act)(w':World),(List.range n).countP (fun k=> !b.getD k false)=r→OH l n ds V a w b M w'→wpAny P .any l.toArray Q (r+(l.length-n)) b M w':=by intro r;induction r with|zero=>intro b M w' hc C;(have L:∀k,k<n→b.getD k false=true:=fun k A=>by have:=List.countP_eq_zero.1 hc k (bI.2 A);simpa using this);(have a8:b=((List.range l.length).map (fun k=>decide (k<n))).toArray:=by apply Array.ext;{simpa using C.size};{intro i G h2;simp only[List.getElem_toArray,eY,List.getElem_range];by_cases B:i<n;{have:=L i B;simp only[Array.getD,G,eU]at this;simp only[B,decide_true];exact this};{have:=C.tail i (by omega) (by rw[←C.size];exact G);simp only[Array.getD,G,eU]at this;simp only[B,decide_false];exact this}});obtain⟨f,rfl,hf⟩:=C.f;rw[bz,show l.length-n=(l.drop n).length by simp];refine wpAny_of_seq (l.drop n) n b _ w' (fun j=>by simp) ?_ (h f w' C.bel ⟨fun k A=>hf k A (L k A)⟩);rw[a8,bp];exact bt|succ r ih=>intro b M w' hc C;(obtain⟨i,B,W,a1⟩:∃i,i<n∧b.getD i false=false∧∀j,j<i→b.getD j false=true:=by refine qq n ?_;(have:0<(List.range n).countP (fun k=> !b.getD k false):=by omega);obtain⟨k,A,Y⟩:=List.countP_pos_iff.1 this;exact⟨k,bI.1 A,by simpa using Y⟩);(have bh:i<l.length:=by omega);(have x:i∈Region.ready .any l.toArray b:=by rw[mem_ready];have Y:l[i]? =some l[i]:=ag bh;refine⟨?_,l[i],by simp[Y],fun e D z=>a1 e.on ((y i _ B Y).1 e D z)⟩;(have a7:i<b.size:=by rw[C.size];exact bh);simp only[Array.getD,a7,eU]at W ⊢;exact W);(have next:∀(k:Nat)(o:Oper),k<n→l[k]? =some o→b.getD k false=false→(∀e∈o.after,Region.binds .any e=true→b.getD e.on false=true)→∀u F,Below w'.heap.size w' F→V k u F→wpAny P .any l.toArray Q (r+(l.length-n)) (b.setIfInBounds k true) (M.put o.dst u) F:=by intro k o m p Z g u F z hu;(have a6:k<l.length:=by omega);(have a7:k<b.size:=by rw[C.size];exact a6);refine ih _ _ F ?_ ?_;{have:=uX n k (fun j=> !b.getD j false) (fun j=> !(b.setIfInBounds k true).getD j false) m (by simp only[Z];rfl) (by simp[Array.getD,a7]) (fun j H=>by show(!(b.setIfInBounds k true).getD j false)= !b.getD j false;rw[getD_set_ne false (fun e=>H e.symm)]);omega};{obtain⟨f,rfl,hf⟩:=C.f;obtain⟨G,⟨d,hd,bg,bf,b0⟩, -, -⟩:=y k o m p;refine⟨by simpa using C.size,fun t ht b7=> ?_,fun j oj H L e D bc=> ?_,C.bel.trans (z.mono C.bel.size),?_⟩;{rw[getD_set_ne false (by omega)];exact C.tail t ht b7};{have up:∀i,b.getD i false=true→(b.setIfInBounds k true).getD i false=true:=fun i hi=>getD_set_true hi;by_cases J:j=k;{subst J;rw[p]at H;cases H;exact up _ (g e D bc)};{rw[getD_set_ne false (fun e=>J e.symm)]at L;exact up _ (C.closed j oj H L e D bc)}};{rw[hd,rF bg bf];refine⟨_,rfl,fun j q L=> ?_⟩;by_cases J:j=k;{subst J;(have:mw l j=d:=by simp[mw,p,hd]);rw[this];simpa using hu};{rw[getD_set_ne false (fun e=>J e.symm)]at L;(have b4:j<l.length:=by omega);have R:l[j]? =some l[j]:=ag b4;obtain⟨-,⟨d',bd, -⟩, -⟩:=y j _ q R;(have hs:mw l j=d':=by simp[mw,R,bd]);have ad:d'≠d:=fun e=>b0 j _ q R J (by rw[bd,e]);have:=hV j _ _ _ z (hf j q L);rw[hs]at this ⊢;simpa[ad]using this}}});(have step:∀(k:Nat)(o:Oper),k<n→l[k]? =some o→(∀e∈o.after,Region.binds .any e=true→b.getD e.on false=true)→wpList P l.toArray (tU (V k) o M w') [o] M w':=by intro k o m p g;obtain⟨f,rfl,hf⟩:=C.f;exact bb k o m p f w' C.bel fun e D z=>hf e.on (by have:=(y k o m p).1 e D z;omega) (g e D z));(have conv:∀k,k∈Region.ready .any l.toArray b→∃o,l[k]? =some o∧b.getD k false=false∧(∀e∈o.after,Region.binds .any e=true→b.getD e.on false=true):=by intro k A;obtain⟨G,o,ho,g⟩:=mem_ready.1 A;exact⟨o,by simpa using ho,getD_both G,g⟩);rw[show r+1+(l.length-n)=(r+(l.length-n))+1 by omega];by_cases hA:∀k,k<n→k∉K→b.getD k false=true;{(have aO:i∈K:=by by_cases hc:i∈K;{exact hc};{have:=hA i B hc;rw[W]at this;cases this});(obtain⟨o,I, -,g⟩:=conv i x);obtain⟨-,⟨d,hd,bg,bf, -⟩,O, -⟩:=y i o B I;obtain⟨-,hx,bu⟩:=O aO;(obtain⟨v,hy,u,bq,w2,bx,rfl,hu⟩:∃v,Yields P l.toArray o v M∧∃u,M.put o.dst u=M.put o.dst v∧∃w2,Below w'.heap.size w' w2∧w2=w'∧V i u w2:=by (rcases hx with hx|hx);{obtain⟨f,rfl,hf⟩:=C.f;obtain⟨v,G,h2⟩:=hY i hx o I f w' C.bel ⟨fun e D z=>hf e.on (by have:=(y i o B I).1 e D z;omega) (g e D z)⟩;exact⟨v,G,v,rfl,w',ae _ _,rfl,h2⟩};{exact xz hx (step i o B I g)});refine wpAny_first (v:=v) (by simpa using I) (Region.noSelect_spec bs) (fun c a w hq=>(hQ.resolve_left (by rintro rfl;cases aO)) c _ _ _ _ hq) _ b M _ (fun j oj H b3 bk ba=> ?_) x hy ?_;{(have b2:l[j]? =some oj:=by simpa using H);(have b1:i<j:=by (rcases ef j i with h|h|h);{have:=a1 j h;rw[getD_both bk]at this;cases this};{exact absurd h b3};{exact h});refine bu j oj b2 b1 ?_ ba;by_cases q:n≤j;{exact .inl q};{right;by_cases X:j∈K;{exact X};{have:=hA j (by omega) X;rw[getD_both bk]at this;cases this}}};{rw[←bq];exact next i o B I W g u _ bx hu}};{(have bn:∀k∈Region.ready .any l.toArray b,k<n:=by intro k A;(obtain⟨o,p,Z,g⟩:=conv k A);have a6:k<l.length:=(ah.1 p).1;(rcases cw k n with m|m);{exact m};{exfalso;by_cases bl:k=n;{subst bl;apply hA;intro j H X;have R:l[j]? =some l[j]:=ag (by omega);(rcases(y j _ H R).2.2.2 X with E|E);{omega};{exact uh C.closed (fun o' af=>by rw[p]at af;cases af;exact g) _ j E}};{have G:=bK.1 S k (bI.2 (by simpa using a6));simp only[eH,aV]at G;(rcases G with G|G);{omega};{obtain⟨o',af,e,D,z,b5⟩:=Region.waitsFor_spec G;(have:o'=o:=by (have:l[k]? =some o':=by simpa using af);rw[p]at this;exact(ak this).symm);subst this;have h2:=g e D z;rw[b5,C.tail (k-1) (by omega) (by omega)]at h2;cases h2}}});refine⟨fun h0=>(by rw[h0]at x;cases x),fun k A=> ?_⟩;(obtain⟨o,p,Z,g⟩:=conv k A);have m:=bn k A;exact Gz (step k o m p g) (fun u F z hu=>next k o m p Z g u F z hu) k (by simpa using p)});(have T:(List.range n).countP (fun k=> !(Array.replicate l.length false).getD k false)=n:=by (have:(List.range n).countP (fun k=> !(Array.replicate l.length false).getD k false)=(List.range n).length:=by rw[List.countP_eq_length];intro k A;have:=bI.1 A;(have:k<l.length:=by omega);simp[Array.getD,this]);simpa using this);have:=main n (Array.replicate l.length false) a w.drew T ⟨by simp,fun t _ ht=>by simp[Array.getD,ht],fun k o A L=>by exfalso;have:=(ah.1 A).1;simp[Array.getD,this]at L,(ae _ _).drew,fun s=>a.tmps.getD s undef,(pX a ds).symm,fun k A L=>by exfalso;(have:k<l.length:=by omega);simp[Array.getD,this]at L⟩;rw[show n+(l.length-n)=l.toArray.size by simp;omega]at this;simpa using this
theorem fy{id:Nat}(N n:Nat)(ds e:List Nat)(V:Nat→Value→World→Prop)(q:P.follows .mixedOrders=true)(g:a.tmps.size=N)(j:Mh l ds e n N=true)(m:e=[]∨∀c d v a w,Q (.panic c) (a.put d v) w→Q (.panic c) a w)(o:∀k u w1 i,Below w1.heap.size w1 i→V k u w1→V k u i)(b:fw P l a ds V w (l.take n) 0)(h:∀(f:Nat→Value)(w':World),Below w.heap.size w w'→G2 V l n f w'→wpList P l.toArray Q (l.drop n) (fY a ds f) w'):(Code.region id l.toArray true).wp P Q a w:=pw N n ds e [] V q g j m o b (fun k p=>by cases p) h
theorem lX{id:Nat}(N n:Nat)(ds d ex:List Nat)(V:Nat→Value→World→Prop)(m:P.follows .mixedOrders=true)(c:a.tmps.size=N)(g:zR l ds d ex n N=true)(i:∀k u w1 e,Below w1.heap.size w1 e→V k u w1→V k u e)(b:fw P l a ds V w (l.take n) 0)(j:∀k∈ex,∀o,l[k]? =some o→∀(f:Nat→Value)(w':World),Below w.heap.size w w'→uN V l o f w'→∃v,Yields P l.toArray o v (fY a ds f)∧V k v w')(h:∀(f:Nat→Value)(w':World),Below w.heap.size w w'→G2 V l n f w'→wpList P l.toArray (NoPanic Q) (l.drop n) (fY a ds f) w'):(Code.region id l.toArray true).wp P Q a w:=wp_region_noPanic (pw N n ds d ex V m c g (.inr fun _ _ _ _ _ h=>h) i b j h)
theorem gy{id:Nat}(N n:Nat)(ds d:List Nat)(V:Nat→Value→World→Prop)(j:P.follows .mixedOrders=true)(c:a.tmps.size=N)(g:Mh l ds d n N=true)(i:∀k u w1 e,Below w1.heap.size w1 e→V k u w1→V k u e)(b:fw P l a ds V w (l.take n) 0)(h:∀(f:Nat→Value)(w':World),Below w.heap.size w w'→G2 V l n f w'→wpList P l.toArray (NoPanic Q) (l.drop n) (fY a ds f) w'):(Code.region id l.toArray true).wp P Q a w:=wp_region_noPanic (fy N n ds d V j c g (.inr fun _ _ _ _ _ h=>h) i b h)
theorem iu(h:Q .normal a w):NoPanic Q .normal a w:=h
end
end
section
section
variable {P:Program} {Q:O3} {a:Act} {w:World} {l:List Oper}
def sZ(V:Option Nat→Nat→Value→World→Prop)(p k:Nat)(β:Option Nat)(w':World):Value→World→Prop:=if k=p then fun u a=>a.heap.size=w'.heap.size+1∧V (some w'.heap.size) p u a else V β k
theorem sZ.p{V:Option Nat→Nat→Value→World→Prop}{p:Nat}{β:Option Nat}{w' a:World}{u:Value}(b:a.heap.size=w'.heap.size+1)(c:V (some w'.heap.size) p u a):sZ V p p β w' u a:=by unfold sZ;rw[aq rfl];exact⟨b,c⟩
theorem sZ.o{V:Option Nat→Nat→Value→World→Prop}{p k:Nat}{β:Option Nat}{w' a:World}{u:Value}(b:k≠p)(h:V β k u a):sZ V p k β w' u a:=by unfold sZ;rw[ai b];exact h
def mF(P:Program)(l:List Oper)(a:Act)(ds:List Nat)(p:Nat)(V:Option Nat→Nat→Value→World→Prop)(w:World):List Oper→Nat→Prop|[],_=>True|o::r,k=>(∀(β:Option Nat)(f:Nat→Value)(w':World),Below w.heap.size w w'→(∀b,β=some b→w.heap.size≤b∧b<w'.heap.size)→uN (V β) l o f w'→wpList P l.toArray (tU (sZ V p k β w') o (fY a ds f) w') [o] (fY a ds f) w')∧mF P l a ds p V w r (k+1)
theorem mF.nil{ds:List Nat}{p:Nat}{V:Option Nat→Nat→Value→World→Prop}{k:Nat}:mF P l a ds p V w [] k:=trivial
theorem mF.cons{ds:List Nat}{p:Nat}{V:Option Nat→Nat→Value→World→Prop}{k:Nat}{o:Oper}{r:List Oper}(h:∀(β:Option Nat)(f:Nat→Value)(w':World),Below w.heap.size w w'→(∀b,β=some b→w.heap.size≤b∧b<w'.heap.size)→uN (V β) l o f w'→wpList P l.toArray (tU (sZ V p k β w') o (fY a ds f) w') [o] (fY a ds f) w') (c:mF P l a ds p V w r (k+1)):mF P l a ds p V w (o::r) k:=⟨h,c⟩
theorem mF.get{ds:List Nat}{p:Nat}{V:Option Nat→Nat→Value→World→Prop}:∀{r:List Oper}{b:Nat},mF P l a ds p V w r b→∀k o,r[k]? =some o→∀(β:Option Nat)(f:Nat→Value)(w':World),Below w.heap.size w w'→(∀b,β=some b→w.heap.size≤b∧b<w'.heap.size)→uN (V β) l o f w'→wpList P l.toArray (tU (sZ V p (b+k) β w') o (fY a ds f) w') [o] (fY a ds f) w'|[],_,_,_,_,c=>by simp at c|o::r,b,h,0,_,c=>by rw[bo]at c;cases c;exact h.1|o::r,b,h,k+1,_,c=>by rw[aU]at c;have:=mF.get h.2 k _ c;rwa[show b+1+k=b+(k+1) by omega]at this
end
end
theorem pA (a : Act) (d : Nat) (ds : List Nat) (f : Nat → Value) : fY a (d :: ds) f = fY (a.put (some d) (f d)) ds f := rfl
theorem pB (a : Act) (f : Nat → Value) : fY a [] f = a := rfl
def NN : Ground → Bool
  | .data => true
  | .guard => true
  | _ => false
def G1 (V : Nat → Value → World → Prop) (l : List Oper) (f : Nat → Value) (w : World) : List Edge → Prop
  | [] => True
  | e :: r => (match NN e.ground with | true => V e.on (f (mw l e.on)) w | false => True) ∧ G1 V l f w r
theorem G1.of {V : Nat → Value → World → Prop} {l : List Oper} {f : Nat → Value} {w : World} : ∀ (a : List Edge), (∀ e ∈ a, Region.binds .any e = true → V e.on (f (mw l e.on)) w) → G1 V l f w a
  | [], _ => trivial
  | e :: r, h => ⟨by cases hk : NN e.ground with
    | true => exact h e ar (by obtain ⟨n, k⟩ := e; cases k <;> first | rfl | cases hk)
    | false => trivial, G1.of r (fun b c => h b (av _ c))⟩
theorem uN.L {V : Nat → Value → World → Prop} {l : List Oper} {o : Oper} {f : Nat → Value} {w : World} (h : uN V l o f w) : G1 V l f w o.after.toList := G1.of _ (fun e a => h.get e (by simpa using a))
theorem uN.g {V : Nat → Value → World → Prop} {l : List Oper} {o : Oper} {f : Nat → Value} {w : World} (h : uN V l o f w) (k : Nat) (c : (o.after.toList.any fun e => e.on == k && Region.binds .any e) = true) : V k (f (mw l k)) w := by
  obtain ⟨e, b, a⟩ := List.any_eq_true.1 c
  simp only [br, dr] at a
  obtain ⟨rfl, h3⟩ := a
  exact h.get e (by simpa using b) h3
def fx (v u : Value) (_ : World) : Prop := u = v
def vG (L : List (Value → World → Prop)) (k : Nat) : Value → World → Prop := L.getD k (fun _ _ => True)
def fG (L : List ((Nat → Value) → World → Prop)) (k : Nat) : (Nat → Value) → World → Prop := L.getD k (fun _ _ => True)
theorem G2.G {V : Nat → Value → World → Prop} {l : List Oper} {n : Nat} {f : Nat → Value} {w : World} (h : G2 V l n f w) (k : Nat) (a : Nat.blt k n = true) : V k (f (mw l k)) w := h.get k (Nat.le_of_ble_eq_true a)
theorem fE {U : Nat → (Nat → Value) → World → Prop} {B : World → Prop} {k : Nat} {o : Oper} {f : Nat → Value} {a : Act} {w : World} {u : Value} (c : jc o = false) (h : ∀ b, (∀ s, o.dst = some s → b s = u) → U k b w) : OJ U B k o f a w .normal (a.put o.dst u) w := ⟨rfl, .inl ⟨c, u, rfl, ae _ _, h⟩⟩
end Go.Proofs.YtlpbeifnibodoaaGreatDoor
