/- Lemmas. Conditions: those of each. -/
import Derived.Test.YtlpbeifnibodoaaGreatDoorY02
import Derived.Test.YtlpbeifnibodoaaGreatDoorRows
import Derived.Deep.DeepHandedRow
import Derived.Lib.LaidTab
import Derived.Deep.Slices
set_option linter.all false
set_option maxRecDepth 100000
set_option maxHeartbeats 16000000
namespace Go.Proofs.YtlpbeifnibodoaaGreatDoor
open Go.ChangeShapes Go.WideShapes Go.ChangeAt Go.RowKit
section
variable {H:Type} {enc:TypeId×Value→H} {P:Program}
theorem F5{w:World}{a:Addr}{v:Value}(h:w.cell? a=some v):a.spot=none:=by unfold World.cell? at h;split at h;{split at h;{cases h};{rename_i b;simpa using b}};{cases h}
theorem rf(a:Addr):a.add 0=a:=by simp[Addr.add]
theorem yY(i:laidOutB P=true){W f:World}{k:Nat→Bool}(g:Below W.heap.size W f):∀(e:List TypeId)(vs:O5)(ds:List (DataW H))(ps:List MemPlace),(∀t∈e,P.readableRec t=true∧t<P.types.size)→(∀p∈ps,p.block<W.heap.size)→(∀p∈ps,k p.block=true)→DataW.TrodAll enc P W 0 (fun _=>true) true e vs ds ps→DataW.TrodAll enc P f 0 k true e vs ds ps|[],[],[],ps,_,_,_,h=>h|t::e,v::vs,d::ds,ps,j,b,c,h=>by obtain⟨p,q,l,m,rfl⟩:=h;refine⟨p,q,?_,yY i g e vs ds q (fun t n=>j t (av _ n)) (fun x a=>b x (by simp[a])) (fun x a=>c x (by simp[a])) m,rfl⟩;obtain⟨o,r⟩:=j t (by simp);exact WideElems.Trod_stays i o r l (fun x a=>g.same (b x (by simp[a]))) (fun x a=>c x (by simp[a]))|[],[],_::_,_,_,_,_,h=>h.elim|[],_::_,_,_,_,_,_,h=>by cases h|_::_,[],_,_,_,_,_,h=>by cases h|_::_,_::_,[],_,_,_,_,h=>by cases h
theorem IY{f:Func}{s:ChangeSpec}{W j:World}{args:Array Value}{ds i:List (DataW H)}{before:List MemPlace}{E:TypeId}(J:laidOutB P=true)(v:∀t∈f.params.toList,P.readableRec t=true∧t<P.types.size)(c:s.vars=[])(e:f.resultTypes= #[E])(A:P.underlying E=some .bool)(a:s.fn H (ds++i)={results:=[.lit (.bool true)],args:=ds})(n:DataW.Whole enc P f.params.toList s.vars false W args.toList ds i before)(C:Below W.heap.size W j):s.post enc P f false true false false W args (.bool true) j:=by have k:∀p∈before,p.block<W.heap.size:=fun p K=>n.lt p K;have o:=n;obtain⟨p,q,F,B,r,I,_⟩:=n;rw[c]at B;obtain⟨M,L⟩:=trodVars_none B;subst L;subst r;(have y:(Value.bool true).resultList f.resultTypes.size=[.bool true]:=by rw[e];rfl);(have l:∀d:Nat→Bool,(∀x∈p++[],d x.block=true)→DataW.TrodAll enc P j 0 d true f.params.toList args.toList (s.fn H (ds++i)).args p:=by intro d z;rw[a];exact yY J C _ _ _ _ v (fun x g=>k x (by simp[g])) (fun x g=>z x (by simp[g])) F);(have m:∀d:Nat→Bool,DataW.TrodVars enc P j d s.vars (s.fn H (ds++i)).vars []:=by intro d;rw[a,c];exact rfl);(have G:∀(b:Nat)(d:Nat→Bool)(D:Bool),DataW.TrodAll enc P j b d D f.resultTypes.toList ((Value.bool true).resultList f.resultTypes.size) (s.fn H (ds++i)).results []:=by intro b d D;rw[a,y,e];exact trodAll_cons_mk (shut_bool A _) trodAll_mk0);refine⟨ds,i,p++[],[],p,[],o,G _ _ _,l _ (fun x g=>by simpa using k x g),m _,World.keptBut_mono (fun x g=>⟨g,?_⟩) (C.frame (· ∈p++[])),fun h=>by cases h⟩;simpa using g
end
end Go.Proofs.YtlpbeifnibodoaaGreatDoor
