/- Lemmas. Conditions: those of each. -/
import Derived.Test.YtlpbeifnibodoaaGreatDoorY47
import Derived.Test.YtlpbeifnibodoaaGreatDoorY46
set_option linter.all false
set_option maxRecDepth 100000
set_option maxHeartbeats 16000000
namespace Go.Proofs.YtlpbeifnibodoaaGreatDoor
open Go.Proofs.Tryz Go.ChangeShapes Go.WideShapes Go.ChangeAt Go.RowKit Go.Lib Go.Deep
set_option maxRecDepth 100000
section
variable {H:Type} {enc:TypeId×Value→H}
theorem OR:prog.cellsOf 67=2∧1≤prog.bytesOf 67∧1≤prog.bytesOf 4:=⟨by kernel_rfl,bw (by kernel_rfl),bw (by kernel_rfl)⟩
theorem MR(W:World){base:Nat}{t:Nat→Bool}{a:Bool}(n:Nat)(cs:O5)(y:DataW H×List MemPlace)(i:cs.length=2)(h:DataW.trod enc prog W base t a n 67 cs=some y)(l:∀z∈y.1.weights prog 67,z≤140737488351232):∃x:En,cs=NQ x∧ -9223372036854775808≤x.1∧x.1<9223372036854775808∧x.2.length≤140737488351232:=by obtain⟨B,q,r,C,D,E,F,G,I,p⟩:=cI;obtain⟨J,K,m,rfl,_,f,g⟩:=trod_struct2 underlying67 h;match cs,i with|[A,c1],_=>simp only[q,r,aG,aE,ax,aK]at f g;obtain⟨c,d,_,v⟩:=DataW.trod_int underlying2 f;obtain⟨s,e,k⟩:=Nr underlying9 g (fun z o=>l z (by simp only[DataW.weights,underlying67];exact tH (j:=1) rfl rfl o));simp only[List.cons.injEq,and_true]at d e;subst d e;(have b: -9223372036854775808≤c∧c≤9223372036854775807:=by simpa[Lit.wf,IntKind.min,IntKind.max,IntKind.signed,IntKind.bits]using v);exact⟨(c,s),rfl,b.1,by show c<_;omega,k⟩
theorem Gq{W:World}{base:Nat}{C:Nat→Bool}{a:Bool}{v:Value}{d:DataW H}{p:List MemPlace}(h:DataW.Trod enc prog W base C a 63 v d p)(o:∃A n c,v= .slice A n c)(q:∀z∈d.weights prog 63,z≤140737488351232):∃(s:Sl)(xs:List En),v=s.v∧te W s xs∧(∀x∈xs, -9223372036854775808≤x.1∧x.1<9223372036854775808∧x.2.length≤140737488351232)∧s.n≤140737488351232:=by obtain⟨y,B,F⟩:=OR;obtain⟨f,t,g,rfl⟩:=o;obtain⟨b,j⟩:=h;obtain⟨A,k,c,X,e,D,m,r,l,E,i⟩:=IU 2 (by omega) NQ zY (fun x=> -9223372036854775808≤x.1∧x.1<9223372036854775808∧x.2.length≤140737488351232) underlying63 y (MR W) j q;simp[Value.cells]at e;obtain⟨rfl,rfl,rfl⟩:=e;exact⟨⟨f,t,g⟩,X,rfl,⟨m⟩,r,OS i B⟩
theorem DQ{W:World}{base:Nat}{C:Nat→Bool}{a:Bool}{v:Value}{d:DataW H}{p:List MemPlace}(h:DataW.Trod enc prog W base C a 64 v d p)(o:∃A n c,v= .slice A n c)(q:∀z∈d.weights prog 64,z≤140737488351232):∃(s:Sl)(ds:List Bool),v=s.v∧jv W s ds∧s.n≤140737488351232:=by obtain⟨I,J,K,B,L,M,N,O,P,t⟩:=cI;obtain⟨g,r,i,rfl⟩:=o;obtain⟨b,l⟩:=h;obtain⟨A,k,c,X,e,D,f,G,m,E,j⟩:=IU 1 (by omega) (fun x:Bool=>[Value.bool x]) (fun _=>rfl) (fun _=>True) underlying64 B (fun n cs y F h _=>by obtain⟨x,e,_⟩:=DataW.trod_bool underlying4 h;exact⟨x,e,trivial⟩) l q;simp[Value.cells]at e;obtain⟨rfl,rfl,rfl⟩:=e;rw[Jc]at f;exact⟨⟨g,r,i⟩,X,rfl,⟨f⟩,OS j OR.2.2⟩
end
end Go.Proofs.YtlpbeifnibodoaaGreatDoor
