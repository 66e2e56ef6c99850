/- Lemmas. Conditions: those of each. -/
import Derived.Test.YtlpbeifnibodoaaGreatDoorY40
import Derived.Sort.KeysCollected
set_option linter.all false
set_option maxRecDepth 100000
set_option maxHeartbeats 16000000
namespace Go.Proofs.YtlpbeifnibodoaaGreatDoor
open Go.Proofs.Tryz Go.RowKit Go.Lib
abbrev M0(w:World)(m r:Nat)(l:nj)(left:Lit→Bool)(a:Nat):Prop:=w.ranges prog 9 RH m r l.length (ny l) left a
theorem M0.fg{w w':World}{m r:Nat}{l:nj}{left:Lit→Bool}{b:Nat}(h:M0 w m r l left b)(d:fm w w'):M0 w' m r l left b:=by have g:=World.ownsMap.lt (World.ranges.owns h);have i:=World.ranges.lt h;obtain⟨f,a,since,seen,e,c,F,k,hD,j,rest⟩:=h;exact⟨f,a,since,seen,e,(d.block m g).trans c,F,k,hD,(d.block r i).trans j,rest⟩
theorem NI{k c:il}(r:k.map (·.nm)=c.map (·.nm))(s:iC k):∀e∈k,∃m∈c,iW c e.nm=some m∧∃i:Nat,k[i]? =some e∧c[i]? =some m:=by intro e v;(have z:e.nm∈c.map (·.nm):=by rw[←r];exact aJ.2 ⟨e,v,rfl⟩);obtain⟨m,B,H⟩:=aJ.1 z;(have g:(c.map (·.nm)).Pairwise fun a b=>bytesBefore a b=true:=by rw[←r,←iE];exact s);obtain⟨i,y⟩:=cr.1 v;(have d:(c.map (·.nm))[i]? =some e.nm:=by rw[←r,ay,y];rfl);rw[ay]at d;obtain⟨e2,l,t⟩:=cK.1 d;(have C:iW c e.nm=some e2:=by unfold iW;rw[List.find?_eq_some_iff_append];refine⟨by simpa using t,c.take i,c.drop (i+1),?_,fun x G=> ?_⟩;{obtain⟨F,D⟩:=ah.1 l;rw[←D,←bJ F,bB]};{obtain⟨j,E⟩:=cr.1 G;obtain⟨q,f⟩:=ah.1 E;rw[aH]at q;rw[List.getElem_take]at f;obtain⟨p,o⟩:=ah.1 l;have n:=cC.1 g j i (by rw[aj];omega) (by rw[aj];exact p) (by omega);rw[eY,eY,f,o,t]at n;rw[Bool.not_eq_true',aX];intro A;rw[A,pk]at n;cases n});exact⟨e2,aw l,C,i,y,l⟩
end Go.Proofs.YtlpbeifnibodoaaGreatDoor
