/- Lemmas. Conditions: those of each. -/
import Derived.Test.YtlpbeifnibodoaaGreatDoorY16
import Derived.Test.YtlpbeifnibodoaaGreatDoorY01
set_option linter.all false
set_option maxRecDepth 100000
set_option maxHeartbeats 16000000
namespace Go.Proofs.YtlpbeifnibodoaaGreatDoor
open Go.Proofs.Tryz Go.RowKit
def KT(t:TypeId)(w w':World):Prop:=∀b cs,fo w b t cs→fo w' b t cs
theorem KT.refl(t:TypeId)(w:World):KT t w w:=fun _ _ h=>h
theorem KT.trans{t:TypeId}{w w1 a:World}(h:KT t w w1)(k:KT t w1 a):KT t w a:=fun b cs c=>k b cs (h b cs c)
theorem KT.below{t:TypeId}{w w':World}(a:fm w w'):KT t w w':=fun _ _ h=>h.fg a
theorem fo.type{w:World}{g:Nat}{t c:TypeId}{cs a:O5}(h:fo w g t cs)(b:fo w g c a):t=c∧cs=a:=by unfold fo at h b;rw[h]at b;injection b with b;injection b with h1 h2 _;exact⟨h2,by simpa using aN Array.toList h1⟩
theorem KT.grown{t t0:TypeId}{w w':World}{g:Nat}{a:O5}(d:w.grownBy w' (some g))(c:fo w g t0 a)(f:t≠t0):KT t w w':=fun b cs h=>h.grown d fun e=>by cases e;exact f (h.type c).1
theorem KT.none{t:TypeId}{w w':World}(a:w.grownBy w' none):KT t w w':=fun _ _ h=>h.grown a (by intro h;cases h)
theorem KT.own{t e:TypeId}{w w':World}{base size:Nat}{v:Value}{n:Nat}{xs:O5}(a:w.ownsRow base e size v n xs)(b:w.grownBy w' v.ownBlock)(d:t≠e):KT t w w':=by (rcases a.2 with⟨rfl,_⟩|⟨g,cap,cur,rfl,_,c,_⟩);{exact KT.none b};{exact KT.grown b (show fo w g e cur.toList by unfold fo;simpa using c) d}
structure Row (w:World) (t:TypeId) (s:Sl) (xs:O5):Prop where
 len:xs.length=s.n
 nc:s.n≤s.c
 cm:s.c≤9223372036854775807
 at_:0<s.n→∃b off cs,s.A=some ⟨b,off,none⟩∧fo w b t cs∧∀j u,xs[j]? =some u→cs[off+j]? =some u
section
variable {w w':World} {t:TypeId} {s:Sl} {xs:O5}
theorem Row.kt(h:Row w t s xs)(k:KT t w w'):Row w' t s xs:=⟨h.len,h.nc,h.cm,fun f=>by obtain⟨b,a,cs,e,c,d⟩:=h.at_ f;exact⟨b,a,cs,e,k b cs c,d⟩⟩
theorem Row.fg(h:Row w t s xs)(a:fm w w'):Row w' t s xs:=h.kt (KT.below a)
theorem Row.rl(h:Row w t s xs):RL w 1 s.A s.n xs:=⟨by rw[h.len,dG],fun f=>by obtain⟨b,a,cs,e,c,d⟩:=h.at_ f;exact⟨b,a,e,c.lt,fun j u g=>(c.cell _).trans (d j u g)⟩⟩
theorem Row.nil(w:World)(t:TypeId):Row w t ⟨none,0,0⟩ []:=⟨rfl,aa _,by decide,fun h=>absurd h (bQ _)⟩
theorem Row.own{base:Nat}{v:Value}{n:Nat}(h:w.ownsRow base t 1 v n xs):∃s:Sl,v=s.v∧s.n=n∧Row w t s xs:=by obtain⟨A,c,rfl,o,e,i⟩:=jd h;refine⟨⟨A,n,c⟩,rfl,rfl,by have:=h.1;rwa[dG]at this,e,i,fun k=> ?_⟩;(rcases h.2 with⟨b,_⟩|⟨g,cap,cur,b,_,f,l,_,m,d⟩);{cases b;exact absurd k (bQ _)};{cases b;refine⟨g,0,cur.toList,rfl,by unfold fo;simpa using f,fun j u a=> ?_⟩;rw[bz];rw[←d,aZ]at a;split at a;{exact a};{cases a}}
theorem Row.pre(h:Row w t s xs){k c:Nat}(g:k≤s.n)(l:k≤c)(m:c≤9223372036854775807):Row w t ⟨s.A,k,c⟩ (xs.take k):=⟨by rw[aH,h.len];exact dq g,l,m,fun o=>by obtain⟨b,f,cs,e,i,d⟩:=h.at_ (aB o g);refine⟨b,f,cs,e,i,fun j u a=>d j u ?_⟩;rw[aZ]at a;split at a;{exact a};{cases a}⟩
theorem Row.cut(h:Row w t s xs){k:Nat}(m:k≤s.n):Row w t ⟨if s.c=k then s.A else s.A.map (·.add k),s.n-k,s.c-k⟩ (xs.drop k):=by have:=h.nc;have:=h.cm;refine⟨by rw[bp,h.len],?_,?_,fun g=> ?_⟩;{show s.n-k≤s.c-k;omega};{show s.c-k≤_;omega};{have i:0<s.n-k:=g;obtain⟨b,d,cs,e,f,a⟩:=h.at_ (by omega);refine⟨b,d+k,cs,?_,f,fun j u l=> ?_⟩;{show(if s.c=k then s.A else s.A.map (·.add k))=_;rw[ai (by omega),e];simp[gq]};{rw[cy];exact a _ u (by rw[←l,bC])}}
end
abbrev SB(w:World)(s:Sl)(l:O4):Prop:=Row w 5 s (l.map fP)
theorem SB.rb{w:World}{s:Sl}{l:O4}(h:SB w s l):RB w s.A s.n l:=Row.rl h
theorem SB.len{w:World}{s:Sl}{l:O4}(h:SB w s l):l.length=s.n:=by have:=Row.len h;simpa using this
theorem SB.pre{w:World}{s:Sl}{l:O4}(h:SB w s l){k a:Nat}(c:k≤s.n)(b:k≤a)(d:a≤9223372036854775807):SB w ⟨s.A,k,a⟩ (l.take k):=by have:=Row.pre h c b d;rwa[←bP]at this
theorem SB.cut{w:World}{s:Sl}{l:O4}(h:SB w s l){k:Nat}(a:k≤s.n):SB w ⟨if s.c=k then s.A else s.A.map (·.add k),s.n-k,s.c-k⟩ (l.drop k):=by have:=Row.cut h a;rwa[←bT]at this
theorem z7(g:Nat)(s:Sl)(xs:O5)(t:TypeId)(k:Nat)(w:World)(a:fo w g 59 [s.v])(f:Row w t s xs)(i:k≤s.n):Calls prog 165 #[.pointer (some ⟨g,0,none⟩),.int .i64 k] w fun e w'=>e= .returned (.tuple #[(Sl.mk s.A k k).v,.bool true])∧fo w' g 59 [(Sl.mk (if s.c=k then s.A else s.A.map (·.add k)) (s.n-k) (s.c-k)).v]∧w.grownBy w' (some g):=by obtain⟨A,n,c⟩:=s;unfold Sl.v at a ⊢;dsimp only at *;have d:=f.nc;have b:=f.cm;dsimp only at d b;have l:=a.c1;have j:=a.frozen 0;clear f;go_enter func165,ntmps165;go_wp2_with fail;{go_ret2;exact⟨rfl,a.rq 0 _,a.rp 0 _⟩};{go_ret2;exact⟨rfl,a.rq 0 _,a.rp 0 _⟩}
theorem yp:∀(l:O4)(x:UInt8),nN (l++[x])=nN l+256^l.length*x.toNat|[],x=>by simp[nN]|a::l,x=>by rw[aY,nN,nN,yp l x,ao,dP,Nat.mul_add,←Nat.mul_assoc,dB 256 (256^l.length)];omega
theorem E5:∀l:O4,nN l<256^l.length|[]=>by simp[nN]|a::l=>by have:=E5 l;have:=a.toNat_lt;rw[nN,ao,dP];omega
theorem mu (A : O6) (n c : Nat) (l : O4) (w : World) (f : RB w A n l) (t : n ≤ 4) :
    Calls prog 166 #[.slice A n c] w fun e w' => e = .returned (.int .i64 (nN l)) ∧ w = w' := by
  have a := fh f.len
  go_enter func166, ntmps166
  go_wp2
  go_loop [3, 7] (fun r i => ∃ k : Nat, k ≤ n ∧ i = .int .i64 k ∧ r = .int .i64 (nN (l.take k))) (fun _ i => n - (intOf i).toNat)
  case atStart => exact ⟨0, aP _, rfl, by simp [nN]⟩
  case round =>
    obtain ⟨k, g, rfl, rfl⟩ := hrel
    by_cases hlt : k < n
    · obtain ⟨b, off, x, rfl, hbs, d, hcell⟩ := f.at hlt
      have j := fh d
      clear d
      go_wp2
      go_round
      case rel =>
        refine ⟨k + 1, by omega, by go_num, ?_⟩
        rw [aT, j.out]
        show _ = Value.int .i64 ((nN (l.take k ++ [x]) : Nat) : Int)
        rw [yp, aH, a.out, dq g]
        congr 1
        have m : nN (l.take k) < 256 ^ k := by have := E5 (l.take k); rwa [aH, a.out, dq g] at this
        have d := x.toNat_lt
        have q : x.toNat * 2 ^ (8 * k) < 4294967296 := by
          have : 2 ^ (8 * k) ≤ 2 ^ 24 := cV (by omega) (by omega)
          calc x.toNat * 2 ^ (8 * k) ≤ 255 * 2 ^ 24 := Nat.mul_le_mul (by omega) this
            _ < _ := by decide
        have s : (256 : Nat) ^ k < 4294967296 := by
          have : (256 : Nat) ^ k ≤ 256 ^ 3 := cV (by omega) (by omega)
          omega
        have e : wrap64 (wrap64 (N8 x) * 2 ^ (8 * k)) = ((x.toNat * 2 ^ (8 * k) : Nat) : Int) := by
          have o : wrap64 (N8 x) = ((x.toNat : Nat) : Int) := IntWalk.wrap64_in _ (by unfold N8; omega)
          have p : ((x.toNat : Nat) : Int) * 2 ^ (8 * k) = ((x.toNat * 2 ^ (8 * k) : Nat) : Int) := by
            rw [Int.natCast_mul, Int.natCast_pow]; rfl
          rw [o, p]
          exact IntWalk.wrap64_in _ (by omega)
        rw [e, wM _ _ (by omega) (by omega), wC _ _ _ m]
      case measure => simp [intOf]; omega
    · go_wp2
      rw [au (by rw [a.out]; omega)]
      go_ret
      exact ⟨rfl, rfl⟩
end Go.Proofs.YtlpbeifnibodoaaGreatDoor
