/- Lemmas. Conditions: those of each. -/
import Derived.Test.YtlpbeifnibodoaaGreatDoorZ15
import Derived.Test.YtlpbeifnibodoaaGreatDoorZ01
set_option linter.all false
set_option maxRecDepth 100000
set_option maxHeartbeats 16000000
namespace Go.Proofs.YtlpbeifnibodoaaGreatDoor
open Go.Proofs.Tryz Go.RowKit
def KT(t:TypeId)(w w':World):Prop:=∀b cs,fB w b t cs→fB w' b t cs
theorem KT.refl(t:TypeId)(w:World):KT t w w:=fun _ _ h=>h
theorem KT.trans{t:TypeId}{w w1 a:World}(h:KT t w w1)(k:KT t w1 a):KT t w a:=fun b cs c=>k b cs (h b cs c)
theorem KT.below{t:TypeId}{w w':World}(a:fy w w'):KT t w w':=fun _ _ h=>h.fv a
theorem fB.type{w:World}{g:Nat}{t c:TypeId}{cs a:Qg}(h:fB w g t cs)(b:fB w g c a):t=c∧cs=a:=by unfold fB at h b;rw[h]at b;injection b with b;injection b with h1 h2 _;exact⟨h2,by simpa using aT Array.toList h1⟩
theorem KT.grown{t t0:TypeId}{w w':World}{g:Nat}{a:Qg}(d:w.grownBy w' (some g))(c:fB w g t0 a)(f:t≠t0):KT t w w':=fun b cs h=>h.grown d fun e=>by cases e;exact f (h.type c).1
theorem KT.none{t:TypeId}{w w':World}(a:w.grownBy w' none):KT t w w':=fun _ _ h=>h.grown a (by intro h;cases h)
theorem KT.own{t e:TypeId}{w w':World}{base size:Nat}{v:Value}{n:Nat}{xs:Qg}(a:w.ownsRow base e size v n xs)(b:w.grownBy w' v.ownBlock)(d:t≠e):KT t w w':=by (rcases a.2 with⟨rfl,_⟩|⟨g,cap,cur,rfl,_,c,_⟩);{exact KT.none b};{exact KT.grown b (show fB w g e cur.toList by unfold fB;simpa using c) d}
structure Row (w:World) (t:TypeId) (s:Sl) (xs:Qg):Prop where
 len:xs.length=s.n
 nc:s.n≤s.c
 cm:s.c≤9223372036854775807
 at_:0<s.n→∃b off cs,s.A=some ⟨b,off,none⟩∧fB w b t cs∧∀j u,xs[j]? =some u→cs[off+j]? =some u
section
variable {w w':World} {t:TypeId} {s:Sl} {xs:Qg}
theorem Row.kt(h:Row w t s xs)(k:KT t w w'):Row w' t s xs:=⟨h.len,h.nc,h.cm,fun f=>by obtain⟨b,a,cs,e,c,d⟩:=h.at_ f;exact⟨b,a,cs,e,k b cs c,d⟩⟩
theorem Row.fv(h:Row w t s xs)(a:fy w w'):Row w' t s xs:=h.kt (KT.below a)
theorem Row.rl(h:Row w t s xs):RL w 1 s.A s.n xs:=⟨by rw[h.len,dR],fun f=>by obtain⟨b,a,cs,e,c,d⟩:=h.at_ f;exact⟨b,a,e,c.lt,fun j u g=>(c.cell _).trans (d j u g)⟩⟩
theorem Row.nil(w:World)(t:TypeId):Row w t ⟨none,0,0⟩ []:=⟨rfl,aa _,by decide,fun h=>absurd h (cg _)⟩
theorem Row.own{base:Nat}{v:Value}{n:Nat}(h:w.ownsRow base t 1 v n xs):∃s:Sl,v=s.v∧s.n=n∧Row w t s xs:=by obtain⟨A,c,rfl,o,e,i⟩:=iZ h;refine⟨⟨A,n,c⟩,rfl,rfl,by have:=h.1;rwa[dR]at this,e,i,fun k=> ?_⟩;(rcases h.2 with⟨b,_⟩|⟨g,cap,cur,b,_,f,l,_,m,d⟩);{cases b;exact absurd k (cg _)};{cases b;refine⟨g,0,cur.toList,rfl,by unfold fB;simpa using f,fun j u a=> ?_⟩;rw[bD];rw[←d,bo]at a;split at a;{exact a};{cases a}}
theorem Row.pre(h:Row w t s xs){k c:Nat}(g:k≤s.n)(l:k≤c)(m:c≤9223372036854775807):Row w t ⟨s.A,k,c⟩ (xs.take k):=⟨by rw[aK,h.len];exact dt g,l,m,fun o=>by obtain⟨b,f,cs,e,i,d⟩:=h.at_ (aF o g);refine⟨b,f,cs,e,i,fun j u a=>d j u ?_⟩;rw[bo]at a;split at a;{exact a};{cases a}⟩
theorem Row.cut(h:Row w t s xs){k:Nat}(m:k≤s.n):Row w t ⟨if s.c=k then s.A else s.A.map (·.add k),s.n-k,s.c-k⟩ (xs.drop k):=by have:=h.nc;have:=h.cm;refine⟨by rw[bI,h.len],?_,?_,fun g=> ?_⟩;{show s.n-k≤s.c-k;omega};{show s.c-k≤_;omega};{have i:0<s.n-k:=g;obtain⟨b,d,cs,e,f,a⟩:=h.at_ (by omega);refine⟨b,d+k,cs,?_,f,fun j u l=> ?_⟩;{show(if s.c=k then s.A else s.A.map (·.add k))=_;rw[aj (by omega),e];simp[gY]};{rw[cH];exact a _ u (by rw[←l,bN])}}
end
abbrev SB(w:World)(s:Sl)(l:Qf):Prop:=Row w 5 s (l.map fZ)
theorem SB.rb{w:World}{s:Sl}{l:Qf}(h:SB w s l):RB w s.A s.n l:=Row.rl h
theorem SB.len{w:World}{s:Sl}{l:Qf}(h:SB w s l):l.length=s.n:=by have:=Row.len h;simpa using this
theorem SB.pre{w:World}{s:Sl}{l:Qf}(h:SB w s l){k a:Nat}(c:k≤s.n)(b:k≤a)(d:a≤9223372036854775807):SB w ⟨s.A,k,a⟩ (l.take k):=by have:=Row.pre h c b d;rwa[←ca]at this
theorem SB.cut{w:World}{s:Sl}{l:Qf}(h:SB w s l){k:Nat}(a:k≤s.n):SB w ⟨if s.c=k then s.A else s.A.map (·.add k),s.n-k,s.c-k⟩ (l.drop k):=by have:=Row.cut h a;rwa[←bW]at this
theorem BM(g:Nat)(s:Sl)(xs:Qg)(t:TypeId)(k:Nat)(w:World)(a:fB w g 59 [s.v])(f:Row w t s xs)(i:k≤s.n):Calls prog 165 #[.pointer (some ⟨g,0,none⟩),.int .i64 k] w fun e w'=>e= .returned (.tuple #[(Sl.mk s.A k k).v,.bool true])∧fB w' g 59 [(Sl.mk (if s.c=k then s.A else s.A.map (·.add k)) (s.n-k) (s.c-k)).v]∧w.grownBy w' (some g):=by obtain⟨A,n,c⟩:=s;unfold Sl.v at a ⊢;dsimp only at *;have d:=f.nc;have b:=f.cm;dsimp only at d b;have l:=a.c1;have j:=a.frozen 0;clear f;go_enter func165,ntmps165;go_wp2_with fail;{go_ret2;exact⟨rfl,a.qR 0 _,a.qQ 0 _⟩};{go_ret2;exact⟨rfl,a.qR 0 _,a.qQ 0 _⟩}
theorem zN:∀(l:Qf)(x:UInt8),pa (l++[x])=pa l+256^l.length*x.toNat|[],x=>by simp[pa]|a::l,x=>by rw[bm,pa,pa,zN l x,ao,dS,Nat.mul_add,←Nat.mul_assoc,dK 256 (256^l.length)];omega
theorem GL:∀l:Qf,pa l<256^l.length|[]=>by simp[pa]|a::l=>by have:=GL l;have:=a.toNat_lt;rw[pa,ao,dS];omega
theorem nf (A : Qh) (n c : Nat) (l : Qf) (w : World) (f : RB w A n l) (t : n ≤ 4) :
    Calls prog 166 #[.slice A n c] w fun e w' => e = .returned (.int .i64 (pa l)) ∧ w = w' := by
  have a := fw f.len
  go_enter func166, ntmps166
  go_wp2
  go_loop [3, 7] (fun r i => ∃ k : Nat, k ≤ n ∧ i = .int .i64 k ∧ r = .int .i64 (pa (l.take k))) (fun _ i => n - (intOf i).toNat)
  case atStart => exact ⟨0, aP _, rfl, by simp [pa]⟩
  case round =>
    obtain ⟨k, g, rfl, rfl⟩ := hrel
    by_cases hlt : k < n
    · obtain ⟨b, off, x, rfl, hbs, d, hcell⟩ := f.at hlt
      have j := fw d
      clear d
      go_wp2
      go_round
      case rel =>
        refine ⟨k + 1, by omega, by go_num, ?_⟩
        rw [aQ, j.out]
        show _ = Value.int .i64 ((pa (l.take k ++ [x]) : Nat) : Int)
        rw [zN, aK, a.out, dt g]
        congr 1
        have m : pa (l.take k) < 256 ^ k := by have := GL (l.take k); rwa [aK, a.out, dt g] at this
        have d := x.toNat_lt
        have q : x.toNat * 2 ^ (8 * k) < 4294967296 := by
          have : 2 ^ (8 * k) ≤ 2 ^ 24 := di (by omega) (by omega)
          calc x.toNat * 2 ^ (8 * k) ≤ 255 * 2 ^ 24 := Nat.mul_le_mul (by omega) this
            _ < _ := by decide
        have s : (256 : Nat) ^ k < 4294967296 := by
          have : (256 : Nat) ^ k ≤ 256 ^ 3 := di (by omega) (by omega)
          omega
        have e : wrap64 (wrap64 (N8 x) * 2 ^ (8 * k)) = ((x.toNat * 2 ^ (8 * k) : Nat) : Int) := by
          have o : wrap64 (N8 x) = ((x.toNat : Nat) : Int) := IntWalk.wrap64_in _ (by unfold N8; omega)
          have p : ((x.toNat : Nat) : Int) * 2 ^ (8 * k) = ((x.toNat * 2 ^ (8 * k) : Nat) : Int) := by
            rw [Int.natCast_mul, Int.natCast_pow]; rfl
          rw [o, p]
          exact IntWalk.wrap64_in _ (by omega)
        rw [e, yu _ _ (by omega) (by omega), yg _ _ _ m]
      case measure => simp [intOf]; omega
    · go_wp2
      rw [ar (by rw [a.out]; omega)]
      go_ret
      exact ⟨rfl, rfl⟩
end Go.Proofs.YtlpbeifnibodoaaGreatDoor
