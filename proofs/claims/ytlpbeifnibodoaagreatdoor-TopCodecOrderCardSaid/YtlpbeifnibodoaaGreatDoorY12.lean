/- Lemmas. Conditions: those of each. -/
import Derived.Test.YtlpbeifnibodoaaGreatDoorY09
import Derived.Lib.SlBytesConst
set_option linter.all false
set_option maxRecDepth 100000
set_option maxHeartbeats 16000000
namespace Go.Proofs.YtlpbeifnibodoaaGreatDoor
open Go.Proofs.Tryz Go.RowKit
def ld(w:World):Prop:=∀i,i<16→w.cell? ⟨1,i,none⟩=some (.int .u32 (nU (Crc.Oc.getD i 0#32)))
theorem ld.look{w:World}(h:ld w)(x:BitVec 32):w.cell? ⟨1,(nU (x&&&15#32)).toNat,none⟩=some (.int .u32 (nU (Crc.vC (x&&&15#32)))):=by have:=NP x;have a:=J8 (x&&&15#32);rw[h _ (by omega)];unfold Crc.vC;rfl
theorem ld.below{w w':World}{B:Nat}(h:ld w)(b:Below B w w')(a:1<B):ld w':=fun i c=>(b.cell a).trans (h i c)
theorem ld.pos{w:World}(h:ld w):1<w.heap.size:=World.block_lt_of_cell? w _ (h 0 (by omega))
theorem ld.fg{w w':World}(h:ld w)(a:Below w.heap.size w w'):ld w':=h.below a h.pos
theorem ld.drew{w:World}(h:ld w):ld w.drew:=h
theorem ld.alloc{w:World}(h:ld w)(o:Obj):ld (w.alloc o):=h.fg ((ae _ _).alloc (aa _) _)
@[go_sem] theorem OL (b:UInt8):IntKind.u32.wrap (N8 b)=nU (Crc.wide b):=by rw[wrap_u32 _ (FM _) (by have:=FN b;omega)];unfold N8 nU Crc.wide;rw[Dj]
theorem Nx{a b:BitVec 32}(h:a=b):Ending.returned (.int .u32 (nU a))= .returned (.int .u32 (nU b)):=by rw[h]
theorem Nj{a b:BitVec 32}(h:a=b):Value.int .u32 (nU a)= .int .u32 (nU b):=by rw[h]
theorem H9{l:O4}{k:Nat}{x:UInt8}(h:l[k]? =some x)(r:BitVec 32):Crc.EM (Crc.run r (l.take k)) x=Crc.run r (l.take (k+1)):=by rw[←Crc.Ia];congr 1;rw[aT,h];rfl
theorem Ms(s:BitVec 32)(A:O6)(n c:Nat)(l:O4)(w:World)(o:ld w)(f:RB w A n l)(v:n≤9223372036854775807):Calls prog 168 #[.int .u32 (nU s),.slice A n c] w fun e w'=>e= .returned (.int .u32 (nU (Crc.uF s l)))∧w=w':=by have j:=fh f.len;go_enter func168,ntmps168;go_wp2;go_loop [5,12] (fun r i=>∃k:Nat,k≤n∧i= .int .i64 k∧r= .int .u32 (nU (Crc.run (~~~s) (l.take k)))) (fun _ i=>n-(intOf i).toNat);(case atStart=>exact⟨0,aP _,rfl,rfl⟩);case round=>obtain⟨k,y,rfl,rfl⟩:=hrel;by_cases d:k<n;{obtain⟨b,q,x,rfl,p,g,a⟩:=f.at d;have t:=o.look;have m:=fh g;clear g;go_wp2;go_round;(case rel=>exact⟨k+1,by omega,by go_num,Nj (by rw[Crc.JH];exact H9 m.out _)⟩);case measure=>simp[intOf];omega};{go_wp2;go_ret;refine⟨Nx ?_,rfl⟩;rw[au (by rw[j.out];omega)];rfl}
theorem zv(A:O6)(n c:Nat)(l:O4)(w:World)(a:ld w)(b:RB w A n l)(d:n≤9223372036854775807):Calls prog 137 #[.slice A n c] w fun e w'=>e= .returned (.int .u32 (nU (Crc.Jy l)))∧w=w':=by have f:(0:Int)=nU 0#32:=rfl;go_enter func137,ntmps137;go_wp2_with fail;refine(Ms 0#32 _ _ _ l _ a b d).mono ?_;rintro e w' ⟨rfl,rfl⟩;go_wp2_with fail;go_ret;exact⟨rfl,rfl⟩
end Go.Proofs.YtlpbeifnibodoaaGreatDoor
