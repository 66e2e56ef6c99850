/- Lemmas. Conditions: those of each. -/
import Derived.Test.YtlpbeifnibodoaaGreatDoorZ08
import Derived.Lib.SlBytesConst
set_option linter.all false
set_option maxRecDepth 100000
set_option maxHeartbeats 16000000
namespace Go.Proofs.YtlpbeifnibodoaaGreatDoor
open Go.Proofs.Tryz Go.RowKit
def lu(w:World):Prop:=∀i,i<16→w.cell? ⟨1,i,none⟩=some (.int .u32 (pw (Crc.Pr.getD i 0#32)))
theorem lu.look{w:World}(h:lu w)(x:BitVec 32):w.cell? ⟨1,(pw (x&&&15#32)).toNat,none⟩=some (.int .u32 (pw (Crc.xy (x&&&15#32)))):=by have:=OY x;have a:=L2 (x&&&15#32);rw[h _ (by omega)];unfold Crc.xy;rfl
theorem lu.below{w w':World}{B:Nat}(h:lu w)(b:Below B w w')(a:1<B):lu w':=fun i c=>(b.cell a).trans (h i c)
theorem lu.pos{w:World}(h:lu w):1<w.heap.size:=World.block_lt_of_cell? w _ (h 0 (by omega))
theorem lu.fv{w w':World}(h:lu w)(a:Below w.heap.size w w'):lu w':=h.below a h.pos
theorem lu.drew{w:World}(h:lu w):lu w.drew:=h
theorem lu.alloc{w:World}(h:lu w)(o:Obj):lu (w.alloc o):=h.fv ((ab _ _).alloc (aa _) _)
@[go_sem] theorem PR (b:UInt8):IntKind.u32.wrap (N8 b)=pw (Crc.wide b):=by rw[wrap_u32 _ (Hk _) (by have:=Hl b;omega)];unfold N8 pw Crc.wide;rw[EX]
theorem OM{a b:BitVec 32}(h:a=b):Ending.returned (.int .u32 (pw a))= .returned (.int .u32 (pw b)):=by rw[h]
theorem OF{a b:BitVec 32}(h:a=b):Value.int .u32 (pw a)= .int .u32 (pw b):=by rw[h]
theorem JS{l:Qf}{k:Nat}{x:UInt8}(h:l[k]? =some x)(r:BitVec 32):Crc.Gt (Crc.run r (l.take k)) x=Crc.run r (l.take (k+1)):=by rw[←Crc.JT];congr 1;rw[aQ,h];rfl
theorem NL(s:BitVec 32)(A:Qh)(n c:Nat)(l:Qf)(w:World)(o:lu w)(f:RB w A n l)(v:n≤9223372036854775807):Calls prog 168 #[.int .u32 (pw s),.slice A n c] w fun e w'=>e= .returned (.int .u32 (pw (Crc.uG s l)))∧w=w':=by have j:=fw f.len;go_enter func168,ntmps168;go_wp2;go_loop [5,12] (fun r i=>∃k:Nat,k≤n∧i= .int .i64 k∧r= .int .u32 (pw (Crc.run (~~~s) (l.take k)))) (fun _ i=>n-(intOf i).toNat);(case atStart=>exact⟨0,aP _,rfl,rfl⟩);case round=>obtain⟨k,y,rfl,rfl⟩:=hrel;by_cases d:k<n;{obtain⟨b,q,x,rfl,p,g,a⟩:=f.at d;have t:=o.look;have m:=fw g;clear g;go_wp2;go_round;(case rel=>exact⟨k+1,by omega,by go_num,OF (by rw[Crc.Lx];exact JS m.out _)⟩);case measure=>simp[intOf];omega};{go_wp2;go_ret;refine⟨OM ?_,rfl⟩;rw[ar (by rw[j.out];omega)];rfl}
theorem AO(A:Qh)(n c:Nat)(l:Qf)(w:World)(a:lu w)(b:RB w A n l)(d:n≤9223372036854775807):Calls prog 137 #[.slice A n c] w fun e w'=>e= .returned (.int .u32 (pw (Crc.Ls l)))∧w=w':=by have f:(0:Int)=pw 0#32:=rfl;go_enter func137,ntmps137;go_wp2_with fail;refine(NL 0#32 _ _ _ l _ a b d).mono ?_;rintro e w' ⟨rfl,rfl⟩;go_wp2_with fail;go_ret;exact⟨rfl,rfl⟩
end Go.Proofs.YtlpbeifnibodoaaGreatDoor
