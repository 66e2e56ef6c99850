/- Lemmas. Conditions: those of each. -/
import Derived.Test.YtlpbeifnibodoaaGreatDoorY04
import Derived.Test.YtlpbeifnibodoaaGreatDoorY12
set_option linter.all false
set_option maxRecDepth 100000
set_option maxHeartbeats 16000000
namespace Go.Proofs.YtlpbeifnibodoaaGreatDoor
open Go.Proofs.Tryz Go.RowKit
theorem L2:jm prog 189 ((List.replicate 8 0).map fP):=(by kernel_rfl:(prog.info? 189).map (fun i=>(i.zero,i.size))=some (some (.agg ((List.replicate 8 0).map fP).toArray),8))
theorem yX:(prog.info? 189).map (·.size)=some 8:=by kernel_rfl
theorem JG(v k:Nat):fP (UInt8.ofNat (v/256^k))= .int .u8 ((v:Int)/2^(8*k)%256):=by (have e:(UInt8.ofNat (v/256^k)).toNat=v/256^k%256:=by simp);unfold fP N8;(have a:((2:Int)^(8*k))=((256^k:Nat):Int):=by rw[Int.natCast_pow,Int.pow_mul];rfl);rw[e,a,←Int.natCast_ediv];rfl
theorem rJ(v:Nat)(o:v<18446744073709551616)(w:World):Calls prog 98 #[.int .u64 v] w fun e w'=>e= .returned (.agg ((le 8 v).map fP).toArray)∧fm w w':=by go_enter func98,ntmps98;go_wp2_with fail;go_loopw [5] (fun i wr=>∃k:Nat,k≤8∧i= .int .i64 k∧fo wr w.heap.size 189 ((List.replicate 8 0).map fP)∧fo wr (w.heap.size+1) 189 (((le 8 v).map fP).take k++List.replicate (8-k) (.int .u8 0))∧fm w wr) (fun i _=>8-(intOf i).toNat);(case atStart=>refine⟨0,by omega,rfl,?_,?_,?_⟩;{exact(fo.new w _ _).fg (bA _)};{have:=fo.new (w.alloc (.cells ((List.replicate 8 0).map fP).toArray 189)) 189 ((List.replicate 8 0).map fP);simpa[fP,N8]using this};{exact(bA _).alloc (by simp) _});case round=>obtain⟨k,n,rfl,f,hO,a⟩:=hrel;by_cases b:k<8;{have m:wr.frozen? ⟨w.heap.size+1,k,none⟩=false:=hO.frozen k;(have l:wr.cell? ⟨w.heap.size+1,k,none⟩=some (.int .u8 0):=by rw[hO.cell,aD (by simp;omega),cQ,aq (by simp;omega)]);go_wp2_with fail;go_roundw;(case rel=>refine⟨k+1,by omega,by go_num,?_,?_,?_⟩;{exact f.grown (hO.rp _ _) (by simp)};{have:=hO.rq k (.int .u8 (↑v/2^(8*k)%256));rwa[Hz (by rw[ay,Mf 8 v k b];exact aN some (JG v k)) b]at this};{exact a.grown (hO.rp _ _) a.size (fun g c=>by cases c;omega)});case measure=>simp[intOf];omega};{(obtain rfl:k=8:=by omega);simp only[cM,List.replicate_zero,bm]at hO;rw[au (by simp)]at hO;go_wp2_with (first|((with_reducible refine fp 189 ?_);(refine Au _ _ _ _ _ hO underlying189 (yX.trans (by simp)) rfl ?_))|((with_reducible refine fk 189 ?_);refine fF _ _ _ _ f (yX.trans (by simp)) (by simp) (ig _) rfl rfl ?_;intro w1 j d));refine bodyPost_ret (results_cell_row (by rfl) _ _ w.heap.size _ _ _ _ rfl j underlying189 rfl (yX.trans (by simp))) rfl ⟨rfl,a.grown d a.size (fun g c=>by cases c;omega)⟩}
theorem wC(n b k:Nat)(a:n<256^k):n|||b*2^(8*k)=n+256^k*b:=by (have e:256^k=2^(8*k):=by rw[Nat.pow_mul]);rw[e]at a ⊢;rw[dB b,Nat.or_comm,←Nat.two_pow_add_eq_or_of_lt a,et]
theorem tw (A : O6) (n c : Nat) (l : O4) (w : World) (g : RB w A n l) (t : n ≤ 8) :
    Calls prog 170 #[.slice A n c] w fun e w' => e = .returned (.int .u64 (num l)) ∧ w = w' := by
  have a := fh g.len
  go_enter func170, ntmps170
  go_wp2
  go_loop [3, 7] (fun r i => ∃ k : Nat, k ≤ n ∧ i = .int .i64 k ∧ r = .int .u64 (num (l.take k))) (fun _ i => n - (intOf i).toNat)
  case atStart => exact ⟨0, aP _, rfl, by simp [num]⟩
  case round =>
    obtain ⟨k, j, rfl, rfl⟩ := hrel
    by_cases hlt : k < n
    · obtain ⟨b, off, x, rfl, hbs, d, hcell⟩ := g.at hlt
      have m := fh d
      clear d
      go_wp2
      go_round
      case rel =>
        refine ⟨k + 1, by omega, by go_num, ?_⟩
        rw [aT, m.out]
        show _ = Value.int .u64 ((num (l.take k ++ [x]) : Nat) : Int)
        rw [ID, aH, a.out, dq j]
        congr 1
        have o : num (l.take k) < 256 ^ k := by have := wF (l.take k); rwa [aH, a.out, dq j] at this
        have d := x.toNat_lt
        have f : x.toNat * 2 ^ (8 * k) < 18446744073709551616 := by
          have : 2 ^ (8 * k) ≤ 2 ^ 56 := cV (by omega) (by omega)
          calc x.toNat * 2 ^ (8 * k) ≤ 255 * 2 ^ 56 := Nat.mul_le_mul (by omega) this
            _ < _ := by decide
        have s : (256 : Nat) ^ k < 18446744073709551616 := by
          have : (256 : Nat) ^ k ≤ 256 ^ 7 := cV (by omega) (by omega)
          omega
        have e : IntKind.u64.wrap (IntKind.u64.wrap (N8 x) * 2 ^ (8 * k)) = ((x.toNat * 2 ^ (8 * k) : Nat) : Int) := by
          have p : IntKind.u64.wrap (N8 x) = ((x.toNat : Nat) : Int) := by
            rw [IntKind.wrap_u64]; unfold N8; exact Int.emod_eq_of_lt (dV _) (by omega)
          have q : ((x.toNat : Nat) : Int) * 2 ^ (8 * k) = ((x.toNat * 2 ^ (8 * k) : Nat) : Int) := by
            rw [Int.natCast_mul, Int.natCast_pow]; rfl
          rw [p, q, IntKind.wrap_u64]
          exact Int.emod_eq_of_lt (dV _) (Int.ofNat_lt.2 f)
        rw [e, u64_or_nat _ _ (by omega) f, wC _ _ _ o]
      case measure => simp [intOf]; omega
    · go_wp2
      rw [au (by rw [a.out]; omega)]
      go_ret
      exact ⟨rfl, rfl⟩
end Go.Proofs.YtlpbeifnibodoaaGreatDoor
