/- Lemmas. Conditions: those of each. -/
import Derived.Test.YtlpbeifnibodoaaGreatDoorY00
import Derived.Shelf.SlSortCmp.Whole1
import Derived.Shelf.SlCmpFuncs.IsSortedFunc
import Derived.Test.YtlpbeifnibodoaaGreatDoorChecked
set_option linter.all false
set_option maxRecDepth 100000
set_option maxHeartbeats 16000000
namespace Go.Proofs.YtlpbeifnibodoaaGreatDoor
open Go.Proofs.Tryz Go.RowKit Go.Sort Go.Shelf
def Ik:Go.Shelf.Ren:=⟨fun |6=>109|15=>144|14=>143|28=>180|29=>181|20=>172|21=>173|22=>174|23=>175|24=>176|25=>177|26=>178|27=>179|46=>192|47=>193|48=>194|49=>195|50=>196|57=>213|n=>n,fun |22=>65|24=>69|25=>90|3=>3|39=>240|0=>0|53=>245|55=>24|4=>4|46=>276|45=>275|50=>173|5=>5|9=>9|66=>293|70=>297|76=>312|77=>313|n=>n,fun n=>n⟩
theorem IX : SlLaysF.n6 prog Ik where
  mixed := by kernel_rfl
  f6 := ⟨(Tryz.f109).name, by kernel_rfl, func109.trans (aN some (by kernel_rfl))⟩
  f14 := ⟨(Tryz.f143).name, by kernel_rfl, func143.trans (aN some (by kernel_rfl))⟩
  f15 := func144.trans (aN some (by kernel_rfl))
  f20 := ⟨(Tryz.f172).name, by kernel_rfl, func172.trans (aN some (by kernel_rfl))⟩
  f21 := ⟨(Tryz.f173).name, by kernel_rfl, func173.trans (aN some (by kernel_rfl))⟩
  f22 := ⟨(Tryz.f174).name, by kernel_rfl, func174.trans (aN some (by kernel_rfl))⟩
  f23 := ⟨(Tryz.f175).name, by kernel_rfl, func175.trans (aN some (by kernel_rfl))⟩
  f24 := ⟨(Tryz.f176).name, by kernel_rfl, func176.trans (aN some (by kernel_rfl))⟩
  f25 := ⟨(Tryz.f177).name, by kernel_rfl, func177.trans (aN some (by kernel_rfl))⟩
  f26 := ⟨(Tryz.f178).name, by kernel_rfl, func178.trans (aN some (by kernel_rfl))⟩
  f27 := ⟨(Tryz.f179).name, by kernel_rfl, func179.trans (aN some (by kernel_rfl))⟩
  f28 := func180.trans (aN some (by kernel_rfl))
  f29 := func181.trans (aN some (by kernel_rfl))
  f46 := ⟨(Tryz.f192).name, by kernel_rfl, func192.trans (aN some (by kernel_rfl))⟩
  f47 := func193.trans (aN some (by kernel_rfl))
  f48 := func194.trans (aN some (by kernel_rfl))
  f49 := ⟨(Tryz.f195).name, by kernel_rfl, func195.trans (aN some (by kernel_rfl))⟩
  f50 := ⟨(Tryz.f196).name, by kernel_rfl, func196.trans (aN some (by kernel_rfl))⟩
  f57 := ⟨(Tryz.f213).name, by kernel_rfl, func213.trans (aN some (by kernel_rfl))⟩
  t0 := underlying0
  a0 := Tryz.isAgg0
  z0 := Tryz.sizeOf0
  v0 := Tryz.zeroValue0
  t3 := underlying3
  a3 := Tryz.isAgg3
  z3 := Tryz.sizeOf3
  v3 := Tryz.zeroValue3
  t4 := underlying4
  a4 := Tryz.isAgg4
  z4 := Tryz.sizeOf4
  v4 := Tryz.zeroValue4
  t5 := underlying5
  a5 := Tryz.isAgg5
  z5 := Tryz.sizeOf5
  v5 := Tryz.zeroValue5
  t9 := underlying9
  a9 := Tryz.isAgg9
  z9 := Tryz.sizeOf9
  v9 := Tryz.zeroValue9
  t22 := underlying65
  a22 := Tryz.isAgg65
  z22 := Tryz.sizeOf65
  v22 := Tryz.zeroValue65
  a24 := Tryz.isAgg69
  z24 := Tryz.sizeOf69
  t25 := underlying90
  a25 := Tryz.isAgg90
  z25 := Tryz.sizeOf90
  v25 := Tryz.zeroValue90
  t39 := underlying240
  a39 := Tryz.isAgg240
  z39 := Tryz.sizeOf240
  v39 := Tryz.zeroValue240
  t45 := underlying275
  a45 := Tryz.isAgg275
  z45 := Tryz.sizeOf275
  v45 := Tryz.zeroValue275
  t46 := underlying276
  a46 := Tryz.isAgg276
  z46 := Tryz.sizeOf276
  v46 := Tryz.zeroValue276
  t50 := underlying173
  a50 := Tryz.isAgg173
  z50 := Tryz.sizeOf173
  v50 := Tryz.zeroValue173
  t53 := underlying245
  a53 := Tryz.isAgg245
  z53 := Tryz.sizeOf245
  v53 := Tryz.zeroValue245
  t55 := underlying24
  a55 := Tryz.isAgg24
  z55 := Tryz.sizeOf24
  v55 := Tryz.zeroValue24
  t66 := underlying293
  a66 := Tryz.isAgg293
  z66 := Tryz.sizeOf293
  v66 := Tryz.zeroValue293
  t70 := underlying297
  a70 := Tryz.isAgg297
  z70 := Tryz.sizeOf297
  v70 := Tryz.zeroValue297
  t76 := underlying312
  a76 := Tryz.isAgg312
  z76 := Tryz.sizeOf312
  v76 := Tryz.zeroValue312
  t77 := underlying313
  a77 := Tryz.isAgg313
  z77 := Tryz.sizeOf313
  v77 := Tryz.zeroValue313
def MD:Go.Shelf.Ren:=⟨fun |7=>108|n=>n,fun |22=>65|24=>69|25=>90|4=>4|3=>3|0=>0|n=>n,fun n=>n⟩
theorem MP : SlLaysG2.n7 prog MD where
  mixed := by kernel_rfl
  f7 := ⟨(Tryz.f108).name, by kernel_rfl, func108.trans (aN some (by kernel_rfl))⟩
  t0 := underlying0
  a0 := Tryz.isAgg0
  z0 := Tryz.sizeOf0
  v0 := Tryz.zeroValue0
  t3 := underlying3
  a3 := Tryz.isAgg3
  z3 := Tryz.sizeOf3
  v3 := Tryz.zeroValue3
  t4 := underlying4
  a4 := Tryz.isAgg4
  z4 := Tryz.sizeOf4
  v4 := Tryz.zeroValue4
  t22 := underlying65
  a22 := Tryz.isAgg65
  z22 := Tryz.sizeOf65
  v22 := Tryz.zeroValue65
  a24 := Tryz.isAgg69
  z24 := Tryz.sizeOf69
  t25 := underlying90
  a25 := Tryz.isAgg90
  z25 := Tryz.sizeOf90
  v25 := Tryz.zeroValue90
end Go.Proofs.YtlpbeifnibodoaaGreatDoor
