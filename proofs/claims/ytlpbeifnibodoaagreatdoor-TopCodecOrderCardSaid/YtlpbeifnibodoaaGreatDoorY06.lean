/- Lemmas. Conditions: those of each. -/
import Derived.Test.YtlpbeifnibodoaaGreatDoorY00
import Derived.Shelf.SlIter.Nil
import Derived.Shelf.SortM.Plain
import Derived.Shelf.SortM.SortNone
import Derived.Test.YtlpbeifnibodoaaGreatDoorChecked
set_option linter.all false
set_option maxRecDepth 100000
set_option maxHeartbeats 16000000
namespace Go.Proofs.YtlpbeifnibodoaaGreatDoor
open Go.Proofs.Tryz Go.RowKit Go.Maps Go.Sort Go.Shelf
def EN:Go.Shelf.Ren:=⟨fun |7=>123|10=>159|n=>n,fun |23=>27|26=>9|3=>99|28=>234|0=>0|27=>233|33=>101|4=>4|n=>n,fun n=>n⟩
theorem Fe : SlLaysZ.n7 prog EN where
  mixed := by kernel_rfl
  f7 := ⟨(Tryz.f123).name, by kernel_rfl, func123.trans (aN some (by kernel_rfl))⟩
  f10 := ⟨(Tryz.f159).name, by kernel_rfl, func159.trans (aN some (by kernel_rfl))⟩
  t0 := underlying0
  a0 := Tryz.isAgg0
  z0 := Tryz.sizeOf0
  v0 := Tryz.zeroValue0
  t4 := underlying4
  a4 := Tryz.isAgg4
  z4 := Tryz.sizeOf4
  v4 := Tryz.zeroValue4
  t23 := underlying27
  a23 := Tryz.isAgg27
  z23 := Tryz.sizeOf27
  v23 := Tryz.zeroValue27
  t26 := underlying9
  a26 := Tryz.isAgg9
  z26 := Tryz.sizeOf9
  v26 := Tryz.zeroValue9
  t27 := underlying233
  a27 := Tryz.isAgg233
  z27 := Tryz.sizeOf233
  v27 := Tryz.zeroValue233
  t28 := underlying234
  a28 := Tryz.isAgg234
  z28 := Tryz.sizeOf234
  v28 := Tryz.zeroValue234
  t33 := underlying101
  a33 := Tryz.isAgg101
  z33 := Tryz.sizeOf101
  v33 := Tryz.zeroValue101
def xZ:Go.Shelf.Ren:=⟨fun |6=>122|8=>157|9=>158|11=>190|13=>144|12=>191|23=>180|24=>181|14=>204|15=>205|16=>206|17=>207|18=>208|19=>209|20=>210|21=>211|22=>212|25=>217|26=>193|27=>194|28=>218|29=>219|30=>220|31=>222|n=>n,fun |26=>9|28=>234|24=>175|0=>0|3=>3|37=>240|48=>245|50=>24|4=>4|40=>276|39=>275|45=>173|5=>5|9=>9|51=>293|55=>297|57=>312|58=>313|33=>101|n=>n,fun n=>n⟩
theorem GA : SlLaysZ.n6 prog xZ where
  mixed := by kernel_rfl
  f6 := ⟨(Tryz.f122).name, by kernel_rfl, func122.trans (aN some (by kernel_rfl))⟩
  f8 := ⟨(Tryz.f157).name, by kernel_rfl, func157.trans (aN some (by kernel_rfl))⟩
  f11 := ⟨(Tryz.f190).name, by kernel_rfl, func190.trans (aN some (by kernel_rfl))⟩
  t0 := underlying0
  a0 := Tryz.isAgg0
  z0 := Tryz.sizeOf0
  v0 := Tryz.zeroValue0
  t24 := underlying175
  a24 := Tryz.isAgg175
  z24 := Tryz.sizeOf175
  v24 := Tryz.zeroValue175
  t26 := underlying9
  a26 := Tryz.isAgg9
  z26 := Tryz.sizeOf9
  v26 := Tryz.zeroValue9
  t28 := underlying234
  a28 := Tryz.isAgg234
  z28 := Tryz.sizeOf234
  v28 := Tryz.zeroValue234
  i26 := by kernel_rfl
def Ky:Go.Shelf.Ren:=⟨fun |6=>158|8=>144|9=>191|19=>180|20=>181|21=>204|22=>205|23=>206|24=>207|25=>208|26=>209|27=>210|28=>211|29=>212|36=>217|31=>193|32=>194|37=>218|38=>219|39=>220|41=>222|n=>n,fun |27=>175|29=>9|3=>3|32=>240|26=>175|0=>0|44=>245|46=>24|4=>4|36=>276|35=>275|41=>173|5=>5|9=>9|53=>293|57=>297|63=>312|64=>313|n=>n,fun n=>n⟩
theorem Fc : SlLaysM.n6 prog Ky where
  mixed := by kernel_rfl
  f6 := ⟨(Tryz.f158).name, by kernel_rfl, func158.trans (aN some (by kernel_rfl))⟩
  f8 := func144.trans (aN some (by kernel_rfl))
  f9 := ⟨(Tryz.f191).name, by kernel_rfl, func191.trans (aN some (by kernel_rfl))⟩
  f19 := func180.trans (aN some (by kernel_rfl))
  f20 := func181.trans (aN some (by kernel_rfl))
  f21 := ⟨(Tryz.f204).name, by kernel_rfl, func204.trans (aN some (by kernel_rfl))⟩
  f22 := ⟨(Tryz.f205).name, by kernel_rfl, func205.trans (aN some (by kernel_rfl))⟩
  f23 := ⟨(Tryz.f206).name, by kernel_rfl, func206.trans (aN some (by kernel_rfl))⟩
  f24 := ⟨(Tryz.f207).name, by kernel_rfl, func207.trans (aN some (by kernel_rfl))⟩
  f25 := ⟨(Tryz.f208).name, by kernel_rfl, func208.trans (aN some (by kernel_rfl))⟩
  f26 := ⟨(Tryz.f209).name, by kernel_rfl, func209.trans (aN some (by kernel_rfl))⟩
  f27 := ⟨(Tryz.f210).name, by kernel_rfl, func210.trans (aN some (by kernel_rfl))⟩
  f28 := ⟨(Tryz.f211).name, by kernel_rfl, func211.trans (aN some (by kernel_rfl))⟩
  f29 := ⟨(Tryz.f212).name, by kernel_rfl, func212.trans (aN some (by kernel_rfl))⟩
  f31 := func193.trans (aN some (by kernel_rfl))
  f32 := func194.trans (aN some (by kernel_rfl))
  f36 := ⟨(Tryz.f217).name, by kernel_rfl, func217.trans (aN some (by kernel_rfl))⟩
  f37 := ⟨(Tryz.f218).name, by kernel_rfl, func218.trans (aN some (by kernel_rfl))⟩
  f38 := ⟨(Tryz.f219).name, by kernel_rfl, func219.trans (aN some (by kernel_rfl))⟩
  f39 := ⟨(Tryz.f220).name, by kernel_rfl, func220.trans (aN some (by kernel_rfl))⟩
  f41 := ⟨(Tryz.f222).name, by kernel_rfl, func222.trans (aN some (by kernel_rfl))⟩
  t0 := underlying0
  a0 := Tryz.isAgg0
  z0 := Tryz.sizeOf0
  v0 := Tryz.zeroValue0
  t3 := underlying3
  a3 := Tryz.isAgg3
  z3 := Tryz.sizeOf3
  v3 := Tryz.zeroValue3
  t4 := underlying4
  a4 := Tryz.isAgg4
  z4 := Tryz.sizeOf4
  v4 := Tryz.zeroValue4
  t5 := underlying5
  a5 := Tryz.isAgg5
  z5 := Tryz.sizeOf5
  v5 := Tryz.zeroValue5
  t9 := underlying9
  a9 := Tryz.isAgg9
  z9 := Tryz.sizeOf9
  v9 := Tryz.zeroValue9
  t26 := underlying175
  a26 := Tryz.isAgg175
  z26 := Tryz.sizeOf175
  v26 := Tryz.zeroValue175
  t27 := underlying175
  a27 := Tryz.isAgg175
  z27 := Tryz.sizeOf175
  v27 := Tryz.zeroValue175
  t29 := underlying9
  a29 := Tryz.isAgg9
  z29 := Tryz.sizeOf9
  v29 := Tryz.zeroValue9
  t32 := underlying240
  a32 := Tryz.isAgg240
  z32 := Tryz.sizeOf240
  v32 := Tryz.zeroValue240
  t35 := underlying275
  a35 := Tryz.isAgg275
  z35 := Tryz.sizeOf275
  v35 := Tryz.zeroValue275
  t36 := underlying276
  a36 := Tryz.isAgg276
  z36 := Tryz.sizeOf276
  v36 := Tryz.zeroValue276
  t41 := underlying173
  a41 := Tryz.isAgg173
  z41 := Tryz.sizeOf173
  v41 := Tryz.zeroValue173
  t44 := underlying245
  a44 := Tryz.isAgg245
  z44 := Tryz.sizeOf245
  v44 := Tryz.zeroValue245
  t46 := underlying24
  a46 := Tryz.isAgg24
  z46 := Tryz.sizeOf24
  v46 := Tryz.zeroValue24
  t53 := underlying293
  a53 := Tryz.isAgg293
  z53 := Tryz.sizeOf293
  v53 := Tryz.zeroValue293
  t57 := underlying297
  a57 := Tryz.isAgg297
  z57 := Tryz.sizeOf297
  v57 := Tryz.zeroValue297
  t63 := underlying312
  a63 := Tryz.isAgg312
  z63 := Tryz.sizeOf312
  v63 := Tryz.zeroValue312
  t64 := underlying313
  a64 := Tryz.isAgg313
  z64 := Tryz.sizeOf313
  v64 := Tryz.zeroValue313
end Go.Proofs.YtlpbeifnibodoaaGreatDoor
