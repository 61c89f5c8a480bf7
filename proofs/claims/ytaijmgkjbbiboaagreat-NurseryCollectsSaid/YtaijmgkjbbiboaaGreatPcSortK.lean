/- Parts of the proof: SortK. -/
import Derived.Ground.GgzProg
import Derived.Ground.SlgmProg
import Derived.Shelf.SlIterI.Nil
import Derived.Shelf.SortM.Plain
import Derived.Shelf.SortM.SortNone
import Derived.Test.YtaijmgkjbbiboaaGreatPcA
import Derived.Test.YtaijmgkjbbiboaaGreatProg
set_option linter.unusedVariables false
set_option linter.unusedSimpArgs false
set_option linter.unusedSectionVars false
set_option maxRecDepth 100000
namespace Go.Proofs
open Go.Shelf
def Tryz.keysA_ren:Go.Shelf.Ren:=⟨fun | 7=>110 | 10=>125 | n=>n,fun | 23=>127 | 26=>3 | 3=>4 | 28=>161 | 0=>0 | 27=>160 | 33=>120 | 4=>4 | n=>n,fun | n=>n⟩
theorem Tryz.keysA:Go.Proofs.SlLaysZI.n7 Tryz.prog Tryz.keysA_ren:={
 mixed:=by kernel_rfl
 f7:=⟨Tryz.f110.name,by decide,Tryz.func110.trans (congrArg some (by kernel_rfl))⟩
 f10:=⟨Tryz.f125.name,by decide,Tryz.func125.trans (congrArg some (by kernel_rfl))⟩
 t0:=Tryz.underlying0
 a0:=Tryz.isAgg0
 z0:=Tryz.sizeOf0
 v0:=Tryz.zeroValue0
 t4:=Tryz.underlying4
 a4:=Tryz.isAgg4
 z4:=Tryz.sizeOf4
 v4:=Tryz.zeroValue4
 t23:=Tryz.underlying127
 a23:=Tryz.isAgg127
 z23:=Tryz.sizeOf127
 v23:=Tryz.zeroValue127
 t26:=Tryz.underlying3
 a26:=Tryz.isAgg3
 z26:=Tryz.sizeOf3
 v26:=Tryz.zeroValue3
 t27:=Tryz.underlying160
 a27:=Tryz.isAgg160
 z27:=Tryz.sizeOf160
 v27:=Tryz.zeroValue160
 t28:=Tryz.underlying161
 a28:=Tryz.isAgg161
 z28:=Tryz.sizeOf161
 v28:=Tryz.zeroValue161
 t33:=Tryz.underlying120
 a33:=Tryz.isAgg120
 z33:=Tryz.sizeOf120
 v33:=Tryz.zeroValue120 }
def Tryz.sortedA_ren:Go.Shelf.Ren:=⟨fun | 6=>109 | 8=>123 | 9=>124 | 11=>133 | 13=>135 | 12=>134 | 23=>145 | 24=>146 | 14=>136 | 15=>137 | 16=>138 | 17=>139 | 18=>140 | 19=>141 | 20=>142 | 21=>143 | 22=>144 | 25=>147 | 26=>148 | 27=>149 | 28=>150 | 29=>151 | 30=>152 | 31=>153 | n=>n,fun | 26=>3 | 28=>161 | 24=>23 | 0=>0 | 3=>3 | 37=>157 | 48=>195 | 50=>54 | 4=>4 | 40=>188 | 39=>187 | 45=>110 | 5=>5 | 9=>9 | 51=>196 | 55=>200 | 57=>202 | 58=>203 | 33=>120 | n=>n,fun | n=>n⟩
theorem Tryz.sortedA:Go.Proofs.SlLaysZI.n6 Tryz.prog Tryz.sortedA_ren:={
 mixed:=by kernel_rfl
 f6:=⟨Tryz.f109.name,by decide,Tryz.func109.trans (congrArg some (by kernel_rfl))⟩
 f8:=⟨Tryz.f123.name,by decide,Tryz.func123.trans (congrArg some (by kernel_rfl))⟩
 f11:=⟨Tryz.f133.name,by decide,Tryz.func133.trans (congrArg some (by kernel_rfl))⟩
 t0:=Tryz.underlying0
 a0:=Tryz.isAgg0
 z0:=Tryz.sizeOf0
 v0:=Tryz.zeroValue0
 t24:=Tryz.underlying23
 a24:=Tryz.isAgg23
 z24:=Tryz.sizeOf23
 v24:=Tryz.zeroValue23
 t26:=Tryz.underlying3
 a26:=Tryz.isAgg3
 z26:=Tryz.sizeOf3
 v26:=Tryz.zeroValue3
 t28:=Tryz.underlying161
 a28:=Tryz.isAgg161
 z28:=Tryz.sizeOf161
 v28:=Tryz.zeroValue161
 i26:=by kernel_rfl }
def Tryz.sortA_ren:Go.Shelf.Ren:=⟨fun | 5=>124 | 8=>135 | 7=>134 | 19=>145 | 20=>146 | 10=>136 | 11=>137 | 12=>138 | 13=>139 | 14=>140 | 15=>141 | 16=>142 | 17=>143 | 18=>144 | 30=>147 | 31=>148 | 32=>149 | 33=>150 | 34=>151 | 35=>152 | 40=>153 | n=>n,fun | 23=>23 | 25=>3 | 3=>3 | 32=>157 | 22=>23 | 0=>0 | 44=>195 | 46=>54 | 4=>4 | 36=>188 | 35=>187 | 41=>110 | 5=>5 | 9=>9 | 53=>196 | 57=>200 | 63=>202 | 64=>203 | n=>n,fun | n=>n⟩
theorem Tryz.sortA:Go.Proofs.SlLaysM.n5 Tryz.prog Tryz.sortA_ren:={
 mixed:=by kernel_rfl
 f5:=⟨Tryz.f124.name,by decide,Tryz.func124.trans (congrArg some (by kernel_rfl))⟩
 f7:=⟨Tryz.f134.name,by decide,Tryz.func134.trans (congrArg some (by kernel_rfl))⟩
 f8:=Tryz.func135.trans (congrArg some (by kernel_rfl))
 f10:=⟨Tryz.f136.name,by decide,Tryz.func136.trans (congrArg some (by kernel_rfl))⟩
 f11:=⟨Tryz.f137.name,by decide,Tryz.func137.trans (congrArg some (by kernel_rfl))⟩
 f12:=⟨Tryz.f138.name,by decide,Tryz.func138.trans (congrArg some (by kernel_rfl))⟩
 f13:=⟨Tryz.f139.name,by decide,Tryz.func139.trans (congrArg some (by kernel_rfl))⟩
 f14:=⟨Tryz.f140.name,by decide,Tryz.func140.trans (congrArg some (by kernel_rfl))⟩
 f15:=⟨Tryz.f141.name,by decide,Tryz.func141.trans (congrArg some (by kernel_rfl))⟩
 f16:=⟨Tryz.f142.name,by decide,Tryz.func142.trans (congrArg some (by kernel_rfl))⟩
 f17:=⟨Tryz.f143.name,by decide,Tryz.func143.trans (congrArg some (by kernel_rfl))⟩
 f18:=⟨Tryz.f144.name,by decide,Tryz.func144.trans (congrArg some (by kernel_rfl))⟩
 f19:=Tryz.func145.trans (congrArg some (by kernel_rfl))
 f20:=Tryz.func146.trans (congrArg some (by kernel_rfl))
 f30:=⟨Tryz.f147.name,by decide,Tryz.func147.trans (congrArg some (by kernel_rfl))⟩
 f31:=Tryz.func148.trans (congrArg some (by kernel_rfl))
 f32:=Tryz.func149.trans (congrArg some (by kernel_rfl))
 f33:=⟨Tryz.f150.name,by decide,Tryz.func150.trans (congrArg some (by kernel_rfl))⟩
 f34:=⟨Tryz.f151.name,by decide,Tryz.func151.trans (congrArg some (by kernel_rfl))⟩
 f35:=⟨Tryz.f152.name,by decide,Tryz.func152.trans (congrArg some (by kernel_rfl))⟩
 f40:=⟨Tryz.f153.name,by decide,Tryz.func153.trans (congrArg some (by kernel_rfl))⟩
 t0:=Tryz.underlying0
 a0:=Tryz.isAgg0
 z0:=Tryz.sizeOf0
 v0:=Tryz.zeroValue0
 t3:=Tryz.underlying3
 a3:=Tryz.isAgg3
 z3:=Tryz.sizeOf3
 v3:=Tryz.zeroValue3
 t4:=Tryz.underlying4
 a4:=Tryz.isAgg4
 z4:=Tryz.sizeOf4
 v4:=Tryz.zeroValue4
 t5:=Tryz.underlying5
 a5:=Tryz.isAgg5
 z5:=Tryz.sizeOf5
 v5:=Tryz.zeroValue5
 t9:=Tryz.underlying9
 a9:=Tryz.isAgg9
 z9:=Tryz.sizeOf9
 v9:=Tryz.zeroValue9
 t22:=Tryz.underlying23
 a22:=Tryz.isAgg23
 z22:=Tryz.sizeOf23
 v22:=Tryz.zeroValue23
 t23:=Tryz.underlying23
 a23:=Tryz.isAgg23
 z23:=Tryz.sizeOf23
 v23:=Tryz.zeroValue23
 t25:=Tryz.underlying3
 a25:=Tryz.isAgg3
 z25:=Tryz.sizeOf3
 v25:=Tryz.zeroValue3
 t32:=Tryz.underlying157
 a32:=Tryz.isAgg157
 z32:=Tryz.sizeOf157
 v32:=Tryz.zeroValue157
 t35:=Tryz.underlying187
 a35:=Tryz.isAgg187
 z35:=Tryz.sizeOf187
 v35:=Tryz.zeroValue187
 t36:=Tryz.underlying188
 a36:=Tryz.isAgg188
 z36:=Tryz.sizeOf188
 v36:=Tryz.zeroValue188
 t41:=Tryz.underlying110
 a41:=Tryz.isAgg110
 z41:=Tryz.sizeOf110
 v41:=Tryz.zeroValue110
 t44:=Tryz.underlying195
 a44:=Tryz.isAgg195
 z44:=Tryz.sizeOf195
 v44:=Tryz.zeroValue195
 t46:=Tryz.underlying54
 a46:=Tryz.isAgg54
 z46:=Tryz.sizeOf54
 v46:=Tryz.zeroValue54
 t53:=Tryz.underlying196
 a53:=Tryz.isAgg196
 z53:=Tryz.sizeOf196
 v53:=Tryz.zeroValue196
 t57:=Tryz.underlying200
 a57:=Tryz.isAgg200
 z57:=Tryz.sizeOf200
 v57:=Tryz.zeroValue200
 t63:=Tryz.underlying202
 a63:=Tryz.isAgg202
 z63:=Tryz.sizeOf202
 v63:=Tryz.zeroValue202
 t64:=Tryz.underlying203
 a64:=Tryz.isAgg203
 z64:=Tryz.sizeOf203
 v64:=Tryz.zeroValue203 }
end Go.Proofs
