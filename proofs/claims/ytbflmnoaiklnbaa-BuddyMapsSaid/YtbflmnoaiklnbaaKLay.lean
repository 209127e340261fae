/- The laying of the kit's contract of slices.SortFunc at this program (written by wip/laysort.py). -/
import Derived.Shelf.SlLaysF0
import Derived.Test.YtbflmnoaiklnbaaRows
set_option linter.unusedSimpArgs false
set_option linter.unusedVariables false
namespace Go.Proofs.Ytbflmnoaiklnbaa
open Go.Shelf Go.Proofs
def sortBlLays_ren : Go.Shelf.Ren := ⟨fun | 6 => 80 | 15 => 127 | 14 => 126 | 28 => 150 | 29 => 151 | 20 => 142 | 21 => 143 | 22 => 144 | 23 => 145 | 24 => 146 | 25 => 147 | 26 => 148 | 27 => 149 | 46 => 158 | 47 => 159 | 48 => 160 | 49 => 161 | 50 => 162 | 57 => 164 | n => n, fun | 22 => 24 | 24 => 44 | 25 => 138 | 3 => 3 | 39 => 168 | 0 => 0 | 53 => 202 | 55 => 100 | 4 => 4 | 46 => 196 | 45 => 195 | 50 => 164 | 5 => 5 | 9 => 9 | 66 => 208 | 70 => 180 | 76 => 214 | 77 => 215 | n => n, fun | n => n⟩
theorem sortBlLays : Go.Proofs.SlLaysF0.n6 Try.prog sortBlLays_ren := {
  mixed := by kernel_rfl
  f6 := ⟨Try.f80.name, by decide, Try.func80.trans (congrArg some (by kernel_rfl))⟩
  f14 := ⟨Try.f126.name, by decide, Try.func126.trans (congrArg some (by kernel_rfl))⟩
  f15 := Try.func127.trans (congrArg some (by kernel_rfl))
  f20 := ⟨Try.f142.name, by decide, Try.func142.trans (congrArg some (by kernel_rfl))⟩
  f21 := ⟨Try.f143.name, by decide, Try.func143.trans (congrArg some (by kernel_rfl))⟩
  f22 := ⟨Try.f144.name, by decide, Try.func144.trans (congrArg some (by kernel_rfl))⟩
  f23 := ⟨Try.f145.name, by decide, Try.func145.trans (congrArg some (by kernel_rfl))⟩
  f24 := ⟨Try.f146.name, by decide, Try.func146.trans (congrArg some (by kernel_rfl))⟩
  f25 := ⟨Try.f147.name, by decide, Try.func147.trans (congrArg some (by kernel_rfl))⟩
  f26 := ⟨Try.f148.name, by decide, Try.func148.trans (congrArg some (by kernel_rfl))⟩
  f27 := ⟨Try.f149.name, by decide, Try.func149.trans (congrArg some (by kernel_rfl))⟩
  f28 := Try.func150.trans (congrArg some (by kernel_rfl))
  f29 := Try.func151.trans (congrArg some (by kernel_rfl))
  f46 := ⟨Try.f158.name, by decide, Try.func158.trans (congrArg some (by kernel_rfl))⟩
  f47 := Try.func159.trans (congrArg some (by kernel_rfl))
  f48 := Try.func160.trans (congrArg some (by kernel_rfl))
  f49 := ⟨Try.f161.name, by decide, Try.func161.trans (congrArg some (by kernel_rfl))⟩
  f50 := ⟨Try.f162.name, by decide, Try.func162.trans (congrArg some (by kernel_rfl))⟩
  f57 := ⟨Try.f164.name, by decide, Try.func164.trans (congrArg some (by kernel_rfl))⟩
  t0 := Try.underlying0
  a0 := Try.isAgg0
  z0 := Try.sizeOf0
  v0 := Try.zeroValue0
  t3 := Try.underlying3
  a3 := Try.isAgg3
  z3 := Try.sizeOf3
  v3 := Try.zeroValue3
  t4 := Try.underlying4
  a4 := Try.isAgg4
  z4 := Try.sizeOf4
  v4 := Try.zeroValue4
  t5 := Try.underlying5
  a5 := Try.isAgg5
  z5 := Try.sizeOf5
  v5 := Try.zeroValue5
  t9 := Try.underlying9
  a9 := Try.isAgg9
  z9 := Try.sizeOf9
  v9 := Try.zeroValue9
  t22 := Try.underlying24
  a22 := Try.isAgg24
  z22 := Try.sizeOf24
  v22 := Try.zeroValue24
  t25 := Try.underlying138
  a25 := Try.isAgg138
  z25 := Try.sizeOf138
  v25 := Try.zeroValue138
  t39 := Try.underlying168
  a39 := Try.isAgg168
  z39 := Try.sizeOf168
  v39 := Try.zeroValue168
  t45 := Try.underlying195
  a45 := Try.isAgg195
  z45 := Try.sizeOf195
  v45 := Try.zeroValue195
  t46 := Try.underlying196
  a46 := Try.isAgg196
  z46 := Try.sizeOf196
  v46 := Try.zeroValue196
  t50 := Try.underlying164
  a50 := Try.isAgg164
  z50 := Try.sizeOf164
  v50 := Try.zeroValue164
  t53 := Try.underlying202
  a53 := Try.isAgg202
  z53 := Try.sizeOf202
  v53 := Try.zeroValue202
  t55 := Try.underlying100
  a55 := Try.isAgg100
  z55 := Try.sizeOf100
  v55 := Try.zeroValue100
  t66 := Try.underlying208
  a66 := Try.isAgg208
  z66 := Try.sizeOf208
  v66 := Try.zeroValue208
  t70 := Try.underlying180
  a70 := Try.isAgg180
  z70 := Try.sizeOf180
  v70 := Try.zeroValue180
  t76 := Try.underlying214
  a76 := Try.isAgg214
  z76 := Try.sizeOf214
  v76 := Try.zeroValue214
  t77 := Try.underlying215
  a77 := Try.isAgg215
  z77 := Try.sizeOf215
  v77 := Try.zeroValue215 }
end Go.Proofs.Ytbflmnoaiklnbaa
