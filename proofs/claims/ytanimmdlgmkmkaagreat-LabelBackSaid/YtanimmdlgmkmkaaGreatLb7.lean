/- Labels: LabelBack Part 7 of 17: AvTy, AvN1, AvN3, AvN12, AvN8, AvN9, AvN13, AvN14, AvN17, AvN22, AvN2, AvN4, AvN5, AvN7, AvN11, AvT1. -/
import Derived.Test.YtanimmdlgmkmkaaGreatLb6
import Derived.Test.YtanimmdlgmkmkaaGreatProg

/- The facts on this program's types and functions that the abstract layer asks for. -/
namespace Go.Proofs.YtanimmdlgmkmkaaGreat.Av
set_option linter.unusedSimpArgs false
set_option linter.unusedVariables false
open Go

@[simp] theorem tsz3 : tsz Tryz.prog 3 = some 1 := by kernel_rfl
@[simp] theorem tby3 : tbytes Tryz.prog 3 = some 8 := by kernel_rfl
@[simp] theorem tze3 : tzero Tryz.prog 3 = some (.int .i64 (0)) := by kernel_rfl
@[simp] theorem tag3 : tagg Tryz.prog 3 = some false := by simp [tagg, Tryz.underlying3]
@[simp] theorem arr3 : arrOf Tryz.prog 3 = none := by simp [arrOf, Tryz.underlying3]
@[simp] theorem uin3 : uint Tryz.prog 3 = some .i64 := by kernel_rfl
@[simp] theorem pla3 : plainT Tryz.prog 3 = true := by kernel_rfl
@[simp] theorem tsz4 : tsz Tryz.prog 4 = some 1 := by kernel_rfl
@[simp] theorem tby4 : tbytes Tryz.prog 4 = some 1 := by kernel_rfl
@[simp] theorem tze4 : tzero Tryz.prog 4 = some (.bool false) := by kernel_rfl
@[simp] theorem tag4 : tagg Tryz.prog 4 = some false := by simp [tagg, Tryz.underlying4]
@[simp] theorem arr4 : arrOf Tryz.prog 4 = none := by simp [arrOf, Tryz.underlying4]
@[simp] theorem ubo4 : ubool Tryz.prog 4 = true := by kernel_rfl
@[simp] theorem pla4 : plainT Tryz.prog 4 = true := by kernel_rfl
@[simp] theorem tsz22 : tsz Tryz.prog 22 = some 1 := by kernel_rfl
@[simp] theorem tby22 : tbytes Tryz.prog 22 = some 24 := by kernel_rfl
@[simp] theorem tze22 : tzero Tryz.prog 22 = some (.slice none 0 0) := by kernel_rfl
@[simp] theorem tag22 : tagg Tryz.prog 22 = some false := by simp [tagg, Tryz.underlying22]
@[simp] theorem arr22 : arrOf Tryz.prog 22 = none := by simp [arrOf, Tryz.underlying22]
@[simp] theorem elm22 : elemOf Tryz.prog 22 = some 3 := by kernel_rfl
@[simp] theorem tsz23 : tsz Tryz.prog 23 = some 1 := by kernel_rfl
@[simp] theorem tby23 : tbytes Tryz.prog 23 = some 24 := by kernel_rfl
@[simp] theorem tze23 : tzero Tryz.prog 23 = some (.slice none 0 0) := by kernel_rfl
@[simp] theorem tag23 : tagg Tryz.prog 23 = some false := by simp [tagg, Tryz.underlying23]
@[simp] theorem arr23 : arrOf Tryz.prog 23 = none := by simp [arrOf, Tryz.underlying23]
@[simp] theorem elm23 : elemOf Tryz.prog 23 = some 160 := by kernel_rfl
@[simp] theorem tsz25 : tsz Tryz.prog 25 = some 2 := by kernel_rfl
@[simp] theorem tby25 : tbytes Tryz.prog 25 = some 48 := by kernel_rfl
@[simp] theorem tze25 : tzero Tryz.prog 25 = some (.agg #[(.slice none 0 0), (.slice none 0 0)]) := by kernel_rfl
@[simp] theorem tag25 : tagg Tryz.prog 25 = some true := by simp [tagg, Tryz.underlying25]
@[simp] theorem arr25 : arrOf Tryz.prog 25 = none := by simp [arrOf, Tryz.underlying25]
@[simp] theorem fsz25 : fieldsSized Tryz.prog 25 = true := by kernel_rfl
@[simp] theorem wid25 : wideT Tryz.prog 25 = true := by kernel_rfl
@[simp] theorem fld25_0 : fieldOf Tryz.prog 25 0 = some (22, 0) := by kernel_rfl
@[simp] theorem fld25_1 : fieldOf Tryz.prog 25 1 = some (23, 1) := by kernel_rfl
@[simp] theorem fli25 : fieldList Tryz.prog 25 = some [(22, 0), (23, 1)] := by kernel_rfl
@[simp] theorem eqg25 : Tryz.prog.eqGuardType Tryz.prog.depth 25 = false := by kernel_rfl
@[simp] theorem tsz26 : tsz Tryz.prog 26 = some 1 := by kernel_rfl
@[simp] theorem tby26 : tbytes Tryz.prog 26 = some 24 := by kernel_rfl
@[simp] theorem tze26 : tzero Tryz.prog 26 = some (.slice none 0 0) := by kernel_rfl
@[simp] theorem tag26 : tagg Tryz.prog 26 = some false := by simp [tagg, Tryz.underlying26]
@[simp] theorem arr26 : arrOf Tryz.prog 26 = none := by simp [arrOf, Tryz.underlying26]
@[simp] theorem elm26 : elemOf Tryz.prog 26 = some 73 := by kernel_rfl
@[simp] theorem tsz28 : tsz Tryz.prog 28 = some 3 := by kernel_rfl
@[simp] theorem tby28 : tbytes Tryz.prog 28 = some 72 := by kernel_rfl
@[simp] theorem tze28 : tzero Tryz.prog 28 = some (.agg #[(.slice none 0 0), (.slice none 0 0), (.slice none 0 0)]) := by kernel_rfl
@[simp] theorem tag28 : tagg Tryz.prog 28 = some true := by simp [tagg, Tryz.underlying28]
@[simp] theorem arr28 : arrOf Tryz.prog 28 = none := by simp [arrOf, Tryz.underlying28]
@[simp] theorem fsz28 : fieldsSized Tryz.prog 28 = true := by kernel_rfl
@[simp] theorem wid28 : wideT Tryz.prog 28 = true := by kernel_rfl
@[simp] theorem fld28_0 : fieldOf Tryz.prog 28 0 = some (25, 0) := by kernel_rfl
@[simp] theorem fld28_1 : fieldOf Tryz.prog 28 1 = some (26, 2) := by kernel_rfl
@[simp] theorem fli28 : fieldList Tryz.prog 28 = some [(25, 0), (26, 2)] := by kernel_rfl
@[simp] theorem eqg28 : Tryz.prog.eqGuardType Tryz.prog.depth 28 = false := by kernel_rfl
@[simp] theorem tsz31 : tsz Tryz.prog 31 = some 1 := by kernel_rfl
@[simp] theorem tby31 : tbytes Tryz.prog 31 = some 4 := by kernel_rfl
@[simp] theorem tze31 : tzero Tryz.prog 31 = some (.int .u32 (0)) := by kernel_rfl
@[simp] theorem tag31 : tagg Tryz.prog 31 = some false := by simp [tagg, Tryz.underlying31]
@[simp] theorem arr31 : arrOf Tryz.prog 31 = none := by simp [arrOf, Tryz.underlying31]
@[simp] theorem uin31 : uint Tryz.prog 31 = some .u32 := by kernel_rfl
@[simp] theorem pla31 : plainT Tryz.prog 31 = true := by kernel_rfl
@[simp] theorem tsz33 : tsz Tryz.prog 33 = some 2 := by kernel_rfl
@[simp] theorem tby33 : tbytes Tryz.prog 33 = some 8 := by kernel_rfl
@[simp] theorem tze33 : tzero Tryz.prog 33 = some (.agg #[(.int .u32 (0)), (.int .u32 (0))]) := by kernel_rfl
@[simp] theorem tag33 : tagg Tryz.prog 33 = some true := by simp [tagg, Tryz.underlying33]
@[simp] theorem arr33 : arrOf Tryz.prog 33 = none := by simp [arrOf, Tryz.underlying33]
@[simp] theorem fsz33 : fieldsSized Tryz.prog 33 = true := by kernel_rfl
@[simp] theorem wid33 : wideT Tryz.prog 33 = true := by kernel_rfl
@[simp] theorem fld33_0 : fieldOf Tryz.prog 33 0 = some (31, 0) := by kernel_rfl
@[simp] theorem fld33_1 : fieldOf Tryz.prog 33 1 = some (31, 1) := by kernel_rfl
@[simp] theorem fli33 : fieldList Tryz.prog 33 = some [(31, 0), (31, 1)] := by kernel_rfl
@[simp] theorem eqg33 : Tryz.prog.eqGuardType Tryz.prog.depth 33 = false := by kernel_rfl
@[simp] theorem tsz41 : tsz Tryz.prog 41 = some 2 := by kernel_rfl
@[simp] theorem tby41 : tbytes Tryz.prog 41 = some 16 := by kernel_rfl
@[simp] theorem tze41 : tzero Tryz.prog 41 = some (.agg #[(.int .i64 (0)), (.int .i64 (0))]) := by kernel_rfl
@[simp] theorem tag41 : tagg Tryz.prog 41 = some true := by simp [tagg, Tryz.underlying41]
@[simp] theorem arr41 : arrOf Tryz.prog 41 = none := by simp [arrOf, Tryz.underlying41]
@[simp] theorem fsz41 : fieldsSized Tryz.prog 41 = true := by kernel_rfl
@[simp] theorem wid41 : wideT Tryz.prog 41 = true := by kernel_rfl
@[simp] theorem fld41_0 : fieldOf Tryz.prog 41 0 = some (3, 0) := by kernel_rfl
@[simp] theorem fld41_1 : fieldOf Tryz.prog 41 1 = some (3, 1) := by kernel_rfl
@[simp] theorem fli41 : fieldList Tryz.prog 41 = some [(3, 0), (3, 1)] := by kernel_rfl
@[simp] theorem eqg41 : Tryz.prog.eqGuardType Tryz.prog.depth 41 = false := by kernel_rfl
@[simp] theorem tsz53 : tsz Tryz.prog 53 = some 1 := by kernel_rfl
@[simp] theorem tby53 : tbytes Tryz.prog 53 = some 8 := by kernel_rfl
@[simp] theorem tze53 : tzero Tryz.prog 53 = some (.pointer none) := by kernel_rfl
@[simp] theorem tag53 : tagg Tryz.prog 53 = some false := by simp [tagg, Tryz.underlying53]
@[simp] theorem arr53 : arrOf Tryz.prog 53 = none := by simp [arrOf, Tryz.underlying53]
@[simp] theorem upt53 : uptr Tryz.prog 53 = true := by kernel_rfl
@[simp] theorem tsz71 : tsz Tryz.prog 71 = some 1 := by kernel_rfl
@[simp] theorem tby71 : tbytes Tryz.prog 71 = some 8 := by kernel_rfl
@[simp] theorem tze71 : tzero Tryz.prog 71 = some (.int .i64 (0)) := by kernel_rfl
@[simp] theorem tag71 : tagg Tryz.prog 71 = some false := by simp [tagg, Tryz.underlying71]
@[simp] theorem arr71 : arrOf Tryz.prog 71 = none := by simp [arrOf, Tryz.underlying71]
@[simp] theorem uin71 : uint Tryz.prog 71 = some .i64 := by kernel_rfl
@[simp] theorem pla71 : plainT Tryz.prog 71 = true := by kernel_rfl
@[simp] theorem tsz73 : tsz Tryz.prog 73 = some 7 := by kernel_rfl
@[simp] theorem tby73 : tbytes Tryz.prog 73 = some 48 := by kernel_rfl
@[simp] theorem tze73 : tzero Tryz.prog 73 = some (.agg #[(.int .i64 (0)), (.int .i64 (0)), (.int .i64 (0)), (.int .i64 (0)), (.int .u32 (0)), (.int .u32 (0)), (.int .i64 (0))]) := by kernel_rfl
@[simp] theorem tag73 : tagg Tryz.prog 73 = some true := by simp [tagg, Tryz.underlying73]
@[simp] theorem arr73 : arrOf Tryz.prog 73 = none := by simp [arrOf, Tryz.underlying73]
@[simp] theorem fsz73 : fieldsSized Tryz.prog 73 = true := by kernel_rfl
@[simp] theorem wid73 : wideT Tryz.prog 73 = true := by kernel_rfl
@[simp] theorem fld73_0 : fieldOf Tryz.prog 73 0 = some (3, 0) := by kernel_rfl
@[simp] theorem fld73_1 : fieldOf Tryz.prog 73 1 = some (3, 1) := by kernel_rfl
@[simp] theorem fld73_2 : fieldOf Tryz.prog 73 2 = some (3, 2) := by kernel_rfl
@[simp] theorem fld73_3 : fieldOf Tryz.prog 73 3 = some (71, 3) := by kernel_rfl
@[simp] theorem fld73_4 : fieldOf Tryz.prog 73 4 = some (33, 4) := by kernel_rfl
@[simp] theorem fld73_5 : fieldOf Tryz.prog 73 5 = some (3, 6) := by kernel_rfl
@[simp] theorem fli73 : fieldList Tryz.prog 73 = some [(3, 0), (3, 1), (3, 2), (71, 3), (33, 4), (3, 6)] := by kernel_rfl
@[simp] theorem eqg73 : Tryz.prog.eqGuardType Tryz.prog.depth 73 = false := by kernel_rfl
@[simp] theorem tsz85 : tsz Tryz.prog 85 = some 1 := by kernel_rfl
@[simp] theorem tby85 : tbytes Tryz.prog 85 = some 24 := by kernel_rfl
@[simp] theorem tze85 : tzero Tryz.prog 85 = some (.slice none 0 0) := by kernel_rfl
@[simp] theorem tag85 : tagg Tryz.prog 85 = some false := by simp [tagg, Tryz.underlying85]
@[simp] theorem arr85 : arrOf Tryz.prog 85 = none := by simp [arrOf, Tryz.underlying85]
@[simp] theorem elm85 : elemOf Tryz.prog 85 = some 33 := by kernel_rfl
@[simp] theorem tsz93 : tsz Tryz.prog 93 = some 1 := by kernel_rfl
@[simp] theorem tby93 : tbytes Tryz.prog 93 = some 8 := by kernel_rfl
@[simp] theorem tze93 : tzero Tryz.prog 93 = some (.int .u64 (0)) := by kernel_rfl
@[simp] theorem tag93 : tagg Tryz.prog 93 = some false := by simp [tagg, Tryz.underlying93]
@[simp] theorem arr93 : arrOf Tryz.prog 93 = none := by simp [arrOf, Tryz.underlying93]
@[simp] theorem uin93 : uint Tryz.prog 93 = some .u64 := by kernel_rfl
@[simp] theorem pla93 : plainT Tryz.prog 93 = true := by kernel_rfl
@[simp] theorem tsz117 : tsz Tryz.prog 117 = some 1 := by kernel_rfl
@[simp] theorem tby117 : tbytes Tryz.prog 117 = some 8 := by kernel_rfl
@[simp] theorem tze117 : tzero Tryz.prog 117 = some (.pointer none) := by kernel_rfl
@[simp] theorem tag117 : tagg Tryz.prog 117 = some false := by simp [tagg, Tryz.underlying117]
@[simp] theorem arr117 : arrOf Tryz.prog 117 = none := by simp [arrOf, Tryz.underlying117]
@[simp] theorem upt117 : uptr Tryz.prog 117 = true := by kernel_rfl
@[simp] theorem tsz119 : tsz Tryz.prog 119 = some 1 := by kernel_rfl
@[simp] theorem tby119 : tbytes Tryz.prog 119 = some 24 := by kernel_rfl
@[simp] theorem tze119 : tzero Tryz.prog 119 = some (.slice none 0 0) := by kernel_rfl
@[simp] theorem tag119 : tagg Tryz.prog 119 = some false := by simp [tagg, Tryz.underlying119]
@[simp] theorem arr119 : arrOf Tryz.prog 119 = none := by simp [arrOf, Tryz.underlying119]
@[simp] theorem elm119 : elemOf Tryz.prog 119 = some 22 := by kernel_rfl
@[simp] theorem tsz121 : tsz Tryz.prog 121 = some 5 := by kernel_rfl
@[simp] theorem tby121 : tbytes Tryz.prog 121 = some 104 := by kernel_rfl
@[simp] theorem tze121 : tzero Tryz.prog 121 = some (.agg #[(.slice none 0 0), (.slice none 0 0), (.slice none 0 0), (.pointer none), (.slice none 0 0)]) := by kernel_rfl
@[simp] theorem tag121 : tagg Tryz.prog 121 = some true := by simp [tagg, Tryz.underlying121]
@[simp] theorem arr121 : arrOf Tryz.prog 121 = none := by simp [arrOf, Tryz.underlying121]
@[simp] theorem fsz121 : fieldsSized Tryz.prog 121 = true := by kernel_rfl
@[simp] theorem wid121 : wideT Tryz.prog 121 = true := by kernel_rfl
@[simp] theorem fld121_0 : fieldOf Tryz.prog 121 0 = some (28, 0) := by kernel_rfl
@[simp] theorem fld121_1 : fieldOf Tryz.prog 121 1 = some (117, 3) := by kernel_rfl
@[simp] theorem fld121_2 : fieldOf Tryz.prog 121 2 = some (119, 4) := by kernel_rfl
@[simp] theorem fli121 : fieldList Tryz.prog 121 = some [(28, 0), (117, 3), (119, 4)] := by kernel_rfl
@[simp] theorem eqg121 : Tryz.prog.eqGuardType Tryz.prog.depth 121 = false := by kernel_rfl
@[simp] theorem tsz160 : tsz Tryz.prog 160 = some 4 := by kernel_rfl
@[simp] theorem tby160 : tbytes Tryz.prog 160 = some 32 := by kernel_rfl
@[simp] theorem tze160 : tzero Tryz.prog 160 = some (.agg #[(.int .i64 (0)), (.int .i64 (0)), (.int .i64 (0)), (.int .i64 (0))]) := by kernel_rfl
@[simp] theorem tag160 : tagg Tryz.prog 160 = some true := by simp [tagg, Tryz.underlying160]
@[simp] theorem arr160 : arrOf Tryz.prog 160 = none := by simp [arrOf, Tryz.underlying160]
@[simp] theorem fsz160 : fieldsSized Tryz.prog 160 = true := by kernel_rfl
@[simp] theorem wid160 : wideT Tryz.prog 160 = true := by kernel_rfl
@[simp] theorem fld160_0 : fieldOf Tryz.prog 160 0 = some (41, 0) := by kernel_rfl
@[simp] theorem fld160_1 : fieldOf Tryz.prog 160 1 = some (41, 2) := by kernel_rfl
@[simp] theorem fli160 : fieldList Tryz.prog 160 = some [(41, 0), (41, 2)] := by kernel_rfl
@[simp] theorem eqg160 : Tryz.prog.eqGuardType Tryz.prog.depth 160 = false := by kernel_rfl
@[simp] theorem tsz174 : tsz Tryz.prog 174 = some 1 := by kernel_rfl
@[simp] theorem tby174 : tbytes Tryz.prog 174 = some 8 := by kernel_rfl
@[simp] theorem tze174 : tzero Tryz.prog 174 = some (.pointer none) := by kernel_rfl
@[simp] theorem tag174 : tagg Tryz.prog 174 = some false := by simp [tagg, Tryz.underlying174]
@[simp] theorem arr174 : arrOf Tryz.prog 174 = none := by simp [arrOf, Tryz.underlying174]
@[simp] theorem upt174 : uptr Tryz.prog 174 = true := by kernel_rfl
@[simp] theorem tsz179 : tsz Tryz.prog 179 = some 3 := by kernel_rfl
@[simp] theorem tby179 : tbytes Tryz.prog 179 = some 24 := by kernel_rfl
@[simp] theorem tze179 : tzero Tryz.prog 179 = some (.agg #[(.pointer none), (.pointer none), (.int .i64 (0))]) := by kernel_rfl
@[simp] theorem tag179 : tagg Tryz.prog 179 = some true := by simp [tagg, Tryz.underlying179]
@[simp] theorem arr179 : arrOf Tryz.prog 179 = none := by simp [arrOf, Tryz.underlying179]
@[simp] theorem fsz179 : fieldsSized Tryz.prog 179 = true := by kernel_rfl
@[simp] theorem wid179 : wideT Tryz.prog 179 = true := by kernel_rfl
@[simp] theorem fld179_0 : fieldOf Tryz.prog 179 0 = some (174, 0) := by kernel_rfl
@[simp] theorem fld179_1 : fieldOf Tryz.prog 179 1 = some (174, 1) := by kernel_rfl
@[simp] theorem fld179_2 : fieldOf Tryz.prog 179 2 = some (3, 2) := by kernel_rfl
@[simp] theorem fli179 : fieldList Tryz.prog 179 = some [(174, 0), (174, 1), (3, 2)] := by kernel_rfl
@[simp] theorem eqg179 : Tryz.prog.eqGuardType Tryz.prog.depth 179 = false := by kernel_rfl
@[simp] theorem tsz198 : tsz Tryz.prog 198 = some 2 := by kernel_rfl
@[simp] theorem tby198 : tbytes Tryz.prog 198 = some 16 := by kernel_rfl
@[simp] theorem tze198 : tzero Tryz.prog 198 = some (.agg #[(.int .u64 (0)), (.int .i64 (0))]) := by kernel_rfl
@[simp] theorem tag198 : tagg Tryz.prog 198 = some true := by simp [tagg, Tryz.underlying198]
@[simp] theorem arr198 : arrOf Tryz.prog 198 = none := by simp [arrOf, Tryz.underlying198]
@[simp] theorem fsz198 : fieldsSized Tryz.prog 198 = true := by kernel_rfl
@[simp] theorem wid198 : wideT Tryz.prog 198 = true := by kernel_rfl
@[simp] theorem fld198_0 : fieldOf Tryz.prog 198 0 = some (93, 0) := by kernel_rfl
@[simp] theorem fld198_1 : fieldOf Tryz.prog 198 1 = some (3, 1) := by kernel_rfl
@[simp] theorem fli198 : fieldList Tryz.prog 198 = some [(93, 0), (3, 1)] := by kernel_rfl
@[simp] theorem eqg198 : Tryz.prog.eqGuardType Tryz.prog.depth 198 = false := by kernel_rfl
@[simp] theorem tsz205 : tsz Tryz.prog 205 = some 1 := by kernel_rfl
@[simp] theorem tby205 : tbytes Tryz.prog 205 = some 24 := by kernel_rfl
@[simp] theorem tze205 : tzero Tryz.prog 205 = some (.slice none 0 0) := by kernel_rfl
@[simp] theorem tag205 : tagg Tryz.prog 205 = some false := by simp [tagg, Tryz.underlying205]
@[simp] theorem arr205 : arrOf Tryz.prog 205 = none := by simp [arrOf, Tryz.underlying205]
@[simp] theorem elm205 : elemOf Tryz.prog 205 = some 41 := by kernel_rfl
@[simp] theorem tsz207 : tsz Tryz.prog 207 = some 1 := by kernel_rfl
@[simp] theorem tby207 : tbytes Tryz.prog 207 = some 8 := by kernel_rfl
@[simp] theorem tze207 : tzero Tryz.prog 207 = some .nilFunc := by kernel_rfl
@[simp] theorem tag207 : tagg Tryz.prog 207 = some false := by simp [tagg, Tryz.underlying207]
@[simp] theorem arr207 : arrOf Tryz.prog 207 = none := by simp [arrOf, Tryz.underlying207]
@[simp] theorem tsz210 : tsz Tryz.prog 210 = some 1 := by kernel_rfl
@[simp] theorem tby210 : tbytes Tryz.prog 210 = some 8 := by kernel_rfl
@[simp] theorem tze210 : tzero Tryz.prog 210 = some (.map none) := by kernel_rfl
@[simp] theorem tag210 : tagg Tryz.prog 210 = some false := by simp [tagg, Tryz.underlying210]
@[simp] theorem arr210 : arrOf Tryz.prog 210 = none := by simp [arrOf, Tryz.underlying210]
@[simp] theorem uma210 : umap Tryz.prog 210 = true := by kernel_rfl
@[simp] theorem mty210 : mapTypes Tryz.prog 210 = some (41, 41) := by kernel_rfl
@[simp] theorem tsz213 : tsz Tryz.prog 213 = some 1 := by kernel_rfl
@[simp] theorem tby213 : tbytes Tryz.prog 213 = some 8 := by kernel_rfl
@[simp] theorem tze213 : tzero Tryz.prog 213 = some (.pointer none) := by kernel_rfl
@[simp] theorem tag213 : tagg Tryz.prog 213 = some false := by simp [tagg, Tryz.underlying213]
@[simp] theorem arr213 : arrOf Tryz.prog 213 = none := by simp [arrOf, Tryz.underlying213]
@[simp] theorem upt213 : uptr Tryz.prog 213 = true := by kernel_rfl
@[simp] theorem tsz215 : tsz Tryz.prog 215 = some 1 := by kernel_rfl
@[simp] theorem tby215 : tbytes Tryz.prog 215 = some 8 := by kernel_rfl
@[simp] theorem tze215 : tzero Tryz.prog 215 = some (.agg #[(.pointer none)]) := by kernel_rfl
@[simp] theorem tag215 : tagg Tryz.prog 215 = some true := by simp [tagg, Tryz.underlying215]
@[simp] theorem arr215 : arrOf Tryz.prog 215 = none := by simp [arrOf, Tryz.underlying215]
@[simp] theorem fsz215 : fieldsSized Tryz.prog 215 = true := by kernel_rfl
@[simp] theorem wid215 : wideT Tryz.prog 215 = true := by kernel_rfl
@[simp] theorem fld215_0 : fieldOf Tryz.prog 215 0 = some (213, 0) := by kernel_rfl
@[simp] theorem fli215 : fieldList Tryz.prog 215 = some [(213, 0)] := by kernel_rfl
@[simp] theorem eqg215 : Tryz.prog.eqGuardType Tryz.prog.depth 215 = false := by kernel_rfl
@[simp] theorem tsz221 : tsz Tryz.prog 221 = some 1 := by kernel_rfl
@[simp] theorem tby221 : tbytes Tryz.prog 221 = some 24 := by kernel_rfl
@[simp] theorem tze221 : tzero Tryz.prog 221 = some (.slice none 0 0) := by kernel_rfl
@[simp] theorem tag221 : tagg Tryz.prog 221 = some false := by simp [tagg, Tryz.underlying221]
@[simp] theorem arr221 : arrOf Tryz.prog 221 = none := by simp [arrOf, Tryz.underlying221]
@[simp] theorem elm221 : elemOf Tryz.prog 221 = some 93 := by kernel_rfl
@[simp] theorem tsz225 : tsz Tryz.prog 225 = some 1 := by kernel_rfl
@[simp] theorem tby225 : tbytes Tryz.prog 225 = some 8 := by kernel_rfl
@[simp] theorem tze225 : tzero Tryz.prog 225 = some (.int .u64 (0)) := by kernel_rfl
@[simp] theorem tag225 : tagg Tryz.prog 225 = some false := by simp [tagg, Tryz.underlying225]
@[simp] theorem arr225 : arrOf Tryz.prog 225 = none := by simp [arrOf, Tryz.underlying225]
@[simp] theorem uin225 : uint Tryz.prog 225 = some .u64 := by kernel_rfl
@[simp] theorem pla225 : plainT Tryz.prog 225 = true := by kernel_rfl
@[simp] theorem tsz232 : tsz Tryz.prog 232 = some 6 := by kernel_rfl
@[simp] theorem tby232 : tbytes Tryz.prog 232 = some 48 := by kernel_rfl
@[simp] theorem tze232 : tzero Tryz.prog 232 = some (.agg #[(.int .u64 (0)), (.int .i64 (0)), (.pointer none), (.pointer none), (.int .i64 (0)), (.int .i64 (0))]) := by kernel_rfl
@[simp] theorem tag232 : tagg Tryz.prog 232 = some true := by simp [tagg, Tryz.underlying232]
@[simp] theorem arr232 : arrOf Tryz.prog 232 = none := by simp [arrOf, Tryz.underlying232]
@[simp] theorem fsz232 : fieldsSized Tryz.prog 232 = true := by kernel_rfl
@[simp] theorem wid232 : wideT Tryz.prog 232 = true := by kernel_rfl
@[simp] theorem fld232_0 : fieldOf Tryz.prog 232 0 = some (198, 0) := by kernel_rfl
@[simp] theorem fld232_1 : fieldOf Tryz.prog 232 1 = some (213, 2) := by kernel_rfl
@[simp] theorem fld232_2 : fieldOf Tryz.prog 232 2 = some (213, 3) := by kernel_rfl
@[simp] theorem fld232_3 : fieldOf Tryz.prog 232 3 = some (3, 4) := by kernel_rfl
@[simp] theorem fld232_4 : fieldOf Tryz.prog 232 4 = some (3, 5) := by kernel_rfl
@[simp] theorem fli232 : fieldList Tryz.prog 232 = some [(198, 0), (213, 2), (213, 3), (3, 4), (3, 5)] := by kernel_rfl
@[simp] theorem eqg232 : Tryz.prog.eqGuardType Tryz.prog.depth 232 = false := by kernel_rfl
theorem slt22 : SlT Tryz.prog 22 1 8 := ⟨⟨3, _, elm22, tsz3, tby3, tze3, rfl, by decide, by decide⟩⟩
theorem slt23 : SlT Tryz.prog 23 4 32 := ⟨⟨160, _, elm23, tsz160, tby160, tze160, rfl, by decide, by decide⟩⟩
theorem slt26 : SlT Tryz.prog 26 7 48 := ⟨⟨73, _, elm26, tsz73, tby73, tze73, rfl, by decide, by decide⟩⟩
theorem slt85 : SlT Tryz.prog 85 2 8 := ⟨⟨33, _, elm85, tsz33, tby33, tze33, rfl, by decide, by decide⟩⟩
theorem slt119 : SlT Tryz.prog 119 1 24 := ⟨⟨22, _, elm119, tsz22, tby22, tze22, rfl, by decide, by decide⟩⟩
theorem slt205 : SlT Tryz.prog 205 2 16 := ⟨⟨41, _, elm205, tsz41, tby41, tze41, rfl, by decide, by decide⟩⟩
theorem slt221 : SlT Tryz.prog 221 1 8 := ⟨⟨93, _, elm221, tsz93, tby93, tze93, rfl, by decide, by decide⟩⟩
theorem mixed : Tryz.prog.follows .mixedOrders = true := by kernel_rfl
end Go.Proofs.YtanimmdlgmkmkaaGreat.Av


/- Networks: what they are; functions that only look at one port or one rule. -/
namespace Go.Proofs.YtanimmdlgmkmkaaGreat.Av
open Go
set_option linter.unusedSimpArgs false
set_option linter.unusedVariables false
set_option maxRecDepth 100000
set_option maxHeartbeats 1000000
set_option pp.maxSteps 300

theorem Ext.setF {σ τ : St} {i : Id} {o : Ob} (h : Ext σ τ) (hi : σ.m i = none) : Ext σ (τ.set i o) := ⟨fun j p hj => by
    have hne : j ≠ i := fun e => by rw [e, hi] at hj; cases hj
    simp only [St.set, hne, false_and, if_false]
    exact h.m j p hj, h.nx⟩
theorem set_hit {τ : St} {i : Id} {o p : Ob} (h : τ.m i = some p) : (τ.set i o).m i = some o := by simp [St.set, h]
theorem set_ne {τ : St} {i j : Id} {o : Ob} (h : j ≠ i) : (τ.set i o).m j = τ.m j := by simp [St.set, h]

structure Pt where
  dev : Int
  port : Int
deriving DecidableEq
structure Lk where
  a : Pt
  b : Pt
deriving DecidableEq
structure Rg where
  lo : Int
  hi : Int
deriving DecidableEq
structure Ru where
  id : Int
  dev : Int
  prio : Int
  kind : Int
  r : Rg
  port : Int
deriving DecidableEq
structure Tp where
  ports : List Int
  links : List Lk
deriving DecidableEq
structure Nw where
  t : Tp
  rules : List Ru
deriving DecidableEq
def iAV (n : Int) : AV := .raw (.int .i64 n)
def uAV (n : Int) : AV := .raw (.int .u32 n)
def ptAV (p : Pt) : AV := .agg [.raw (.int .i64 p.dev), .raw (.int .i64 p.port)]
def lkAV (l : Lk) : AV := .agg [.raw (.int .i64 l.a.dev), .raw (.int .i64 l.a.port), .raw (.int .i64 l.b.dev), .raw (.int .i64 l.b.port)]
def rgAV (r : Rg) : AV := .agg [.raw (.int .u32 r.lo), .raw (.int .u32 r.hi)]
def ruAV (r : Ru) : AV := .agg [.raw (.int .i64 r.id), .raw (.int .i64 r.dev), .raw (.int .i64 r.prio), .raw (.int .i64 r.kind), .raw (.int .u32 r.r.lo), .raw (.int .u32 r.r.hi), .raw (.int .i64 r.port)]
def intsAV (l : List Int) (f : Bool) : AV := .sl 1 (l.map iAV) f
def linksAV (l : List Lk) (f : Bool) : AV := .sl 4 (l.map lkAV) f
def rulesAV (l : List Ru) (f : Bool) : AV := .sl 7 (l.map ruAV) f
/-- Are the lists' arrays full? -/
structure Fl where
  p : Bool
  l : Bool
  r : Bool
def tpAV (t : Tp) (f : Fl) : AV := .agg [intsAV t.ports f.p, linksAV t.links f.l]
def nwAV (n : Nw) (f : Fl) : AV := .agg [intsAV n.t.ports f.p, linksAV n.t.links f.l, rulesAV n.rules f.r]

def hasB (t : Tp) (p : Pt) : Bool := decide (0 ≤ p.dev) && match t.ports[p.dev.toNat]? with | some n => decide (0 ≤ p.port) && decide (p.port < n) | none => false

theorem has_calls (t : Tp) (f : Fl) (p : Pt) (hl : t.ports.length < 2 ^ 60) : PCalls Tryz.prog 176 [tpAV t f, ptAV p] (.raw (.bool (hasB t p))) := by
  refine pbody Tryz.func176 rfl (N := 32) rfl rfl (by simp) (by simp [noIds]) fun σ => ?_
  by_cases h1 : 0 ≤ p.dev
  · obtain ⟨k, hk⟩ : ∃ k : Nat, p.dev = k := ⟨p.dev.toNat, by omega⟩
    by_cases h2 : k < t.ports.length
    · have hx : t.ports[k]? = some t.ports[k] := List.getElem?_eq_getElem h2
      (try (first | (with_reducible refine dops_go ?_; simp [tpAV, ptAV, intsAV, linksAV, iAV, hk, h2, hx]) | (with_reducible refine OKv_go ?_; simp [tpAV, ptAV, intsAV, linksAV, iAV, hk, h2, hx]) | (with_reducible refine OKr_go ?_; simp [tpAV, ptAV, intsAV, linksAV, iAV, hk, h2, hx]))); repeat' (first | refine awp_seq ?_ | refine awp_block ?_ | (refine awp_skip ?_; try simp) | (refine awp_exit ?_; try simp) | (refine awp_ret ?_; try simp) | (refine retP_same (by simp) ?_; simp) | (refine retP_flat (by simp) (by simp) (by simp (maxDischargeDepth := 30) [tpAV, ptAV, intsAV, linksAV, iAV, hk, h2, hx]) ?_; simp) | (refine awp_reg ?_; simp [tpAV, ptAV, intsAV, linksAV, iAV, hk, h2, hx]) | (refine awp_drawT (fun _ => false) mixed (by decide +kernel) ?_; simp [tpAV, ptAV, intsAV, linksAV, iAV, hk, h2, hx]) | (refine guarded_split ?_ ?_ <;> (intro hg; simp only [hg]; simp [tpAV, ptAV, intsAV, linksAV, iAV, hk, h2, hx])) | (apply awp_cond_t; focus (simp [tpAV, ptAV, intsAV, linksAV, iAV, hk, h2, hx]; done)) | (apply awp_cond_f; focus (simp [tpAV, ptAV, intsAV, linksAV, iAV, hk, h2, hx]; done)) | (refine awp_cond ?_; simp [tpAV, ptAV, intsAV, linksAV, iAV, hk, h2, hx]; refine ⟨?_, ?_⟩ <;> intro hc))
      all_goals (simp_all [hasB] <;> intros <;> omega)
    · have hx : t.ports[k]? = none := List.getElem?_eq_none (by omega)
      (try (first | (with_reducible refine dops_go ?_; simp [tpAV, ptAV, intsAV, linksAV, iAV, hk, h2, hx]) | (with_reducible refine OKv_go ?_; simp [tpAV, ptAV, intsAV, linksAV, iAV, hk, h2, hx]) | (with_reducible refine OKr_go ?_; simp [tpAV, ptAV, intsAV, linksAV, iAV, hk, h2, hx]))); repeat' (first | refine awp_seq ?_ | refine awp_block ?_ | (refine awp_skip ?_; try simp) | (refine awp_exit ?_; try simp) | (refine awp_ret ?_; try simp) | (refine retP_same (by simp) ?_; simp) | (refine retP_flat (by simp) (by simp) (by simp (maxDischargeDepth := 30) [tpAV, ptAV, intsAV, linksAV, iAV, hk, h2, hx]) ?_; simp) | (refine awp_reg ?_; simp [tpAV, ptAV, intsAV, linksAV, iAV, hk, h2, hx]) | (refine awp_drawT (fun _ => false) mixed (by decide +kernel) ?_; simp [tpAV, ptAV, intsAV, linksAV, iAV, hk, h2, hx]) | (refine guarded_split ?_ ?_ <;> (intro hg; simp only [hg]; simp [tpAV, ptAV, intsAV, linksAV, iAV, hk, h2, hx])) | (apply awp_cond_t; focus (simp [tpAV, ptAV, intsAV, linksAV, iAV, hk, h2, hx]; done)) | (apply awp_cond_f; focus (simp [tpAV, ptAV, intsAV, linksAV, iAV, hk, h2, hx]; done)) | (refine awp_cond ?_; simp [tpAV, ptAV, intsAV, linksAV, iAV, hk, h2, hx]; refine ⟨?_, ?_⟩ <;> intro hc))
      all_goals (simp_all [hasB] <;> intros <;> omega)
  · (try (first | (with_reducible refine dops_go ?_; simp [tpAV, ptAV, intsAV, linksAV, iAV, h1]) | (with_reducible refine OKv_go ?_; simp [tpAV, ptAV, intsAV, linksAV, iAV, h1]) | (with_reducible refine OKr_go ?_; simp [tpAV, ptAV, intsAV, linksAV, iAV, h1]))); repeat' (first | refine awp_seq ?_ | refine awp_block ?_ | (refine awp_skip ?_; try simp) | (refine awp_exit ?_; try simp) | (refine awp_ret ?_; try simp) | (refine retP_same (by simp) ?_; simp) | (refine retP_flat (by simp) (by simp) (by simp (maxDischargeDepth := 30) [tpAV, ptAV, intsAV, linksAV, iAV, h1]) ?_; simp) | (refine awp_reg ?_; simp [tpAV, ptAV, intsAV, linksAV, iAV, h1]) | (refine awp_drawT (fun _ => false) mixed (by decide +kernel) ?_; simp [tpAV, ptAV, intsAV, linksAV, iAV, h1]) | (refine guarded_split ?_ ?_ <;> (intro hg; simp only [hg]; simp [tpAV, ptAV, intsAV, linksAV, iAV, h1])) | (apply awp_cond_t; focus (simp [tpAV, ptAV, intsAV, linksAV, iAV, h1]; done)) | (apply awp_cond_f; focus (simp [tpAV, ptAV, intsAV, linksAV, iAV, h1]; done)) | (refine awp_cond ?_; simp [tpAV, ptAV, intsAV, linksAV, iAV, h1]; refine ⟨?_, ?_⟩ <;> intro hc))
    all_goals (simp_all [hasB] <;> intros <;> omega)
theorem within_calls (n a b : Int) : PCalls Tryz.prog 205 [.raw (.int .i64 n), .raw (.int .i64 a), .raw (.int .i64 b)] (.raw (.bool (decide (a ≤ n) && decide (n ≤ b)))) := by
  refine pbody Tryz.func205 rfl (N := 15) rfl rfl (by simp) (by simp [noIds]) fun σ => ?_
  (try (first | (with_reducible refine dops_go ?_; simp) | (with_reducible refine OKv_go ?_; simp) | (with_reducible refine OKr_go ?_; simp))); repeat' (first | refine awp_seq ?_ | refine awp_block ?_ | (refine awp_skip ?_; try simp) | (refine awp_exit ?_; try simp) | (refine awp_ret ?_; try simp) | (refine retP_same (by simp) ?_; simp) | (refine retP_flat (by simp) (by simp) (by simp (maxDischargeDepth := 30)) ?_; simp) | (refine awp_reg ?_; simp) | (refine awp_drawT (fun _ => false) mixed (by decide +kernel) ?_; simp) | (refine guarded_split ?_ ?_ <;> (intro hg; simp only [hg]; simp)) | (apply awp_cond_t; focus (simp; done)) | (apply awp_cond_f; focus (simp; done)) | (refine awp_cond ?_; simp; refine ⟨?_, ?_⟩ <;> intro hc))
theorem refWithin_calls (n b : Int) : PCalls Tryz.prog 203 [.raw (.int .i64 n), .raw (.int .i64 b)] (.raw (.bool (decide (0 ≤ n) && decide (n ≤ b)))) := by
  refine pbody Tryz.func203 rfl (N := 12) rfl rfl (by simp) (by simp [noIds]) fun σ => ?_
  (try (first | (with_reducible refine dops_go ?_; simp) | (with_reducible refine OKv_go ?_; simp) | (with_reducible refine OKr_go ?_; simp))); repeat' (first | refine awp_seq ?_ | refine awp_block ?_ | (refine awp_skip ?_; try simp) | (refine awp_exit ?_; try simp) | (refine awp_ret ?_; try simp) | (refine retP_same (by simp) ?_; simp) | (refine retP_flat (by simp) (by simp) (by simp (maxDischargeDepth := 30)) ?_; simp) | (refine awp_reg ?_; simp) | (refine awp_drawT (fun _ => false) mixed (by decide +kernel) ?_; simp) | (refine guarded_split ?_ ?_ <;> (intro hg; simp only [hg]; simp)) | (apply awp_cond_t; focus (simp; done)) | (apply awp_cond_f; focus (simp; done)) | (refine awp_cond ?_; simp; refine ⟨?_, ?_⟩ <;> intro hc))
def takesB (r : Ru) (d a : Int) : Bool := decide (r.dev = d) && (decide (r.r.lo ≤ a) && decide (a ≤ r.r.hi))
theorem takes_calls (r : Ru) (d a : Int) : PCalls Tryz.prog 217 [ruAV r, .raw (.int .i64 d), .raw (.int .u32 a)] (.raw (.bool (takesB r d a))) := by
  refine pbody Tryz.func217 rfl (N := 25) rfl rfl (by simp) (by simp [noIds]) fun σ => ?_
  (try (first | (with_reducible refine dops_go ?_; simp [ruAV]) | (with_reducible refine OKv_go ?_; simp [ruAV]) | (with_reducible refine OKr_go ?_; simp [ruAV]))); repeat' (first | refine awp_seq ?_ | refine awp_block ?_ | (refine awp_skip ?_; try simp) | (refine awp_exit ?_; try simp) | (refine awp_ret ?_; try simp) | (refine retP_same (by simp) ?_; simp) | (refine retP_flat (by simp) (by simp) (by simp (maxDischargeDepth := 30) [ruAV]) ?_; simp) | (refine awp_reg ?_; simp [ruAV]) | (refine awp_drawT (fun _ => false) mixed (by decide +kernel) ?_; simp [ruAV]) | (refine guarded_split ?_ ?_ <;> (intro hg; simp only [hg]; simp [ruAV])) | (apply awp_cond_t; focus (simp [ruAV]; done)) | (apply awp_cond_f; focus (simp [ruAV]; done)) | (refine awp_cond ?_; simp [ruAV]; refine ⟨?_, ?_⟩ <;> intro hc))
  all_goals (simp_all [takesB] <;> intros <;> omega)
theorem isNaN_calls (a : Int) : PCalls Tryz.prog 191 [.raw (.int .i64 a)] (.raw (.bool false)) := by
  refine pbody Tryz.func191 rfl (N := 6) rfl rfl (by simp) (by simp [noIds]) fun σ => ?_
  (try (first | (with_reducible refine dops_go ?_; simp) | (with_reducible refine OKv_go ?_; simp) | (with_reducible refine OKr_go ?_; simp))); repeat' (first | refine awp_seq ?_ | refine awp_block ?_ | (refine awp_skip ?_; try simp) | (refine awp_exit ?_; try simp) | (refine awp_ret ?_; try simp) | (refine retP_same (by simp) ?_; simp) | (refine retP_flat (by simp) (by simp) (by simp (maxDischargeDepth := 30)) ?_; simp) | (refine awp_reg ?_; simp) | (refine awp_drawT (fun _ => false) mixed (by decide +kernel) ?_; simp) | (refine guarded_split ?_ ?_ <;> (intro hg; simp only [hg]; simp)) | (apply awp_cond_t; focus (simp; done)) | (apply awp_cond_f; focus (simp; done)) | (refine awp_cond ?_; simp; refine ⟨?_, ?_⟩ <;> intro hc))
def cmpI (a b : Int) : Int := if a < b then -1 else if b < a then 1 else 0
theorem compare_calls (a b : Int) : PCalls Tryz.prog 140 [.raw (.int .i64 a), .raw (.int .i64 b)] (.raw (.int .i64 (cmpI a b))) := by
  refine pbody Tryz.func140 rfl (N := 20) rfl rfl (by simp) (by simp [noIds]) fun σ => ?_
  (try (first | (with_reducible refine dops_go ?_; simp) | (with_reducible refine OKv_go ?_; simp) | (with_reducible refine OKr_go ?_; simp))); repeat' (first | refine awp_seq ?_ | refine awp_block ?_ | (refine awp_skip ?_; try simp) | (refine awp_exit ?_; try simp) | (refine awp_ret ?_; try simp) | (refine retP_same (by simp) ?_; simp) | (refine retP_flat (by simp) (by simp) (by simp (maxDischargeDepth := 30)) ?_; simp) | (refine awp_reg ?_; simp) | (refine awp_drawT (fun _ => false) mixed (by decide +kernel) ?_; simp) | (refine guarded_split ?_ ?_ <;> (intro hg; simp only [hg]; simp)) | (apply awp_cond_t; focus (simp; done)) | (apply awp_cond_f; focus (simp; done)) | (refine awp_cond ?_; simp; refine ⟨?_, ?_⟩ <;> intro hc))
  refine PCalls.use (isNaN_calls a) ?_
  (try (first | (with_reducible refine dops_go ?_; simp) | (with_reducible refine OKv_go ?_; simp) | (with_reducible refine OKr_go ?_; simp))); repeat' (first | refine awp_seq ?_ | refine awp_block ?_ | (refine awp_skip ?_; try simp) | (refine awp_exit ?_; try simp) | (refine awp_ret ?_; try simp) | (refine retP_same (by simp) ?_; simp) | (refine retP_flat (by simp) (by simp) (by simp (maxDischargeDepth := 30)) ?_; simp) | (refine awp_reg ?_; simp) | (refine awp_drawT (fun _ => false) mixed (by decide +kernel) ?_; simp) | (refine guarded_split ?_ ?_ <;> (intro hg; simp only [hg]; simp)) | (apply awp_cond_t; focus (simp; done)) | (apply awp_cond_f; focus (simp; done)) | (refine awp_cond ?_; simp; refine ⟨?_, ?_⟩ <;> intro hc))
  refine PCalls.use (isNaN_calls b) ?_
  (try (first | (with_reducible refine dops_go ?_; simp [cmpI]) | (with_reducible refine OKv_go ?_; simp [cmpI]) | (with_reducible refine OKr_go ?_; simp [cmpI]))); repeat' (first | refine awp_seq ?_ | refine awp_block ?_ | (refine awp_skip ?_; try simp) | (refine awp_exit ?_; try simp) | (refine awp_ret ?_; try simp) | (refine retP_same (by simp) ?_; simp) | (refine retP_flat (by simp) (by simp) (by simp (maxDischargeDepth := 30) [cmpI]) ?_; simp) | (refine awp_reg ?_; simp [cmpI]) | (refine awp_drawT (fun _ => false) mixed (by decide +kernel) ?_; simp [cmpI]) | (refine guarded_split ?_ ?_ <;> (intro hg; simp only [hg]; simp [cmpI])) | (apply awp_cond_t; focus (simp [cmpI]; done)) | (apply awp_cond_f; focus (simp [cmpI]; done)) | (refine awp_cond ?_; simp [cmpI]; refine ⟨?_, ?_⟩ <;> intro hc))
  all_goals (unfold cmpI; (repeat' split) <;> omega)
end Go.Proofs.YtanimmdlgmkmkaaGreat.Av


/- Networks: searching lists by a function. -/
namespace Go.Proofs.YtanimmdlgmkmkaaGreat.Av
open Go
set_option linter.unusedSimpArgs false
set_option linter.unusedVariables false
set_option maxRecDepth 100000
set_option maxHeartbeats 1000000
set_option pp.maxSteps 300

/-- The first that is asked for; -1: there is none. -/
def idxOf {T : Type} (p : T → Bool) (z : List T) : Int := if z.any p then (z.findIdx p : Nat) else -1
theorem idxOf_here {T : Type} {p : T → Bool} {z : List T} {i : Nat} {x : T} (hx : z[i]? = some x) (hp : p x = true) (hn : ∀ j, j < i → ∀ y, z[j]? = some y → p y = false) : idxOf p z = i := by
  unfold idxOf
  obtain ⟨hi, he⟩ := List.getElem?_eq_some_iff.1 hx
  rw [if_pos (List.any_eq_true.2 ⟨x, List.mem_of_getElem? hx, hp⟩)]
  congr 1
  rw [List.findIdx_eq hi]
  refine ⟨by rw [he]; exact hp, fun j hj => ?_⟩
  exact hn j hj _ (List.getElem?_eq_getElem (by omega))
theorem idxOf_none {T : Type} {p : T → Bool} {z : List T} (hn : ∀ j, j < z.length → ∀ y, z[j]? = some y → p y = false) : idxOf p z = -1 ∧ z.any p = false := by
  have : z.any p = false := by
    rw [List.any_eq_false]
    intro x hx
    obtain ⟨j, hj⟩ := List.getElem?_of_mem hx
    simp [hn j (List.getElem?_eq_some_iff.1 hj).1 x hj]
  exact ⟨by unfold idxOf; rw [this]; rfl, this⟩
theorem idxOf_any {T : Type} (p : T → Bool) (z : List T) : decide (0 ≤ idxOf p z) = z.any p := by
  unfold idxOf
  cases z.any p <;> simp
theorem ru_cells (r : Ru) : (ruAV r).cells = [.raw (.int .i64 r.id), .raw (.int .i64 r.dev), .raw (.int .i64 r.prio), .raw (.int .i64 r.kind), .raw (.int .u32 r.r.lo), .raw (.int .u32 r.r.hi), .raw (.int .i64 r.port)] := rfl
theorem lk_cells (l : Lk) : (lkAV l).cells = [.raw (.int .i64 l.a.dev), .raw (.int .i64 l.a.port), .raw (.int .i64 l.b.dev), .raw (.int .i64 l.b.port)] := rfl
theorem i_cells (n : Int) : (iAV n).cells = [.raw (.int .i64 n)] := rfl

theorem lkIndex_calls {g : FuncId} {caps : List AV} {p : Lk → Bool} (z : List Lk) (fz : Bool) (hl : z.length < 2 ^ 60) (hg : ∀ r ∈ z, PCalls Tryz.prog g (lkAV r :: caps) (.raw (.bool (p r)))) :
    PCalls Tryz.prog 204 [linksAV z fz, .fn (.func g) [] caps] (.raw (.int .i64 (idxOf p z))) := by
  refine pbody Tryz.func204 rfl (N := 19) rfl rfl (by simp) (by simp [noIds]) fun σ => ?_
  (try (first | (with_reducible refine dops_go ?_; simp [linksAV]) | (with_reducible refine OKv_go ?_; simp [linksAV]) | (with_reducible refine OKr_go ?_; simp [linksAV]))); repeat' (first | refine awp_seq ?_ | refine awp_block ?_ | (refine awp_skip ?_; try simp) | (refine awp_exit ?_; try simp) | (refine awp_ret ?_; try simp) | (refine retP_same (by simp) ?_; simp) | (refine retP_flat (by simp) (by simp) (by simp (maxDischargeDepth := 30) [linksAV]) ?_; simp) | (refine awp_reg ?_; simp [linksAV]) | (refine awp_drawT (fun _ => false) mixed (by decide +kernel) ?_; simp [linksAV]) | (refine guarded_split ?_ ?_ <;> (intro hg; simp only [hg]; simp [linksAV])) | (apply awp_cond_t; focus (simp [linksAV]; done)) | (apply awp_cond_f; focus (simp [linksAV]; done)) | (refine awp_cond ?_; simp [linksAV]; refine ⟨?_, ?_⟩ <;> intro hc))
  refine awp_loopH (fun n A τ => τ = σ ∧ A 0 = linksAV z fz ∧ A 1 = .fn (.func g) [] caps ∧ A 7 = .raw (.int .i64 z.length) ∧ ∃ i : Nat, A 8 = .raw (.int .i64 i) ∧ i ≤ z.length ∧ n = z.length - i ∧ ∀ j, j < i → ∀ y, z[j]? = some y → p y = false) z.length ?_ ?_
  · exact ⟨rfl, by simp [linksAV], by simp, by simp, 0, by simp, by omega, by omega, fun j h => by omega⟩
  rintro n A τ ⟨rfl, a0, a1, a7, i, a8, hi, rfl, hn⟩ I1 hI1
  by_cases hlt : i < z.length
  · have hx : z[i]? = some z[i] := List.getElem?_eq_getElem hlt
    have w1 : IntKind.i64.wrap ((i : Int) + 1) = ((i + 1 : Nat) : Int) := by rw [wrap64 (by omega) (by omega)]; omega
    have hr : AV.agg [.raw (.int .i64 z[i].a.dev), .raw (.int .i64 z[i].a.port), .raw (.int .i64 z[i].b.dev), .raw (.int .i64 z[i].b.port)] = lkAV z[i] := rfl
    (try (first | (with_reducible refine dops_go ?_; simp [linksAV, a0, a1, a7, a8, hlt, hx, lk_cells, hr]) | (with_reducible refine OKv_go ?_; simp [linksAV, a0, a1, a7, a8, hlt, hx, lk_cells, hr]) | (with_reducible refine OKr_go ?_; simp [linksAV, a0, a1, a7, a8, hlt, hx, lk_cells, hr]))); repeat' (first | refine awp_seq ?_ | refine awp_block ?_ | (refine awp_skip ?_; try simp) | (refine awp_exit ?_; try simp) | (refine awp_ret ?_; try simp) | (refine retP_same (by simp) ?_; simp) | (refine retP_flat (by simp) (by simp) (by simp (maxDischargeDepth := 30) [linksAV, a0, a1, a7, a8, hlt, hx, lk_cells, hr]) ?_; simp) | (refine awp_reg ?_; simp [linksAV, a0, a1, a7, a8, hlt, hx, lk_cells, hr]) | (refine awp_drawT (fun _ => false) mixed (by decide +kernel) ?_; simp [linksAV, a0, a1, a7, a8, hlt, hx, lk_cells, hr]) | (refine guarded_split ?_ ?_ <;> (intro hg; simp only [hg]; simp [linksAV, a0, a1, a7, a8, hlt, hx, lk_cells, hr])) | (apply awp_cond_t; focus (simp [linksAV, a0, a1, a7, a8, hlt, hx, lk_cells, hr]; done)) | (apply awp_cond_f; focus (simp [linksAV, a0, a1, a7, a8, hlt, hx, lk_cells, hr]; done)) | (refine awp_cond ?_; simp [linksAV, a0, a1, a7, a8, hlt, hx, lk_cells, hr]; refine ⟨?_, ?_⟩ <;> intro hc))
    refine PCalls.use (hg z[i] (List.getElem_mem _)) ?_
    cases hp : p z[i] with
    | true =>
      (try (first | (with_reducible refine dops_go ?_; simp [linksAV, a0, a1, a7, a8, hlt, hx, lk_cells, hr]) | (with_reducible refine OKv_go ?_; simp [linksAV, a0, a1, a7, a8, hlt, hx, lk_cells, hr]) | (with_reducible refine OKr_go ?_; simp [linksAV, a0, a1, a7, a8, hlt, hx, lk_cells, hr]))); repeat' (first | refine awp_seq ?_ | refine awp_block ?_ | (refine awp_skip ?_; try simp) | (refine awp_exit ?_; try simp) | (refine awp_ret ?_; try simp) | (refine retP_same (by simp) ?_; simp) | (refine retP_flat (by simp) (by simp) (by simp (maxDischargeDepth := 30) [linksAV, a0, a1, a7, a8, hlt, hx, lk_cells, hr]) ?_; simp) | (refine awp_reg ?_; simp [linksAV, a0, a1, a7, a8, hlt, hx, lk_cells, hr]) | (refine awp_drawT (fun _ => false) mixed (by decide +kernel) ?_; simp [linksAV, a0, a1, a7, a8, hlt, hx, lk_cells, hr]) | (refine guarded_split ?_ ?_ <;> (intro hg; simp only [hg]; simp [linksAV, a0, a1, a7, a8, hlt, hx, lk_cells, hr])) | (apply awp_cond_t; focus (simp [linksAV, a0, a1, a7, a8, hlt, hx, lk_cells, hr]; done)) | (apply awp_cond_f; focus (simp [linksAV, a0, a1, a7, a8, hlt, hx, lk_cells, hr]; done)) | (refine awp_cond ?_; simp [linksAV, a0, a1, a7, a8, hlt, hx, lk_cells, hr]; refine ⟨?_, ?_⟩ <;> intro hc))
      exact (idxOf_here hx hp hn).symm
    | false =>
      (try (first | (with_reducible refine dops_go ?_; simp [linksAV, a0, a1, a7, a8, hlt, hx, lk_cells, hr]) | (with_reducible refine OKv_go ?_; simp [linksAV, a0, a1, a7, a8, hlt, hx, lk_cells, hr]) | (with_reducible refine OKr_go ?_; simp [linksAV, a0, a1, a7, a8, hlt, hx, lk_cells, hr]))); repeat' (first | refine awp_seq ?_ | refine awp_block ?_ | (refine awp_skip ?_; try simp) | (refine awp_exit ?_; try simp) | (refine awp_ret ?_; try simp) | (refine retP_same (by simp) ?_; simp) | (refine retP_flat (by simp) (by simp) (by simp (maxDischargeDepth := 30) [linksAV, a0, a1, a7, a8, hlt, hx, lk_cells, hr]) ?_; simp) | (refine awp_reg ?_; simp [linksAV, a0, a1, a7, a8, hlt, hx, lk_cells, hr]) | (refine awp_drawT (fun _ => false) mixed (by decide +kernel) ?_; simp [linksAV, a0, a1, a7, a8, hlt, hx, lk_cells, hr]) | (refine guarded_split ?_ ?_ <;> (intro hg; simp only [hg]; simp [linksAV, a0, a1, a7, a8, hlt, hx, lk_cells, hr])) | (apply awp_cond_t; focus (simp [linksAV, a0, a1, a7, a8, hlt, hx, lk_cells, hr]; done)) | (apply awp_cond_f; focus (simp [linksAV, a0, a1, a7, a8, hlt, hx, lk_cells, hr]; done)) | (refine awp_cond ?_; simp [linksAV, a0, a1, a7, a8, hlt, hx, lk_cells, hr]; refine ⟨?_, ?_⟩ <;> intro hc))
      refine hI1 (z.length - (i + 1)) _ _ (by omega) ⟨rfl, by simp [a0], by simp [a1], by simp [a7], i + 1, by simp [w1], by omega, rfl, fun j hj y hy => ?_⟩
      by_cases e : j = i
      · subst e; rw [hx] at hy; injection hy with hy; subst hy; exact hp
      · exact hn j (by omega) y hy
  · have hi' : i = z.length := by omega
    subst hi'
    have w1 : IntKind.i64.wrap (-1) = -1 := wrap64 (by omega) (by omega)
    (try (first | (with_reducible refine dops_go ?_; simp [linksAV, a0, a1, a7, a8, w1]) | (with_reducible refine OKv_go ?_; simp [linksAV, a0, a1, a7, a8, w1]) | (with_reducible refine OKr_go ?_; simp [linksAV, a0, a1, a7, a8, w1]))); repeat' (first | refine awp_seq ?_ | refine awp_block ?_ | (refine awp_skip ?_; try simp) | (refine awp_exit ?_; try simp) | (refine awp_ret ?_; try simp) | (refine retP_same (by simp) ?_; simp) | (refine retP_flat (by simp) (by simp) (by simp (maxDischargeDepth := 30) [linksAV, a0, a1, a7, a8, w1]) ?_; simp) | (refine awp_reg ?_; simp [linksAV, a0, a1, a7, a8, w1]) | (refine awp_drawT (fun _ => false) mixed (by decide +kernel) ?_; simp [linksAV, a0, a1, a7, a8, w1]) | (refine guarded_split ?_ ?_ <;> (intro hg; simp only [hg]; simp [linksAV, a0, a1, a7, a8, w1])) | (apply awp_cond_t; focus (simp [linksAV, a0, a1, a7, a8, w1]; done)) | (apply awp_cond_f; focus (simp [linksAV, a0, a1, a7, a8, w1]; done)) | (refine awp_cond ?_; simp [linksAV, a0, a1, a7, a8, w1]; refine ⟨?_, ?_⟩ <;> intro hc))
    exact (idxOf_none hn).1.symm
theorem lkContains_calls {g : FuncId} {caps : List AV} {p : Lk → Bool} (z : List Lk) (fz : Bool) (hl : z.length < 2 ^ 60) (hg : ∀ r ∈ z, PCalls Tryz.prog g (lkAV r :: caps) (.raw (.bool (p r)))) :
    PCalls Tryz.prog 174 [linksAV z fz, .fn (.func g) [] caps] (.raw (.bool (z.any p))) := by
  refine pbody Tryz.func174 rfl (N := 9) rfl rfl (by simp) (by simp [noIds]) fun σ => ?_
  (try (first | (with_reducible refine dops_go ?_; simp) | (with_reducible refine OKv_go ?_; simp) | (with_reducible refine OKr_go ?_; simp))); repeat' (first | refine awp_seq ?_ | refine awp_block ?_ | (refine awp_skip ?_; try simp) | (refine awp_exit ?_; try simp) | (refine awp_ret ?_; try simp) | (refine retP_same (by simp) ?_; simp) | (refine retP_flat (by simp) (by simp) (by simp (maxDischargeDepth := 30)) ?_; simp) | (refine awp_reg ?_; simp) | (refine awp_drawT (fun _ => false) mixed (by decide +kernel) ?_; simp) | (refine guarded_split ?_ ?_ <;> (intro hg; simp only [hg]; simp)) | (apply awp_cond_t; focus (simp; done)) | (apply awp_cond_f; focus (simp; done)) | (refine awp_cond ?_; simp; refine ⟨?_, ?_⟩ <;> intro hc))
  refine PCalls.use (lkIndex_calls z fz hl hg) ?_
  have := idxOf_any p z
  (try (first | (with_reducible refine dops_go ?_; simp) | (with_reducible refine OKv_go ?_; simp) | (with_reducible refine OKr_go ?_; simp))); repeat' (first | refine awp_seq ?_ | refine awp_block ?_ | (refine awp_skip ?_; try simp) | (refine awp_exit ?_; try simp) | (refine awp_ret ?_; try simp) | (refine retP_same (by simp) ?_; simp) | (refine retP_flat (by simp) (by simp) (by simp (maxDischargeDepth := 30)) ?_; simp) | (refine awp_reg ?_; simp) | (refine awp_drawT (fun _ => false) mixed (by decide +kernel) ?_; simp) | (refine guarded_split ?_ ?_ <;> (intro hg; simp only [hg]; simp)) | (apply awp_cond_t; focus (simp; done)) | (apply awp_cond_f; focus (simp; done)) | (refine awp_cond ?_; simp; refine ⟨?_, ?_⟩ <;> intro hc))
  simpa using this

theorem ruIndex_calls {g : FuncId} {caps : List AV} {p : Ru → Bool} (z : List Ru) (fz : Bool) (hl : z.length < 2 ^ 60) (hg : ∀ r ∈ z, PCalls Tryz.prog g (ruAV r :: caps) (.raw (.bool (p r)))) :
    PCalls Tryz.prog 206 [rulesAV z fz, .fn (.func g) [] caps] (.raw (.int .i64 (idxOf p z))) := by
  refine pbody Tryz.func206 rfl (N := 19) rfl rfl (by simp) (by simp [noIds]) fun σ => ?_
  (try (first | (with_reducible refine dops_go ?_; simp [rulesAV]) | (with_reducible refine OKv_go ?_; simp [rulesAV]) | (with_reducible refine OKr_go ?_; simp [rulesAV]))); repeat' (first | refine awp_seq ?_ | refine awp_block ?_ | (refine awp_skip ?_; try simp) | (refine awp_exit ?_; try simp) | (refine awp_ret ?_; try simp) | (refine retP_same (by simp) ?_; simp) | (refine retP_flat (by simp) (by simp) (by simp (maxDischargeDepth := 30) [rulesAV]) ?_; simp) | (refine awp_reg ?_; simp [rulesAV]) | (refine awp_drawT (fun _ => false) mixed (by decide +kernel) ?_; simp [rulesAV]) | (refine guarded_split ?_ ?_ <;> (intro hg; simp only [hg]; simp [rulesAV])) | (apply awp_cond_t; focus (simp [rulesAV]; done)) | (apply awp_cond_f; focus (simp [rulesAV]; done)) | (refine awp_cond ?_; simp [rulesAV]; refine ⟨?_, ?_⟩ <;> intro hc))
  refine awp_loopH (fun n A τ => τ = σ ∧ A 0 = rulesAV z fz ∧ A 1 = .fn (.func g) [] caps ∧ A 7 = .raw (.int .i64 z.length) ∧ ∃ i : Nat, A 8 = .raw (.int .i64 i) ∧ i ≤ z.length ∧ n = z.length - i ∧ ∀ j, j < i → ∀ y, z[j]? = some y → p y = false) z.length ?_ ?_
  · exact ⟨rfl, by simp [rulesAV], by simp, by simp, 0, by simp, by omega, by omega, fun j h => by omega⟩
  rintro n A τ ⟨rfl, a0, a1, a7, i, a8, hi, rfl, hn⟩ I1 hI1
  by_cases hlt : i < z.length
  · have hx : z[i]? = some z[i] := List.getElem?_eq_getElem hlt
    have w1 : IntKind.i64.wrap ((i : Int) + 1) = ((i + 1 : Nat) : Int) := by rw [wrap64 (by omega) (by omega)]; omega
    have hr : AV.agg [.raw (.int .i64 z[i].id), .raw (.int .i64 z[i].dev), .raw (.int .i64 z[i].prio), .raw (.int .i64 z[i].kind), .raw (.int .u32 z[i].r.lo), .raw (.int .u32 z[i].r.hi), .raw (.int .i64 z[i].port)] = ruAV z[i] := rfl
    (try (first | (with_reducible refine dops_go ?_; simp [rulesAV, a0, a1, a7, a8, hlt, hx, ru_cells, hr]) | (with_reducible refine OKv_go ?_; simp [rulesAV, a0, a1, a7, a8, hlt, hx, ru_cells, hr]) | (with_reducible refine OKr_go ?_; simp [rulesAV, a0, a1, a7, a8, hlt, hx, ru_cells, hr]))); repeat' (first | refine awp_seq ?_ | refine awp_block ?_ | (refine awp_skip ?_; try simp) | (refine awp_exit ?_; try simp) | (refine awp_ret ?_; try simp) | (refine retP_same (by simp) ?_; simp) | (refine retP_flat (by simp) (by simp) (by simp (maxDischargeDepth := 30) [rulesAV, a0, a1, a7, a8, hlt, hx, ru_cells, hr]) ?_; simp) | (refine awp_reg ?_; simp [rulesAV, a0, a1, a7, a8, hlt, hx, ru_cells, hr]) | (refine awp_drawT (fun _ => false) mixed (by decide +kernel) ?_; simp [rulesAV, a0, a1, a7, a8, hlt, hx, ru_cells, hr]) | (refine guarded_split ?_ ?_ <;> (intro hg; simp only [hg]; simp [rulesAV, a0, a1, a7, a8, hlt, hx, ru_cells, hr])) | (apply awp_cond_t; focus (simp [rulesAV, a0, a1, a7, a8, hlt, hx, ru_cells, hr]; done)) | (apply awp_cond_f; focus (simp [rulesAV, a0, a1, a7, a8, hlt, hx, ru_cells, hr]; done)) | (refine awp_cond ?_; simp [rulesAV, a0, a1, a7, a8, hlt, hx, ru_cells, hr]; refine ⟨?_, ?_⟩ <;> intro hc))
    refine PCalls.use (hg z[i] (List.getElem_mem _)) ?_
    cases hp : p z[i] with
    | true =>
      (try (first | (with_reducible refine dops_go ?_; simp [rulesAV, a0, a1, a7, a8, hlt, hx, ru_cells, hr]) | (with_reducible refine OKv_go ?_; simp [rulesAV, a0, a1, a7, a8, hlt, hx, ru_cells, hr]) | (with_reducible refine OKr_go ?_; simp [rulesAV, a0, a1, a7, a8, hlt, hx, ru_cells, hr]))); repeat' (first | refine awp_seq ?_ | refine awp_block ?_ | (refine awp_skip ?_; try simp) | (refine awp_exit ?_; try simp) | (refine awp_ret ?_; try simp) | (refine retP_same (by simp) ?_; simp) | (refine retP_flat (by simp) (by simp) (by simp (maxDischargeDepth := 30) [rulesAV, a0, a1, a7, a8, hlt, hx, ru_cells, hr]) ?_; simp) | (refine awp_reg ?_; simp [rulesAV, a0, a1, a7, a8, hlt, hx, ru_cells, hr]) | (refine awp_drawT (fun _ => false) mixed (by decide +kernel) ?_; simp [rulesAV, a0, a1, a7, a8, hlt, hx, ru_cells, hr]) | (refine guarded_split ?_ ?_ <;> (intro hg; simp only [hg]; simp [rulesAV, a0, a1, a7, a8, hlt, hx, ru_cells, hr])) | (apply awp_cond_t; focus (simp [rulesAV, a0, a1, a7, a8, hlt, hx, ru_cells, hr]; done)) | (apply awp_cond_f; focus (simp [rulesAV, a0, a1, a7, a8, hlt, hx, ru_cells, hr]; done)) | (refine awp_cond ?_; simp [rulesAV, a0, a1, a7, a8, hlt, hx, ru_cells, hr]; refine ⟨?_, ?_⟩ <;> intro hc))
      exact (idxOf_here hx hp hn).symm
    | false =>
      (try (first | (with_reducible refine dops_go ?_; simp [rulesAV, a0, a1, a7, a8, hlt, hx, ru_cells, hr]) | (with_reducible refine OKv_go ?_; simp [rulesAV, a0, a1, a7, a8, hlt, hx, ru_cells, hr]) | (with_reducible refine OKr_go ?_; simp [rulesAV, a0, a1, a7, a8, hlt, hx, ru_cells, hr]))); repeat' (first | refine awp_seq ?_ | refine awp_block ?_ | (refine awp_skip ?_; try simp) | (refine awp_exit ?_; try simp) | (refine awp_ret ?_; try simp) | (refine retP_same (by simp) ?_; simp) | (refine retP_flat (by simp) (by simp) (by simp (maxDischargeDepth := 30) [rulesAV, a0, a1, a7, a8, hlt, hx, ru_cells, hr]) ?_; simp) | (refine awp_reg ?_; simp [rulesAV, a0, a1, a7, a8, hlt, hx, ru_cells, hr]) | (refine awp_drawT (fun _ => false) mixed (by decide +kernel) ?_; simp [rulesAV, a0, a1, a7, a8, hlt, hx, ru_cells, hr]) | (refine guarded_split ?_ ?_ <;> (intro hg; simp only [hg]; simp [rulesAV, a0, a1, a7, a8, hlt, hx, ru_cells, hr])) | (apply awp_cond_t; focus (simp [rulesAV, a0, a1, a7, a8, hlt, hx, ru_cells, hr]; done)) | (apply awp_cond_f; focus (simp [rulesAV, a0, a1, a7, a8, hlt, hx, ru_cells, hr]; done)) | (refine awp_cond ?_; simp [rulesAV, a0, a1, a7, a8, hlt, hx, ru_cells, hr]; refine ⟨?_, ?_⟩ <;> intro hc))
      refine hI1 (z.length - (i + 1)) _ _ (by omega) ⟨rfl, by simp [a0], by simp [a1], by simp [a7], i + 1, by simp [w1], by omega, rfl, fun j hj y hy => ?_⟩
      by_cases e : j = i
      · subst e; rw [hx] at hy; injection hy with hy; subst hy; exact hp
      · exact hn j (by omega) y hy
  · have hi' : i = z.length := by omega
    subst hi'
    have w1 : IntKind.i64.wrap (-1) = -1 := wrap64 (by omega) (by omega)
    (try (first | (with_reducible refine dops_go ?_; simp [rulesAV, a0, a1, a7, a8, w1]) | (with_reducible refine OKv_go ?_; simp [rulesAV, a0, a1, a7, a8, w1]) | (with_reducible refine OKr_go ?_; simp [rulesAV, a0, a1, a7, a8, w1]))); repeat' (first | refine awp_seq ?_ | refine awp_block ?_ | (refine awp_skip ?_; try simp) | (refine awp_exit ?_; try simp) | (refine awp_ret ?_; try simp) | (refine retP_same (by simp) ?_; simp) | (refine retP_flat (by simp) (by simp) (by simp (maxDischargeDepth := 30) [rulesAV, a0, a1, a7, a8, w1]) ?_; simp) | (refine awp_reg ?_; simp [rulesAV, a0, a1, a7, a8, w1]) | (refine awp_drawT (fun _ => false) mixed (by decide +kernel) ?_; simp [rulesAV, a0, a1, a7, a8, w1]) | (refine guarded_split ?_ ?_ <;> (intro hg; simp only [hg]; simp [rulesAV, a0, a1, a7, a8, w1])) | (apply awp_cond_t; focus (simp [rulesAV, a0, a1, a7, a8, w1]; done)) | (apply awp_cond_f; focus (simp [rulesAV, a0, a1, a7, a8, w1]; done)) | (refine awp_cond ?_; simp [rulesAV, a0, a1, a7, a8, w1]; refine ⟨?_, ?_⟩ <;> intro hc))
    exact (idxOf_none hn).1.symm
theorem ruContains_calls {g : FuncId} {caps : List AV} {p : Ru → Bool} (z : List Ru) (fz : Bool) (hl : z.length < 2 ^ 60) (hg : ∀ r ∈ z, PCalls Tryz.prog g (ruAV r :: caps) (.raw (.bool (p r)))) :
    PCalls Tryz.prog 179 [rulesAV z fz, .fn (.func g) [] caps] (.raw (.bool (z.any p))) := by
  refine pbody Tryz.func179 rfl (N := 9) rfl rfl (by simp) (by simp [noIds]) fun σ => ?_
  (try (first | (with_reducible refine dops_go ?_; simp) | (with_reducible refine OKv_go ?_; simp) | (with_reducible refine OKr_go ?_; simp))); repeat' (first | refine awp_seq ?_ | refine awp_block ?_ | (refine awp_skip ?_; try simp) | (refine awp_exit ?_; try simp) | (refine awp_ret ?_; try simp) | (refine retP_same (by simp) ?_; simp) | (refine retP_flat (by simp) (by simp) (by simp (maxDischargeDepth := 30)) ?_; simp) | (refine awp_reg ?_; simp) | (refine awp_drawT (fun _ => false) mixed (by decide +kernel) ?_; simp) | (refine guarded_split ?_ ?_ <;> (intro hg; simp only [hg]; simp)) | (apply awp_cond_t; focus (simp; done)) | (apply awp_cond_f; focus (simp; done)) | (refine awp_cond ?_; simp; refine ⟨?_, ?_⟩ <;> intro hc))
  refine PCalls.use (ruIndex_calls z fz hl hg) ?_
  have := idxOf_any p z
  (try (first | (with_reducible refine dops_go ?_; simp) | (with_reducible refine OKv_go ?_; simp) | (with_reducible refine OKr_go ?_; simp))); repeat' (first | refine awp_seq ?_ | refine awp_block ?_ | (refine awp_skip ?_; try simp) | (refine awp_exit ?_; try simp) | (refine awp_ret ?_; try simp) | (refine retP_same (by simp) ?_; simp) | (refine retP_flat (by simp) (by simp) (by simp (maxDischargeDepth := 30)) ?_; simp) | (refine awp_reg ?_; simp) | (refine awp_drawT (fun _ => false) mixed (by decide +kernel) ?_; simp) | (refine guarded_split ?_ ?_ <;> (intro hg; simp only [hg]; simp)) | (apply awp_cond_t; focus (simp; done)) | (apply awp_cond_f; focus (simp; done)) | (refine awp_cond ?_; simp; refine ⟨?_, ?_⟩ <;> intro hc))
  simpa using this

theorem intIndex_calls {g : FuncId} {caps : List AV} {p : Int → Bool} (z : List Int) (fz : Bool) (hl : z.length < 2 ^ 60) (hg : ∀ r ∈ z, PCalls Tryz.prog g (iAV r :: caps) (.raw (.bool (p r)))) :
    PCalls Tryz.prog 115 [intsAV z fz, .fn (.func g) [] caps] (.raw (.int .i64 (idxOf p z))) := by
  refine pbody Tryz.func115 rfl (N := 19) rfl rfl (by simp) (by simp [noIds]) fun σ => ?_
  (try (first | (with_reducible refine dops_go ?_; simp [intsAV]) | (with_reducible refine OKv_go ?_; simp [intsAV]) | (with_reducible refine OKr_go ?_; simp [intsAV]))); repeat' (first | refine awp_seq ?_ | refine awp_block ?_ | (refine awp_skip ?_; try simp) | (refine awp_exit ?_; try simp) | (refine awp_ret ?_; try simp) | (refine retP_same (by simp) ?_; simp) | (refine retP_flat (by simp) (by simp) (by simp (maxDischargeDepth := 30) [intsAV]) ?_; simp) | (refine awp_reg ?_; simp [intsAV]) | (refine awp_drawT (fun _ => false) mixed (by decide +kernel) ?_; simp [intsAV]) | (refine guarded_split ?_ ?_ <;> (intro hg; simp only [hg]; simp [intsAV])) | (apply awp_cond_t; focus (simp [intsAV]; done)) | (apply awp_cond_f; focus (simp [intsAV]; done)) | (refine awp_cond ?_; simp [intsAV]; refine ⟨?_, ?_⟩ <;> intro hc))
  refine awp_loopH (fun n A τ => τ = σ ∧ A 0 = intsAV z fz ∧ A 1 = .fn (.func g) [] caps ∧ A 7 = .raw (.int .i64 z.length) ∧ ∃ i : Nat, A 8 = .raw (.int .i64 i) ∧ i ≤ z.length ∧ n = z.length - i ∧ ∀ j, j < i → ∀ y, z[j]? = some y → p y = false) z.length ?_ ?_
  · exact ⟨rfl, by simp [intsAV], by simp, by simp, 0, by simp, by omega, by omega, fun j h => by omega⟩
  rintro n A τ ⟨rfl, a0, a1, a7, i, a8, hi, rfl, hn⟩ I1 hI1
  by_cases hlt : i < z.length
  · have hx : z[i]? = some z[i] := List.getElem?_eq_getElem hlt
    have w1 : IntKind.i64.wrap ((i : Int) + 1) = ((i + 1 : Nat) : Int) := by rw [wrap64 (by omega) (by omega)]; omega
    have hr : AV.raw (.int .i64 z[i]) = iAV z[i] := rfl
    (try (first | (with_reducible refine dops_go ?_; simp [intsAV, a0, a1, a7, a8, hlt, hx, i_cells, hr]) | (with_reducible refine OKv_go ?_; simp [intsAV, a0, a1, a7, a8, hlt, hx, i_cells, hr]) | (with_reducible refine OKr_go ?_; simp [intsAV, a0, a1, a7, a8, hlt, hx, i_cells, hr]))); repeat' (first | refine awp_seq ?_ | refine awp_block ?_ | (refine awp_skip ?_; try simp) | (refine awp_exit ?_; try simp) | (refine awp_ret ?_; try simp) | (refine retP_same (by simp) ?_; simp) | (refine retP_flat (by simp) (by simp) (by simp (maxDischargeDepth := 30) [intsAV, a0, a1, a7, a8, hlt, hx, i_cells, hr]) ?_; simp) | (refine awp_reg ?_; simp [intsAV, a0, a1, a7, a8, hlt, hx, i_cells, hr]) | (refine awp_drawT (fun _ => false) mixed (by decide +kernel) ?_; simp [intsAV, a0, a1, a7, a8, hlt, hx, i_cells, hr]) | (refine guarded_split ?_ ?_ <;> (intro hg; simp only [hg]; simp [intsAV, a0, a1, a7, a8, hlt, hx, i_cells, hr])) | (apply awp_cond_t; focus (simp [intsAV, a0, a1, a7, a8, hlt, hx, i_cells, hr]; done)) | (apply awp_cond_f; focus (simp [intsAV, a0, a1, a7, a8, hlt, hx, i_cells, hr]; done)) | (refine awp_cond ?_; simp [intsAV, a0, a1, a7, a8, hlt, hx, i_cells, hr]; refine ⟨?_, ?_⟩ <;> intro hc))
    refine PCalls.use (hg z[i] (List.getElem_mem _)) ?_
    cases hp : p z[i] with
    | true =>
      (try (first | (with_reducible refine dops_go ?_; simp [intsAV, a0, a1, a7, a8, hlt, hx, i_cells, hr]) | (with_reducible refine OKv_go ?_; simp [intsAV, a0, a1, a7, a8, hlt, hx, i_cells, hr]) | (with_reducible refine OKr_go ?_; simp [intsAV, a0, a1, a7, a8, hlt, hx, i_cells, hr]))); repeat' (first | refine awp_seq ?_ | refine awp_block ?_ | (refine awp_skip ?_; try simp) | (refine awp_exit ?_; try simp) | (refine awp_ret ?_; try simp) | (refine retP_same (by simp) ?_; simp) | (refine retP_flat (by simp) (by simp) (by simp (maxDischargeDepth := 30) [intsAV, a0, a1, a7, a8, hlt, hx, i_cells, hr]) ?_; simp) | (refine awp_reg ?_; simp [intsAV, a0, a1, a7, a8, hlt, hx, i_cells, hr]) | (refine awp_drawT (fun _ => false) mixed (by decide +kernel) ?_; simp [intsAV, a0, a1, a7, a8, hlt, hx, i_cells, hr]) | (refine guarded_split ?_ ?_ <;> (intro hg; simp only [hg]; simp [intsAV, a0, a1, a7, a8, hlt, hx, i_cells, hr])) | (apply awp_cond_t; focus (simp [intsAV, a0, a1, a7, a8, hlt, hx, i_cells, hr]; done)) | (apply awp_cond_f; focus (simp [intsAV, a0, a1, a7, a8, hlt, hx, i_cells, hr]; done)) | (refine awp_cond ?_; simp [intsAV, a0, a1, a7, a8, hlt, hx, i_cells, hr]; refine ⟨?_, ?_⟩ <;> intro hc))
      exact (idxOf_here hx hp hn).symm
    | false =>
      (try (first | (with_reducible refine dops_go ?_; simp [intsAV, a0, a1, a7, a8, hlt, hx, i_cells, hr]) | (with_reducible refine OKv_go ?_; simp [intsAV, a0, a1, a7, a8, hlt, hx, i_cells, hr]) | (with_reducible refine OKr_go ?_; simp [intsAV, a0, a1, a7, a8, hlt, hx, i_cells, hr]))); repeat' (first | refine awp_seq ?_ | refine awp_block ?_ | (refine awp_skip ?_; try simp) | (refine awp_exit ?_; try simp) | (refine awp_ret ?_; try simp) | (refine retP_same (by simp) ?_; simp) | (refine retP_flat (by simp) (by simp) (by simp (maxDischargeDepth := 30) [intsAV, a0, a1, a7, a8, hlt, hx, i_cells, hr]) ?_; simp) | (refine awp_reg ?_; simp [intsAV, a0, a1, a7, a8, hlt, hx, i_cells, hr]) | (refine awp_drawT (fun _ => false) mixed (by decide +kernel) ?_; simp [intsAV, a0, a1, a7, a8, hlt, hx, i_cells, hr]) | (refine guarded_split ?_ ?_ <;> (intro hg; simp only [hg]; simp [intsAV, a0, a1, a7, a8, hlt, hx, i_cells, hr])) | (apply awp_cond_t; focus (simp [intsAV, a0, a1, a7, a8, hlt, hx, i_cells, hr]; done)) | (apply awp_cond_f; focus (simp [intsAV, a0, a1, a7, a8, hlt, hx, i_cells, hr]; done)) | (refine awp_cond ?_; simp [intsAV, a0, a1, a7, a8, hlt, hx, i_cells, hr]; refine ⟨?_, ?_⟩ <;> intro hc))
      refine hI1 (z.length - (i + 1)) _ _ (by omega) ⟨rfl, by simp [a0], by simp [a1], by simp [a7], i + 1, by simp [w1], by omega, rfl, fun j hj y hy => ?_⟩
      by_cases e : j = i
      · subst e; rw [hx] at hy; injection hy with hy; subst hy; exact hp
      · exact hn j (by omega) y hy
  · have hi' : i = z.length := by omega
    subst hi'
    have w1 : IntKind.i64.wrap (-1) = -1 := wrap64 (by omega) (by omega)
    (try (first | (with_reducible refine dops_go ?_; simp [intsAV, a0, a1, a7, a8, w1]) | (with_reducible refine OKv_go ?_; simp [intsAV, a0, a1, a7, a8, w1]) | (with_reducible refine OKr_go ?_; simp [intsAV, a0, a1, a7, a8, w1]))); repeat' (first | refine awp_seq ?_ | refine awp_block ?_ | (refine awp_skip ?_; try simp) | (refine awp_exit ?_; try simp) | (refine awp_ret ?_; try simp) | (refine retP_same (by simp) ?_; simp) | (refine retP_flat (by simp) (by simp) (by simp (maxDischargeDepth := 30) [intsAV, a0, a1, a7, a8, w1]) ?_; simp) | (refine awp_reg ?_; simp [intsAV, a0, a1, a7, a8, w1]) | (refine awp_drawT (fun _ => false) mixed (by decide +kernel) ?_; simp [intsAV, a0, a1, a7, a8, w1]) | (refine guarded_split ?_ ?_ <;> (intro hg; simp only [hg]; simp [intsAV, a0, a1, a7, a8, w1])) | (apply awp_cond_t; focus (simp [intsAV, a0, a1, a7, a8, w1]; done)) | (apply awp_cond_f; focus (simp [intsAV, a0, a1, a7, a8, w1]; done)) | (refine awp_cond ?_; simp [intsAV, a0, a1, a7, a8, w1]; refine ⟨?_, ?_⟩ <;> intro hc))
    exact (idxOf_none hn).1.symm
theorem intContains_calls {g : FuncId} {caps : List AV} {p : Int → Bool} (z : List Int) (fz : Bool) (hl : z.length < 2 ^ 60) (hg : ∀ r ∈ z, PCalls Tryz.prog g (iAV r :: caps) (.raw (.bool (p r)))) :
    PCalls Tryz.prog 63 [intsAV z fz, .fn (.func g) [] caps] (.raw (.bool (z.any p))) := by
  refine pbody Tryz.func63 rfl (N := 9) rfl rfl (by simp) (by simp [noIds]) fun σ => ?_
  (try (first | (with_reducible refine dops_go ?_; simp) | (with_reducible refine OKv_go ?_; simp) | (with_reducible refine OKr_go ?_; simp))); repeat' (first | refine awp_seq ?_ | refine awp_block ?_ | (refine awp_skip ?_; try simp) | (refine awp_exit ?_; try simp) | (refine awp_ret ?_; try simp) | (refine retP_same (by simp) ?_; simp) | (refine retP_flat (by simp) (by simp) (by simp (maxDischargeDepth := 30)) ?_; simp) | (refine awp_reg ?_; simp) | (refine awp_drawT (fun _ => false) mixed (by decide +kernel) ?_; simp) | (refine guarded_split ?_ ?_ <;> (intro hg; simp only [hg]; simp)) | (apply awp_cond_t; focus (simp; done)) | (apply awp_cond_f; focus (simp; done)) | (refine awp_cond ?_; simp; refine ⟨?_, ?_⟩ <;> intro hc))
  refine PCalls.use (intIndex_calls z fz hl hg) ?_
  have := idxOf_any p z
  (try (first | (with_reducible refine dops_go ?_; simp) | (with_reducible refine OKv_go ?_; simp) | (with_reducible refine OKr_go ?_; simp))); repeat' (first | refine awp_seq ?_ | refine awp_block ?_ | (refine awp_skip ?_; try simp) | (refine awp_exit ?_; try simp) | (refine awp_ret ?_; try simp) | (refine retP_same (by simp) ?_; simp) | (refine retP_flat (by simp) (by simp) (by simp (maxDischargeDepth := 30)) ?_; simp) | (refine awp_reg ?_; simp) | (refine awp_drawT (fun _ => false) mixed (by decide +kernel) ?_; simp) | (refine guarded_split ?_ ?_ <;> (intro hg; simp only [hg]; simp)) | (apply awp_cond_t; focus (simp; done)) | (apply awp_cond_f; focus (simp; done)) | (refine awp_cond ?_; simp; refine ⟨?_, ?_⟩ <;> intro hc))
  simpa using this
end Go.Proofs.YtanimmdlgmkmkaaGreat.Av


/- Networks: lists that are alike. -/
namespace Go.Proofs.YtanimmdlgmkmkaaGreat.Av
open Go
set_option linter.unusedSimpArgs false
set_option linter.unusedVariables false
set_option maxRecDepth 100000
set_option maxHeartbeats 2000000
set_option pp.maxSteps 300

theorem take_eq {T : Type} [DecidableEq T] {x y : List T} {i : Nat} (h : x.take i = y.take i) {a : T} (hx : x[i]? = some a) (hy : y[i]? = some a) : x.take (i + 1) = y.take (i + 1) := by
  rw [List.take_add_one, List.take_add_one, h, hx, hy]

end Go.Proofs.YtanimmdlgmkmkaaGreat.Av


/- Networks: the ports that are joined. -/
namespace Go.Proofs.YtanimmdlgmkmkaaGreat.Av
open Go
set_option linter.unusedSimpArgs false
set_option linter.unusedVariables false
set_option maxRecDepth 100000
set_option maxHeartbeats 2000000
set_option pp.maxSteps 300

def ptV (p : Pt) : Value := .agg #[.int .i64 p.dev, .int .i64 p.port]
def enc (m : List (Pt × Pt)) : List (Value × AV) := m.map fun e => (ptV e.1, ptAV e.2)
def upd (m : List (Pt × Pt)) (k v : Pt) : List (Pt × Pt) := m.filter (fun e => decide (k ≠ e.1)) ++ [(k, v)]
theorem key_eq (k q : Pt) : structEq Tryz.prog 4 41 (ptAV k) (constAV (ptV q)) = some (decide (k = q)) := by
  have : decide (k = q) = (decide (k.dev = q.dev) && decide (k.port = q.port)) := by
    cases k; cases q; simp
  rw [this]
  simp [structEq, ptAV, ptV, fieldsEq, rowLoad, cellEq, constCell]
theorem split_pt (k : Pt) : ∀ m : List (Pt × Pt), splitM Tryz.prog 41 (ptAV k) (enc m) = some (enc (m.filter fun e => decide (k = e.1)), enc (m.filter fun e => decide (k ≠ e.1)))
  | [] => rfl
  | e :: m => by
    have ih := split_pt k m
    simp only [enc, List.map_cons] at ih ⊢
    simp only [splitM, key_eq]
    by_cases h : k = e.1
    · simp [h] at ih ⊢; rw [ih]
    · simp [h] at ih ⊢; rw [ih]
def keysN (m : List (Pt × Pt)) : Prop := (m.map (·.1)).Nodup
theorem one_key {m : List (Pt × Pt)} (h : keysN m) (k : Pt) : (m.filter fun e => decide (k = e.1)) = [] ∨ ∃ v, (m.filter fun e => decide (k = e.1)) = [(k, v)] := by
  induction m with
  | nil => exact .inl rfl
  | cons e m ih =>
    have h' := List.nodup_cons.1 (show (e.1 :: m.map (·.1)).Nodup from h)
    by_cases hk : k = e.1
    · right
      refine ⟨e.2, ?_⟩
      have : (m.filter fun e => decide (k = e.1)) = [] := by
        rw [List.filter_eq_nil_iff]
        intro x hx hkx
        simp only [decide_eq_true_eq] at hkx
        exact h'.1 (by rw [← hk, hkx]; exact List.mem_map.2 ⟨x, hx, rfl⟩)
      rw [List.filter_cons_of_pos (by simp [hk]), this, hk]
    · rw [List.filter_cons_of_neg (by simpa using hk)]
      exact ih h'.2
theorem keys_upd {m : List (Pt × Pt)} (h : keysN m) (k v : Pt) : keysN (upd m k v) := by
  unfold keysN upd at *
  rw [List.map_append, List.nodup_append]
  refine ⟨h.sublist (List.Sublist.map _ List.filter_sublist), by simp, fun a ha b hb e => ?_⟩
  simp only [List.map_cons, List.map_nil, List.mem_singleton] at hb
  subst hb; subst e
  obtain ⟨x, hx, rfl⟩ := List.mem_map.1 ha
  simpa using (List.mem_filter.1 hx).2
theorem bits_pt (k : Pt) : Instr.sameBits 10000 (ptV k) (ptV k) = true := by
  have : (10000 : Nat) = 9999 + 1 := rfl
  rw [this]
  simp [ptV, Instr.sameBits]
theorem check_pt (k : Pt) : checkA Tryz.prog 41 (ptAV k) = true := by simp [checkA, ptAV, rowLoad]
theorem opUpd {m : Mem} {i : Id} {L : List (Pt × Pt)} (hm : m i = some (.map (enc L))) (hk : keysN L) (k v : Pt) : opMapUpdate Tryz.prog m 210 (.mp i) (ptAV k) (ptAV v) = some (.wrm i (enc (upd L k v))) := by
  have hkv : keyVal (ptAV k) = some (ptV k) := rfl
  unfold opMapUpdate
  simp only [mty210, hkv, hm, check_pt, wid41, and_self, if_true, split_pt]
  rcases one_key hk k with h | ⟨w, h⟩
  · rw [h]
    simp [enc, upd]
  · rw [h]
    simp [enc, upd, bits_pt]
theorem opLook {m : Mem} {i : Id} {L : List (Pt × Pt)} (hm : m i = some (.map (enc L))) (hk : keysN L) (k : Pt) :
    opLookup Tryz.prog m 210 (.mp i) (ptAV k) true = some (match L.find? (fun e => decide (k = e.1)) with | some e => .tup [ptAV e.2, .raw (.bool true)] | none => .tup [ptAV ⟨0, 0⟩, .raw (.bool false)]) := by
  unfold opLookup
  simp only [mty210, hm, check_pt, wid41, and_self, if_true, split_pt]
  have hf : L.find? (fun e => decide (k = e.1)) = (L.filter fun e => decide (k = e.1)).head? := by simp
  rw [hf]
  rcases one_key hk k with h | ⟨w, h⟩
  · rw [h]; simp [enc, ptAV, constCell]
  · rw [h]; simp [enc]

def joinM (L : List Lk) : List (Pt × Pt) := L.foldl (fun m l => upd (upd m l.a l.b) l.b l.a) []
theorem joinM_keys (L : List Lk) : keysN (joinM L) := by
  have : ∀ (L : List Lk) m, keysN m → keysN (L.foldl (fun m l => upd (upd m l.a l.b) l.b l.a) m) := by
    intro L
    induction L with
    | nil => exact fun m h => h
    | cons l L ih => exact fun m h => ih _ (keys_upd (keys_upd h _ _) _ _)
  exact this L [] (by simp [keysN])
theorem joinM_step {L : List Lk} {k : Nat} {l : Lk} (h : L[k]? = some l) : joinM (L.take (k + 1)) = upd (upd (joinM (L.take k)) l.a l.b) l.b l.a := by
  rw [List.take_add_one, h]
  simp [joinM, List.foldl_append]
theorem plain_enc (m : List (Pt × Pt)) : plainL ((enc m).map (·.2)) = true := by
  induction m with
  | nil => rfl
  | cons e m ih => simp only [enc, List.map_cons, plainL] at ih ⊢; rw [ih]; rfl
theorem lk_cells' (l : Lk) : (lkAV l).cells = [.raw (.int .i64 l.a.dev), .raw (.int .i64 l.a.port), .raw (.int .i64 l.b.dev), .raw (.int .i64 l.b.port)] := rfl
theorem joined_calls (t : Tp) (f : Fl) (hl : t.links.length < 2 ^ 42) : MCalls Tryz.prog 177 [tpAV t f] 0 (.map (enc (joinM t.links))) .mp := by
  refine mcalls_map (plain_enc _) fun σ => ?_
  refine abody Tryz.func177 rfl (N := 26) rfl rfl (by simp) ?_
  (try (first | (with_reducible refine dops_go ?_; simp [tpAV, linksAV, intsAV]) | (with_reducible refine OKv_go ?_; simp [tpAV, linksAV, intsAV]) | (with_reducible refine OKr_go ?_; simp [tpAV, linksAV, intsAV]))); repeat' (first | refine awp_seq ?_ | refine awp_block ?_ | (refine awp_skip ?_; try simp) | (refine awp_exit ?_; try simp) | (refine awp_ret ?_; try simp) | (refine retP_same (by simp) ?_; simp) | (refine retP_flat (by simp) (by simp) (by simp (maxDischargeDepth := 30) [tpAV, linksAV, intsAV]) ?_; simp) | (refine awp_reg ?_; simp [tpAV, linksAV, intsAV]) | (refine awp_drawT (fun _ => false) mixed (by decide +kernel) ?_; simp [tpAV, linksAV, intsAV]) | (refine guarded_split ?_ ?_ <;> (intro hg; simp only [hg]; simp [tpAV, linksAV, intsAV])) | (apply awp_cond_t; focus (simp [tpAV, linksAV, intsAV]; done)) | (apply awp_cond_f; focus (simp [tpAV, linksAV, intsAV]; done)) | (refine awp_cond ?_; simp [tpAV, linksAV, intsAV]; refine ⟨?_, ?_⟩ <;> intro hc))
  refine awp_loopH (fun n A τ => Ext σ τ ∧ A 3 = .mp ⟨6, σ.nx 6, 0⟩ ∧ A 8 = linksAV t.links f.l ∧ A 9 = .raw (.int .i64 t.links.length) ∧ ∃ k : Nat, A 10 = .raw (.int .i64 k) ∧ k ≤ t.links.length ∧ τ.m ⟨6, σ.nx 6, 0⟩ = some (.map (enc (joinM (t.links.take k)))) ∧ n = t.links.length - k) t.links.length ?_ ?_
  · exact ⟨by simp (maxDischargeDepth := 30), by simp [St.new], by simp [linksAV], by simp, 0, by simp, by omega, by simp [St.new, joinM, enc], by omega⟩
  rintro n A τ ⟨hE, a3, a8, a9, k, a10, hk, hm, rfl⟩ I1 hI1
  have f6 : σ.m ⟨6, σ.nx 6, 0⟩ = none := fresh_none _ _ _
  by_cases hlt : k < t.links.length
  · have hx : t.links[k]? = some t.links[k] := List.getElem?_eq_getElem hlt
    have w1 : IntKind.i64.wrap ((k : Int) + 1) = ((k + 1 : Nat) : Int) := by rw [wrap64 (by omega) (by omega)]; omega
    have hj := joinM_step hx
    have fa : AV.agg [.raw (.int .i64 t.links[k].a.dev), .raw (.int .i64 t.links[k].a.port)] = ptAV t.links[k].a := rfl
    have fb : AV.agg [.raw (.int .i64 t.links[k].b.dev), .raw (.int .i64 t.links[k].b.port)] = ptAV t.links[k].b := rfl
    have hu1 : ∀ m : Mem, m ⟨6, σ.nx 6, 0⟩ = some (.map (enc (joinM (t.links.take k)))) → opMapUpdate Tryz.prog m 210 (.mp ⟨6, σ.nx 6, 0⟩) (ptAV t.links[k].a) (ptAV t.links[k].b) = some (.wrm ⟨6, σ.nx 6, 0⟩ (enc (upd (joinM (t.links.take k)) t.links[k].a t.links[k].b))) := fun m h => opUpd h (joinM_keys _) _ _
    have hu2 : ∀ m : Mem, m ⟨6, σ.nx 6, 0⟩ = some (.map (enc (upd (joinM (t.links.take k)) t.links[k].a t.links[k].b))) → opMapUpdate Tryz.prog m 210 (.mp ⟨6, σ.nx 6, 0⟩) (ptAV t.links[k].b) (ptAV t.links[k].a) = some (.wrm ⟨6, σ.nx 6, 0⟩ (enc (joinM (t.links.take (k + 1))))) := fun m h => by
      rw [hj]; exact opUpd h (keys_upd (joinM_keys _) _ _) _ _
    clear hj
    (try (first | (with_reducible refine dops_go ?_; simp [a3, a8, a9, a10, hlt, hx, hm, linksAV, lk_cells', fa, fb, hu1, hu2, w1]) | (with_reducible refine OKv_go ?_; simp [a3, a8, a9, a10, hlt, hx, hm, linksAV, lk_cells', fa, fb, hu1, hu2, w1]) | (with_reducible refine OKr_go ?_; simp [a3, a8, a9, a10, hlt, hx, hm, linksAV, lk_cells', fa, fb, hu1, hu2, w1]))); repeat' (first | refine awp_seq ?_ | refine awp_block ?_ | (refine awp_skip ?_; try simp) | (refine awp_exit ?_; try simp) | (refine awp_ret ?_; try simp) | (refine retP_same (by simp) ?_; simp) | (refine retP_flat (by simp) (by simp) (by simp (maxDischargeDepth := 30) [a3, a8, a9, a10, hlt, hx, hm, linksAV, lk_cells', fa, fb, hu1, hu2, w1]) ?_; simp) | (refine awp_reg ?_; simp [a3, a8, a9, a10, hlt, hx, hm, linksAV, lk_cells', fa, fb, hu1, hu2, w1]) | (refine awp_drawT (fun _ => false) mixed (by decide +kernel) ?_; simp [a3, a8, a9, a10, hlt, hx, hm, linksAV, lk_cells', fa, fb, hu1, hu2, w1]) | (refine guarded_split ?_ ?_ <;> (intro hg; simp only [hg]; simp [a3, a8, a9, a10, hlt, hx, hm, linksAV, lk_cells', fa, fb, hu1, hu2, w1])) | (apply awp_cond_t; focus (simp [a3, a8, a9, a10, hlt, hx, hm, linksAV, lk_cells', fa, fb, hu1, hu2, w1]; done)) | (apply awp_cond_f; focus (simp [a3, a8, a9, a10, hlt, hx, hm, linksAV, lk_cells', fa, fb, hu1, hu2, w1]; done)) | (refine awp_cond ?_; simp [a3, a8, a9, a10, hlt, hx, hm, linksAV, lk_cells', fa, fb, hu1, hu2, w1]; refine ⟨?_, ?_⟩ <;> intro hc))
    exact hI1 (t.links.length - (k + 1)) _ _ (by omega) ⟨Ext.setF (Ext.setF (by simp [hE]) f6) f6, by simp [a3], by simp [a8, linksAV], by simp [a9], k + 1, by simp, by omega, by simp [St.set, St.new, hm], rfl⟩
  · have : k = t.links.length := by omega
    subst this
    rw [List.take_length] at hm
    (try (first | (with_reducible refine dops_go ?_; simp [a3, a8, a9, a10]) | (with_reducible refine OKv_go ?_; simp [a3, a8, a9, a10]) | (with_reducible refine OKr_go ?_; simp [a3, a8, a9, a10]))); repeat' (first | refine awp_seq ?_ | refine awp_block ?_ | (refine awp_skip ?_; try simp) | (refine awp_exit ?_; try simp) | (refine awp_ret ?_; try simp) | (refine awp_reg ?_; simp [a3, a8, a9, a10]) | (refine awp_drawT (fun _ => false) mixed (by decide +kernel) ?_; simp [a3, a8, a9, a10]) | (refine guarded_split ?_ ?_ <;> (intro hg; simp only [hg]; simp [a3, a8, a9, a10])) | (apply awp_cond_t; focus (simp [a3, a8, a9, a10]; done)) | (apply awp_cond_f; focus (simp [a3, a8, a9, a10]; done)) | (refine awp_cond ?_; simp [a3, a8, a9, a10]; refine ⟨?_, ?_⟩ <;> intro hc))
    exact retK_of (.inr rfl) (by simp) ⟨_, rfl, hm, f6, hE⟩

/-- The port to which a port is joined, as the program says it. -/
def nextM (t : Tp) (p : Pt) : Option Pt := ((joinM t.links).find? fun e => decide (p = e.1)).map (·.2)
theorem next_calls (t : Tp) (f : Fl) (p : Pt) (hl : t.links.length < 2 ^ 42) :
    PCalls Tryz.prog 159 [tpAV t f, ptAV p] (.tup [ptAV ((nextM t p).getD ⟨0, 0⟩), .raw (.bool (nextM t p).isSome)]) := by
  have hj := joined_calls t f hl
  refine pbody Tryz.func159 rfl (N := 17) rfl rfl (by simp) (by simp [noIds, ptAV]) fun σ => ?_
  have hpc : ∀ q : Pt, (ptAV q).cells = [.raw (.int .i64 q.dev), .raw (.int .i64 q.port)] := fun q => rfl
  have htc : (tpAV t f).cells = [intsAV t.ports f.p, linksAV t.links f.l] := rfl
  have hfo : ∀ q : Pt, AV.agg [.raw (.int .i64 q.dev), .raw (.int .i64 q.port)] = ptAV q := fun q => rfl
  have hft : AV.agg [intsAV t.ports f.p, linksAV t.links f.l] = tpAV t f := rfl
  have ho1 : cellOK (intsAV t.ports f.p) = true := rfl
  have ho2 : cellOK (linksAV t.links f.l) = true := rfl
  simp only [cellOK] at ho1 ho2
  have hlk : ∀ m : Mem, ∀ i, m i = some (.map (enc (joinM t.links))) → opLookup Tryz.prog m 210 (.mp i) (ptAV p) true = some (.tup [ptAV ((nextM t p).getD ⟨0, 0⟩), .raw (.bool (nextM t p).isSome)]) := fun m i h => by
    rw [opLook h (joinM_keys _)]
    unfold nextM
    cases (joinM t.links).find? fun e => decide (p = e.1) <;> rfl
  obtain ⟨q, hq⟩ : ∃ q, (nextM t p).getD ⟨0, 0⟩ = q := ⟨_, rfl⟩
  obtain ⟨b, hb⟩ : ∃ b, (nextM t p).isSome = b := ⟨_, rfl⟩
  rw [hq, hb] at hlk ⊢
  (try (first | (with_reducible refine dops_go ?_; simp [hpc, htc, hfo, hft, ho1, ho2]) | (with_reducible refine OKv_go ?_; simp [hpc, htc, hfo, hft, ho1, ho2]) | (with_reducible refine OKr_go ?_; simp [hpc, htc, hfo, hft, ho1, ho2]))); repeat' (first | refine awp_seq ?_ | refine awp_block ?_ | (refine awp_skip ?_; try simp) | (refine awp_exit ?_; try simp) | (refine awp_ret ?_; try simp) | (refine retP_same (by simp) ?_; simp) | (refine retP_flat (by simp) (by simp) (by simp (maxDischargeDepth := 30) [hpc, htc, hfo, hft, ho1, ho2]) ?_; simp) | (refine awp_reg ?_; simp [hpc, htc, hfo, hft, ho1, ho2]) | (refine awp_drawT (fun _ => false) mixed (by decide +kernel) ?_; simp [hpc, htc, hfo, hft, ho1, ho2]) | (refine guarded_split ?_ ?_ <;> (intro hg; simp only [hg]; simp [hpc, htc, hfo, hft, ho1, ho2])) | (apply awp_cond_t; focus (simp [hpc, htc, hfo, hft, ho1, ho2]; done)) | (apply awp_cond_f; focus (simp [hpc, htc, hfo, hft, ho1, ho2]; done)) | (refine awp_cond ?_; simp [hpc, htc, hfo, hft, ho1, ho2]; refine ⟨?_, ?_⟩ <;> intro hc))
  refine awp_drawT (fun o => o.dst == some 10) mixed (by decide +kernel) ?_
  (try (first | (with_reducible refine dops_go ?_; simp [hpc, htc, hfo, hft, ho1, ho2]) | (with_reducible refine OKv_go ?_; simp [hpc, htc, hfo, hft, ho1, ho2]) | (with_reducible refine OKr_go ?_; simp [hpc, htc, hfo, hft, ho1, ho2]))); repeat' (first | refine awp_seq ?_ | refine awp_block ?_ | (refine awp_skip ?_; try simp) | (refine awp_exit ?_; try simp) | (refine awp_ret ?_; try simp) | (refine retP_same (by simp) ?_; simp) | (refine retP_flat (by simp) (by simp) (by simp (maxDischargeDepth := 30) [hpc, htc, hfo, hft, ho1, ho2]) ?_; simp) | (refine awp_reg ?_; simp [hpc, htc, hfo, hft, ho1, ho2]) | (refine awp_drawT (fun _ => false) mixed (by decide +kernel) ?_; simp [hpc, htc, hfo, hft, ho1, ho2]) | (refine guarded_split ?_ ?_ <;> (intro hg; simp only [hg]; simp [hpc, htc, hfo, hft, ho1, ho2])) | (apply awp_cond_t; focus (simp [hpc, htc, hfo, hft, ho1, ho2]; done)) | (apply awp_cond_f; focus (simp [hpc, htc, hfo, hft, ho1, ho2]; done)) | (refine awp_cond ?_; simp [hpc, htc, hfo, hft, ho1, ho2]; refine ⟨?_, ?_⟩ <;> intro hc))
  refine .inr ⟨_, _, _, hj, ?_⟩
  have hpp : ∀ q : Pt, setPart (AV.agg [.raw (.int .i64 0), .raw (.int .i64 0)]) 0 [.raw (.int .i64 q.dev), .raw (.int .i64 q.port)] = ptAV q := fun q => rfl
  have hpq : ∀ q : Pt, setPart (ptAV ⟨0, 0⟩) 0 [.raw (.int .i64 q.dev), .raw (.int .i64 q.port)] = ptAV q := fun q => rfl
  (try (first | (with_reducible refine dops_go ?_; simp [hpc, htc, hfo, hft, ho1, ho2, hlk, hpp, hpq]) | (with_reducible refine OKv_go ?_; simp [hpc, htc, hfo, hft, ho1, ho2, hlk, hpp, hpq]) | (with_reducible refine OKr_go ?_; simp [hpc, htc, hfo, hft, ho1, ho2, hlk, hpp, hpq]))); repeat' (first | refine awp_seq ?_ | refine awp_block ?_ | (refine awp_skip ?_; try simp) | (refine awp_exit ?_; try simp) | (refine awp_ret ?_; try simp) | (refine awp_reg ?_; simp [hpc, htc, hfo, hft, ho1, ho2, hlk, hpp, hpq]) | (refine awp_drawT (fun _ => false) mixed (by decide +kernel) ?_; simp [hpc, htc, hfo, hft, ho1, ho2, hlk, hpp, hpq]) | (refine guarded_split ?_ ?_ <;> (intro hg; simp only [hg]; simp [hpc, htc, hfo, hft, ho1, ho2, hlk, hpp, hpq])) | (apply awp_cond_t; focus (simp [hpc, htc, hfo, hft, ho1, ho2, hlk, hpp, hpq]; done)) | (apply awp_cond_f; focus (simp [hpc, htc, hfo, hft, ho1, ho2, hlk, hpp, hpq]; done)) | (refine awp_cond ?_; simp [hpc, htc, hfo, hft, ho1, ho2, hlk, hpp, hpq]; refine ⟨?_, ?_⟩ <;> intro hc))
  refine retP_flat (.inr rfl) rfl (Ext.setF (by simp (maxDischargeDepth := 30)) ?_) ?_
  · have := fresh_none σ 4 2
    simpa [St.new] using this
  · simp [St.set, St.new, hfo, hpc]
end Go.Proofs.YtanimmdlgmkmkaaGreat.Av


/- Networks: right topologies; rules that fit. -/
namespace Go.Proofs.YtanimmdlgmkmkaaGreat.Av
open Go
set_option linter.unusedSimpArgs false
set_option linter.unusedVariables false
set_option maxRecDepth 100000
set_option maxHeartbeats 2000000
set_option pp.maxSteps 300

theorem portBad_calls (n : Int) : PCalls Tryz.prog 173 [.raw (.int .i64 n)] (.raw (.bool (decide (n < 1) || decide (4 < n)))) := by
  refine pbody Tryz.func173 rfl (N := 9) rfl rfl (by simp) (by simp [noIds]) fun σ => ?_
  obtain ⟨b1, h1⟩ : ∃ b, decide (n < 1) = b := ⟨_, rfl⟩
  obtain ⟨b2, h2⟩ : ∃ b, decide (4 < n) = b := ⟨_, rfl⟩
  rw [h1, h2]
  (try (first | (with_reducible refine dops_go ?_; simp [h1, h2]) | (with_reducible refine OKv_go ?_; simp [h1, h2]) | (with_reducible refine OKr_go ?_; simp [h1, h2]))); repeat' (first | refine awp_seq ?_ | refine awp_block ?_ | (refine awp_skip ?_; try simp) | (refine awp_exit ?_; try simp) | (refine awp_ret ?_; try simp) | (refine retP_same (by simp) ?_; simp) | (refine retP_flat (by simp) (by simp) (by simp (maxDischargeDepth := 30) [h1, h2]) ?_; simp) | (refine awp_reg ?_; simp [h1, h2]) | (refine awp_drawT (fun _ => false) mixed (by decide +kernel) ?_; simp [h1, h2]) | (refine guarded_split ?_ ?_ <;> (intro hg; simp only [hg]; simp [h1, h2])) | (apply awp_cond_t; focus (simp [h1, h2]; done)) | (apply awp_cond_f; focus (simp [h1, h2]; done)) | (refine awp_cond ?_; simp [h1, h2]; refine ⟨?_, ?_⟩ <;> intro hc))
def linkBad (t : Tp) (l : Lk) : Bool := !hasB t l.a || (!hasB t l.b || decide (l.a = l.b))
theorem tp_cells (t : Tp) (f : Fl) : (tpAV t f).cells = [intsAV t.ports f.p, linksAV t.links f.l] := rfl
theorem tp_fold (t : Tp) (f : Fl) : AV.agg [intsAV t.ports f.p, linksAV t.links f.l] = tpAV t f := rfl
theorem ruPort_fold (r : Ru) : AV.agg [.raw (.int .i64 r.dev), .raw (.int .i64 r.port)] = ptAV ⟨r.dev, r.port⟩ := rfl
theorem linkBad_calls (t : Tp) (f : Fl) (l : Lk) (hl : t.ports.length < 2 ^ 60) : PCalls Tryz.prog 175 [lkAV l, .pp [intsAV t.ports f.p, linksAV t.links f.l] 0] (.raw (.bool (linkBad t l))) := by
  refine pbody Tryz.func175 rfl (N := 23) rfl rfl (by simp) (by simp [noIds]) fun σ => ?_
  have fa : AV.agg [.raw (.int .i64 l.a.dev), .raw (.int .i64 l.a.port)] = ptAV l.a := rfl
  have fb : AV.agg [.raw (.int .i64 l.b.dev), .raw (.int .i64 l.b.port)] = ptAV l.b := rfl
  obtain ⟨b1, h1⟩ : ∃ b, hasB t l.a = b := ⟨_, rfl⟩
  obtain ⟨b2, h2⟩ : ∃ b, hasB t l.b = b := ⟨_, rfl⟩
  have hd : decide (l.a = l.b) = (decide (l.a.dev = l.b.dev) && decide (l.a.port = l.b.port)) := by
    rcases l with ⟨⟨a1, a2⟩, ⟨b1, b2⟩⟩; simp
  obtain ⟨b3, h3⟩ : ∃ b, decide (l.a = l.b) = b := ⟨_, rfl⟩
  have heq : structEq Tryz.prog 4 41 (ptAV l.a) (ptAV l.b) = some b3 := by
    have := key_eq l.a l.b
    rw [h3] at this
    exact this
  have hg : Tryz.prog.eqGuardType Tryz.prog.depth 41 = false := eqg41
  have hbin : opBin Tryz.prog .eql 41 (ptAV l.a) (ptAV l.b) = some (.raw (.bool b3)) := by
    have e1 : ∀ x y : Pt, opBin Tryz.prog .eql 41 (ptAV x) (ptAV y) = if Tryz.prog.eqGuardType Tryz.prog.depth 41 = false then (structEq Tryz.prog 4 41 (ptAV x) (ptAV y)).bind fun b => (nilBin .eql b).map .raw else none := fun x y => rfl
    rw [e1, if_pos hg, heq]
    rfl
  have c1 := h1 ▸ has_calls t f l.a hl
  have c2 := h2 ▸ has_calls t f l.b hl
  unfold linkBad
  rw [h1, h2, h3]
  (try (first | (with_reducible refine dops_go ?_; simp [lk_cells', fa, fb, tp_fold, -opBin, hbin]) | (with_reducible refine OKv_go ?_; simp [lk_cells', fa, fb, tp_fold, -opBin, hbin]) | (with_reducible refine OKr_go ?_; simp [lk_cells', fa, fb, tp_fold, -opBin, hbin]))); repeat' (first | refine awp_seq ?_ | refine awp_block ?_ | (refine awp_skip ?_; try simp) | (refine awp_exit ?_; try simp) | (refine awp_ret ?_; try simp) | (refine retP_same (by simp) ?_; simp) | (refine retP_flat (by simp) (by simp) (by simp (maxDischargeDepth := 30) [lk_cells', fa, fb, tp_fold, -opBin, hbin]) ?_; simp) | (refine awp_reg ?_; simp [lk_cells', fa, fb, tp_fold, -opBin, hbin]) | (refine awp_drawT (fun _ => false) mixed (by decide +kernel) ?_; simp [lk_cells', fa, fb, tp_fold, -opBin, hbin]) | (refine guarded_split ?_ ?_ <;> (intro hg; simp only [hg]; simp [lk_cells', fa, fb, tp_fold, -opBin, hbin])) | (apply awp_cond_t; focus (simp [lk_cells', fa, fb, tp_fold, -opBin, hbin]; done)) | (apply awp_cond_f; focus (simp [lk_cells', fa, fb, tp_fold, -opBin, hbin]; done)) | (refine awp_cond ?_; simp [lk_cells', fa, fb, tp_fold, -opBin, hbin]; refine ⟨?_, ?_⟩ <;> intro hc))
  refine PCalls.use c1 ?_
  (try (first | (with_reducible refine dops_go ?_; simp [lk_cells', fa, fb, tp_fold, -opBin, hbin]) | (with_reducible refine OKv_go ?_; simp [lk_cells', fa, fb, tp_fold, -opBin, hbin]) | (with_reducible refine OKr_go ?_; simp [lk_cells', fa, fb, tp_fold, -opBin, hbin]))); repeat' (first | refine awp_seq ?_ | refine awp_block ?_ | (refine awp_skip ?_; try simp) | (refine awp_exit ?_; try simp) | (refine awp_ret ?_; try simp) | (refine retP_same (by simp) ?_; simp) | (refine retP_flat (by simp) (by simp) (by simp (maxDischargeDepth := 30) [lk_cells', fa, fb, tp_fold, -opBin, hbin]) ?_; simp) | (refine awp_reg ?_; simp [lk_cells', fa, fb, tp_fold, -opBin, hbin]) | (refine awp_drawT (fun _ => false) mixed (by decide +kernel) ?_; simp [lk_cells', fa, fb, tp_fold, -opBin, hbin]) | (refine guarded_split ?_ ?_ <;> (intro hg; simp only [hg]; simp [lk_cells', fa, fb, tp_fold, -opBin, hbin])) | (apply awp_cond_t; focus (simp [lk_cells', fa, fb, tp_fold, -opBin, hbin]; done)) | (apply awp_cond_f; focus (simp [lk_cells', fa, fb, tp_fold, -opBin, hbin]; done)) | (refine awp_cond ?_; simp [lk_cells', fa, fb, tp_fold, -opBin, hbin]; refine ⟨?_, ?_⟩ <;> intro hc))
  refine PCalls.use c2 ?_
  (try (first | (with_reducible refine dops_go ?_; simp [lk_cells', fa, fb, tp_fold, -opBin, hbin]) | (with_reducible refine OKv_go ?_; simp [lk_cells', fa, fb, tp_fold, -opBin, hbin]) | (with_reducible refine OKr_go ?_; simp [lk_cells', fa, fb, tp_fold, -opBin, hbin]))); repeat' (first | refine awp_seq ?_ | refine awp_block ?_ | (refine awp_skip ?_; try simp) | (refine awp_exit ?_; try simp) | (refine awp_ret ?_; try simp) | (refine retP_same (by simp) ?_; simp) | (refine retP_flat (by simp) (by simp) (by simp (maxDischargeDepth := 30) [lk_cells', fa, fb, tp_fold, -opBin, hbin]) ?_; simp) | (refine awp_reg ?_; simp [lk_cells', fa, fb, tp_fold, -opBin, hbin]) | (refine awp_drawT (fun _ => false) mixed (by decide +kernel) ?_; simp [lk_cells', fa, fb, tp_fold, -opBin, hbin]) | (refine guarded_split ?_ ?_ <;> (intro hg; simp only [hg]; simp [lk_cells', fa, fb, tp_fold, -opBin, hbin])) | (apply awp_cond_t; focus (simp [lk_cells', fa, fb, tp_fold, -opBin, hbin]; done)) | (apply awp_cond_f; focus (simp [lk_cells', fa, fb, tp_fold, -opBin, hbin]; done)) | (refine awp_cond ?_; simp [lk_cells', fa, fb, tp_fold, -opBin, hbin]; refine ⟨?_, ?_⟩ <;> intro hc))
theorem fitsNot_calls (t : Tp) (f : Fl) (r : Ru) (hl : t.ports.length < 2 ^ 60) : PCalls Tryz.prog 180 [ruAV r, .pp [intsAV t.ports f.p, linksAV t.links f.l] 0] (.raw (.bool (!hasB t ⟨r.dev, r.port⟩))) := by
  refine pbody Tryz.func180 rfl (N := 12) rfl rfl (by simp) (by simp [noIds]) fun σ => ?_
  (try (first | (with_reducible refine dops_go ?_; simp [ru_cells, ruPort_fold, tp_fold]) | (with_reducible refine OKv_go ?_; simp [ru_cells, ruPort_fold, tp_fold]) | (with_reducible refine OKr_go ?_; simp [ru_cells, ruPort_fold, tp_fold]))); repeat' (first | refine awp_seq ?_ | refine awp_block ?_ | (refine awp_skip ?_; try simp) | (refine awp_exit ?_; try simp) | (refine awp_ret ?_; try simp) | (refine retP_same (by simp) ?_; simp) | (refine retP_flat (by simp) (by simp) (by simp (maxDischargeDepth := 30) [ru_cells, ruPort_fold, tp_fold]) ?_; simp) | (refine awp_reg ?_; simp [ru_cells, ruPort_fold, tp_fold]) | (refine awp_drawT (fun _ => false) mixed (by decide +kernel) ?_; simp [ru_cells, ruPort_fold, tp_fold]) | (refine guarded_split ?_ ?_ <;> (intro hg; simp only [hg]; simp [ru_cells, ruPort_fold, tp_fold])) | (apply awp_cond_t; focus (simp [ru_cells, ruPort_fold, tp_fold]; done)) | (apply awp_cond_f; focus (simp [ru_cells, ruPort_fold, tp_fold]; done)) | (refine awp_cond ?_; simp [ru_cells, ruPort_fold, tp_fold]; refine ⟨?_, ?_⟩ <;> intro hc))
  refine PCalls.use (has_calls t f ⟨r.dev, r.port⟩ hl) ?_
  (try (first | (with_reducible refine dops_go ?_; simp) | (with_reducible refine OKv_go ?_; simp) | (with_reducible refine OKr_go ?_; simp))); repeat' (first | refine awp_seq ?_ | refine awp_block ?_ | (refine awp_skip ?_; try simp) | (refine awp_exit ?_; try simp) | (refine awp_ret ?_; try simp) | (refine retP_same (by simp) ?_; simp) | (refine retP_flat (by simp) (by simp) (by simp (maxDischargeDepth := 30)) ?_; simp) | (refine awp_reg ?_; simp) | (refine awp_drawT (fun _ => false) mixed (by decide +kernel) ?_; simp) | (refine guarded_split ?_ ?_ <;> (intro hg; simp only [hg]; simp)) | (apply awp_cond_t; focus (simp; done)) | (apply awp_cond_f; focus (simp; done)) | (refine awp_cond ?_; simp; refine ⟨?_, ?_⟩ <;> intro hc))
def fitsB (t : Tp) (l : List Ru) : Bool := !(l.any fun r => !hasB t ⟨r.dev, r.port⟩)
theorem fits_calls (t : Tp) (f : Fl) (l : List Ru) (g : Bool) (hl : t.ports.length < 2 ^ 60) (hl2 : l.length < 2 ^ 60) : PCalls Tryz.prog 127 [tpAV t f, rulesAV l g] (.raw (.bool (fitsB t l))) := by
  have hc := ruContains_calls (g := 180) (caps := [.pp [intsAV t.ports f.p, linksAV t.links f.l] 0]) (p := fun r => !hasB t ⟨r.dev, r.port⟩) l g hl2 (fun r _ => fitsNot_calls t f r hl)
  refine pbody Tryz.func127 rfl (N := 9) rfl rfl (by simp) (by simp [noIds]) fun σ => ?_
  repeat (refine awp_seq ?_)
  refine awp_reg ?_
  have ho1 : cellOK (intsAV t.ports f.p) = true := rfl
  have ho2 : cellOK (linksAV t.links f.l) = true := rfl
  simp only [cellOK] at ho1 ho2
  simp [tp_cells, ho1, ho2]
  refine awp_freeze ⟨2, σ.nx 2, 2⟩ ?_
  generalize hτ : St.del _ _ = τ
  generalize hA : (fun t => giveUp _ _ _) = A
  have a1 : A 1 = rulesAV l g := by rw [← hA]; simp [rulesAV]
  have a2 : A 2 = .pp [intsAV t.ports f.p, linksAV t.links f.l] 0 := by rw [← hA, ← hτ]; simp [giveUp, St.new, St.del, tp_cells]
  have hE : Ext σ τ := by
    rw [← hτ]
    refine ⟨fun i o h => ?_, fun s => ?_⟩
    · rw [del_other (fun e => by rw [e, fresh_none] at h; cases h)]
      exact new_up _ _ h
    · exact St.new_le σ 2 2 (.buf [tpAV t f]) s
  clear hτ hA
  (try (first | (with_reducible refine dops_go ?_; simp [a1, a2]) | (with_reducible refine OKv_go ?_; simp [a1, a2]) | (with_reducible refine OKr_go ?_; simp [a1, a2]))); repeat' (first | refine awp_seq ?_ | refine awp_block ?_ | (refine awp_skip ?_; try simp) | (refine awp_exit ?_; try simp) | (refine awp_ret ?_; try simp) | (refine retP_same (by simp) ?_; simp) | (refine retP_flat (by simp) (by simp) (by simp (maxDischargeDepth := 30) [a1, a2]) ?_; simp) | (refine awp_reg ?_; simp [a1, a2]) | (refine awp_drawT (fun _ => false) mixed (by decide +kernel) ?_; simp [a1, a2]) | (refine guarded_split ?_ ?_ <;> (intro hg; simp only [hg]; simp [a1, a2])) | (apply awp_cond_t; focus (simp [a1, a2]; done)) | (apply awp_cond_f; focus (simp [a1, a2]; done)) | (refine awp_cond ?_; simp [a1, a2]; refine ⟨?_, ?_⟩ <;> intro hc))
  refine PCalls.use hc ?_
  (try (first | (with_reducible refine dops_go ?_; simp [a1, a2, hE]) | (with_reducible refine OKv_go ?_; simp [a1, a2, hE]) | (with_reducible refine OKr_go ?_; simp [a1, a2, hE]))); repeat' (first | refine awp_seq ?_ | refine awp_block ?_ | (refine awp_skip ?_; try simp) | (refine awp_exit ?_; try simp) | (refine awp_ret ?_; try simp) | (refine retP_same (by simp) ?_; simp) | (refine retP_flat (by simp) (by simp) (by simp (maxDischargeDepth := 30) [a1, a2, hE]) ?_; simp) | (refine awp_reg ?_; simp [a1, a2, hE]) | (refine awp_drawT (fun _ => false) mixed (by decide +kernel) ?_; simp [a1, a2, hE]) | (refine guarded_split ?_ ?_ <;> (intro hg; simp only [hg]; simp [a1, a2, hE])) | (apply awp_cond_t; focus (simp [a1, a2, hE]; done)) | (apply awp_cond_f; focus (simp [a1, a2, hE]; done)) | (refine awp_cond ?_; simp [a1, a2, hE]; refine ⟨?_, ?_⟩ <;> intro hc))
  simp [fitsB]

def portsBad (t : Tp) : Bool := t.ports.any fun n => decide (n < 1) || decide (4 < n)
def rightT (t : Tp) : Bool := !decide (t.ports.length = 0) && (!decide (8 < t.ports.length) && (!decide (16 < t.links.length) && (!portsBad t && (!t.links.any (linkBad t) && decide ((joinM t.links).length = 2 * t.links.length)))))
theorem right_calls (t : Tp) (f : Fl) (hl : t.ports.length < 2 ^ 60) (hl2 : t.links.length < 2 ^ 42) : PCalls Tryz.prog 125 [tpAV t f] (.raw (.bool (rightT t))) := by
  have hj := joined_calls t f hl2
  have hc1 := intContains_calls (g := 173) (caps := []) (p := fun n => decide (n < 1) || decide (4 < n)) t.ports f.p hl (fun n _ => portBad_calls n)
  have hc2 := lkContains_calls (g := 175) (caps := [.pp [intsAV t.ports f.p, linksAV t.links f.l] 0]) (p := linkBad t) t.links f.l (by omega) (fun l _ => linkBad_calls t f l hl)
  have hlen : ∀ L : List Lk, (joinM L).length ≤ 2 * L.length := by
    have : ∀ (L : List Lk) m, (L.foldl (fun m l => upd (upd m l.a l.b) l.b l.a) m).length ≤ m.length + 2 * L.length := by
      intro L
      induction L with
      | nil => intro m; simp
      | cons l L ih =>
        intro m
        have h1 := ih (upd (upd m l.a l.b) l.b l.a)
        have hu : ∀ m k v, (upd m k v).length ≤ m.length + 1 := fun m k v => by
          unfold upd
          have := List.length_filter_le (fun e : Pt × Pt => decide (k ≠ e.1)) m
          simp only [List.length_append, List.length_singleton]; omega
        have h2 := hu (upd m l.a l.b) l.b l.a
        have h3 := hu m l.a l.b
        simp only [List.foldl_cons, List.length_cons]
        omega
    intro L
    simpa [joinM] using this L []
  have hle := hlen t.links
  unfold rightT
  obtain ⟨b4, h4⟩ : ∃ b, portsBad t = b := ⟨_, rfl⟩
  obtain ⟨b5, h5⟩ : ∃ b, t.links.any (linkBad t) = b := ⟨_, rfl⟩
  rw [show (t.ports.any fun n => decide (n < 1) || decide (4 < n)) = b4 from h4] at hc1
  obtain ⟨n, hn⟩ : ∃ n, t.ports.length = n := ⟨_, rfl⟩
  obtain ⟨k, hk⟩ : ∃ k, t.links.length = k := ⟨_, rfl⟩
  obtain ⟨c, hcc⟩ : ∃ c, (joinM t.links).length = c := ⟨_, rfl⟩
  rw [h5] at hc2 ⊢
  rw [h4, hn, hk, hcc]
  rw [hk, hcc] at hle
  rw [hn] at hl
  rw [hk] at hl2
  refine pbody Tryz.func125 rfl (N := 34) rfl rfl (by simp) (by simp [noIds]) fun σ => ?_
  repeat (refine awp_seq ?_)
  refine awp_reg ?_
  have ho1 : cellOK (intsAV t.ports f.p) = true := rfl
  have ho2 : cellOK (linksAV t.links f.l) = true := rfl
  simp only [cellOK] at ho1 ho2
  simp [tp_cells, ho1, ho2]
  refine awp_freeze ⟨1, σ.nx 1, 2⟩ ?_
  generalize hτ : St.del _ _ = τ
  generalize hA : (fun t => giveUp _ _ _) = A
  have a1 : A 1 = .pp [intsAV t.ports f.p, linksAV t.links f.l] 0 := by rw [← hA, ← hτ]; simp [giveUp, St.new, St.del, tp_cells]
  have hE : Ext σ τ := by
    rw [← hτ]
    refine ⟨fun i o h => ?_, fun s => ?_⟩
    · rw [del_other (fun e => by rw [e, fresh_none] at h; cases h)]
      exact new_up _ _ h
    · exact St.new_le σ 1 2 (.buf [tpAV t f]) s
  clear hτ hA
  have li : ∀ g, opLen Tryz.prog τ.m 22 (intsAV t.ports g) = some (.raw (.int .i64 n)) := fun g => by simp [intsAV, hn]
  have ll : ∀ g, opLen Tryz.prog τ.m 23 (linksAV t.links g) = some (.raw (.int .i64 k)) := fun g => by simp [linksAV, hk]
  have lm : ∀ (m : Mem) i, m i = some (.map (enc (joinM t.links))) → opLen Tryz.prog m 210 (.mp i) = some (.raw (.int .i64 c)) := fun m i h => by simp [h, enc, hcc]
  have ll2 : ∀ (m : Mem) g, opLen Tryz.prog m 23 (linksAV t.links g) = some (.raw (.int .i64 k)) := fun m g => by simp [linksAV, hk]
  have w2 : IntKind.i64.wrap (2 * (k : Int)) = 2 * (k : Int) := wrap64 (by omega) (by omega)
  clear hn hk hcc
  by_cases q1 : n = 0
  · (try (first | (with_reducible refine dops_go ?_; simp [a1, hE, -opLen, li, ll, q1]) | (with_reducible refine OKv_go ?_; simp [a1, hE, -opLen, li, ll, q1]) | (with_reducible refine OKr_go ?_; simp [a1, hE, -opLen, li, ll, q1]))); repeat' (first | refine awp_seq ?_ | refine awp_block ?_ | (refine awp_skip ?_; try simp) | (refine awp_exit ?_; try simp) | (refine awp_ret ?_; try simp) | (refine retP_same (by simp) ?_; simp) | (refine retP_flat (by simp) (by simp) (by simp (maxDischargeDepth := 30) [a1, hE, -opLen, li, ll, q1]) ?_; simp) | (refine awp_reg ?_; simp [a1, hE, -opLen, li, ll, q1]) | (refine awp_drawT (fun _ => false) mixed (by decide +kernel) ?_; simp [a1, hE, -opLen, li, ll, q1]) | (refine guarded_split ?_ ?_ <;> (intro hg; simp only [hg]; simp [a1, hE, -opLen, li, ll, q1])) | (apply awp_cond_t; focus (simp [a1, hE, -opLen, li, ll, q1]; done)) | (apply awp_cond_f; focus (simp [a1, hE, -opLen, li, ll, q1]; done)) | (refine awp_cond ?_; simp [a1, hE, -opLen, li, ll, q1]; refine ⟨?_, ?_⟩ <;> intro hc))
    all_goals (intros; omega)
  by_cases q2 : 8 < n
  · have q2i : (8 : Int) < (n : Int) := by omega
    (try (first | (with_reducible refine dops_go ?_; simp [a1, hE, -opLen, li, ll, q1, q2, q2i]) | (with_reducible refine OKv_go ?_; simp [a1, hE, -opLen, li, ll, q1, q2, q2i]) | (with_reducible refine OKr_go ?_; simp [a1, hE, -opLen, li, ll, q1, q2, q2i]))); repeat' (first | refine awp_seq ?_ | refine awp_block ?_ | (refine awp_skip ?_; try simp) | (refine awp_exit ?_; try simp) | (refine awp_ret ?_; try simp) | (refine retP_same (by simp) ?_; simp) | (refine retP_flat (by simp) (by simp) (by simp (maxDischargeDepth := 30) [a1, hE, -opLen, li, ll, q1, q2, q2i]) ?_; simp) | (refine awp_reg ?_; simp [a1, hE, -opLen, li, ll, q1, q2, q2i]) | (refine awp_drawT (fun _ => false) mixed (by decide +kernel) ?_; simp [a1, hE, -opLen, li, ll, q1, q2, q2i]) | (refine guarded_split ?_ ?_ <;> (intro hg; simp only [hg]; simp [a1, hE, -opLen, li, ll, q1, q2, q2i])) | (apply awp_cond_t; focus (simp [a1, hE, -opLen, li, ll, q1, q2, q2i]; done)) | (apply awp_cond_f; focus (simp [a1, hE, -opLen, li, ll, q1, q2, q2i]; done)) | (refine awp_cond ?_; simp [a1, hE, -opLen, li, ll, q1, q2, q2i]; refine ⟨?_, ?_⟩ <;> intro hc))
    all_goals (intros; omega)
  have q2i : ¬ (8 : Int) < (n : Int) := by omega
  by_cases q3 : 16 < k
  · have q3i : (16 : Int) < (k : Int) := by omega
    (try (first | (with_reducible refine dops_go ?_; simp [a1, hE, -opLen, li, ll, q1, q2, q2i, q3, q3i]) | (with_reducible refine OKv_go ?_; simp [a1, hE, -opLen, li, ll, q1, q2, q2i, q3, q3i]) | (with_reducible refine OKr_go ?_; simp [a1, hE, -opLen, li, ll, q1, q2, q2i, q3, q3i]))); repeat' (first | refine awp_seq ?_ | refine awp_block ?_ | (refine awp_skip ?_; try simp) | (refine awp_exit ?_; try simp) | (refine awp_ret ?_; try simp) | (refine retP_same (by simp) ?_; simp) | (refine retP_flat (by simp) (by simp) (by simp (maxDischargeDepth := 30) [a1, hE, -opLen, li, ll, q1, q2, q2i, q3, q3i]) ?_; simp) | (refine awp_reg ?_; simp [a1, hE, -opLen, li, ll, q1, q2, q2i, q3, q3i]) | (refine awp_drawT (fun _ => false) mixed (by decide +kernel) ?_; simp [a1, hE, -opLen, li, ll, q1, q2, q2i, q3, q3i]) | (refine guarded_split ?_ ?_ <;> (intro hg; simp only [hg]; simp [a1, hE, -opLen, li, ll, q1, q2, q2i, q3, q3i])) | (apply awp_cond_t; focus (simp [a1, hE, -opLen, li, ll, q1, q2, q2i, q3, q3i]; done)) | (apply awp_cond_f; focus (simp [a1, hE, -opLen, li, ll, q1, q2, q2i, q3, q3i]; done)) | (refine awp_cond ?_; simp [a1, hE, -opLen, li, ll, q1, q2, q2i, q3, q3i]; refine ⟨?_, ?_⟩ <;> intro hc))
    all_goals (intros; omega)
  have q3i : ¬ (16 : Int) < (k : Int) := by omega
  (try (first | (with_reducible refine dops_go ?_; simp [a1, hE, -opLen, li, ll, q1, q2, q2i, q3, q3i]) | (with_reducible refine OKv_go ?_; simp [a1, hE, -opLen, li, ll, q1, q2, q2i, q3, q3i]) | (with_reducible refine OKr_go ?_; simp [a1, hE, -opLen, li, ll, q1, q2, q2i, q3, q3i]))); repeat' (first | refine awp_seq ?_ | refine awp_block ?_ | (refine awp_skip ?_; try simp) | (refine awp_exit ?_; try simp) | (refine awp_ret ?_; try simp) | (refine retP_same (by simp) ?_; simp) | (refine retP_flat (by simp) (by simp) (by simp (maxDischargeDepth := 30) [a1, hE, -opLen, li, ll, q1, q2, q2i, q3, q3i]) ?_; simp) | (refine awp_reg ?_; simp [a1, hE, -opLen, li, ll, q1, q2, q2i, q3, q3i]) | (refine awp_drawT (fun _ => false) mixed (by decide +kernel) ?_; simp [a1, hE, -opLen, li, ll, q1, q2, q2i, q3, q3i]) | (refine guarded_split ?_ ?_ <;> (intro hg; simp only [hg]; simp [a1, hE, -opLen, li, ll, q1, q2, q2i, q3, q3i])) | (apply awp_cond_t; focus (simp [a1, hE, -opLen, li, ll, q1, q2, q2i, q3, q3i]; done)) | (apply awp_cond_f; focus (simp [a1, hE, -opLen, li, ll, q1, q2, q2i, q3, q3i]; done)) | (refine awp_cond ?_; simp [a1, hE, -opLen, li, ll, q1, q2, q2i, q3, q3i]; refine ⟨?_, ?_⟩ <;> intro hc))
  refine PCalls.use hc1 ?_
  cases b4 with
  | true =>
    (try (first | (with_reducible refine dops_go ?_; simp [a1, hE, -opLen, li, ll, q1, q2, q2i, q3, q3i]) | (with_reducible refine OKv_go ?_; simp [a1, hE, -opLen, li, ll, q1, q2, q2i, q3, q3i]) | (with_reducible refine OKr_go ?_; simp [a1, hE, -opLen, li, ll, q1, q2, q2i, q3, q3i]))); repeat' (first | refine awp_seq ?_ | refine awp_block ?_ | (refine awp_skip ?_; try simp) | (refine awp_exit ?_; try simp) | (refine awp_ret ?_; try simp) | (refine retP_same (by simp) ?_; simp) | (refine retP_flat (by simp) (by simp) (by simp (maxDischargeDepth := 30) [a1, hE, -opLen, li, ll, q1, q2, q2i, q3, q3i]) ?_; simp) | (refine awp_reg ?_; simp [a1, hE, -opLen, li, ll, q1, q2, q2i, q3, q3i]) | (refine awp_drawT (fun _ => false) mixed (by decide +kernel) ?_; simp [a1, hE, -opLen, li, ll, q1, q2, q2i, q3, q3i]) | (refine guarded_split ?_ ?_ <;> (intro hg; simp only [hg]; simp [a1, hE, -opLen, li, ll, q1, q2, q2i, q3, q3i])) | (apply awp_cond_t; focus (simp [a1, hE, -opLen, li, ll, q1, q2, q2i, q3, q3i]; done)) | (apply awp_cond_f; focus (simp [a1, hE, -opLen, li, ll, q1, q2, q2i, q3, q3i]; done)) | (refine awp_cond ?_; simp [a1, hE, -opLen, li, ll, q1, q2, q2i, q3, q3i]; refine ⟨?_, ?_⟩ <;> intro hc))
  | false =>
    (try (first | (with_reducible refine dops_go ?_; simp [a1, hE, -opLen, li, ll, q1, q2, q2i, q3, q3i]) | (with_reducible refine OKv_go ?_; simp [a1, hE, -opLen, li, ll, q1, q2, q2i, q3, q3i]) | (with_reducible refine OKr_go ?_; simp [a1, hE, -opLen, li, ll, q1, q2, q2i, q3, q3i]))); repeat' (first | refine awp_seq ?_ | refine awp_block ?_ | (refine awp_skip ?_; try simp) | (refine awp_exit ?_; try simp) | (refine awp_ret ?_; try simp) | (refine retP_same (by simp) ?_; simp) | (refine retP_flat (by simp) (by simp) (by simp (maxDischargeDepth := 30) [a1, hE, -opLen, li, ll, q1, q2, q2i, q3, q3i]) ?_; simp) | (refine awp_reg ?_; simp [a1, hE, -opLen, li, ll, q1, q2, q2i, q3, q3i]) | (refine awp_drawT (fun _ => false) mixed (by decide +kernel) ?_; simp [a1, hE, -opLen, li, ll, q1, q2, q2i, q3, q3i]) | (refine guarded_split ?_ ?_ <;> (intro hg; simp only [hg]; simp [a1, hE, -opLen, li, ll, q1, q2, q2i, q3, q3i])) | (apply awp_cond_t; focus (simp [a1, hE, -opLen, li, ll, q1, q2, q2i, q3, q3i]; done)) | (apply awp_cond_f; focus (simp [a1, hE, -opLen, li, ll, q1, q2, q2i, q3, q3i]; done)) | (refine awp_cond ?_; simp [a1, hE, -opLen, li, ll, q1, q2, q2i, q3, q3i]; refine ⟨?_, ?_⟩ <;> intro hc))
    refine PCalls.use hc2 ?_
    cases b5 with
    | true =>
      (try (first | (with_reducible refine dops_go ?_; simp [a1, hE, -opLen, li, ll, q1, q2, q2i, q3, q3i]) | (with_reducible refine OKv_go ?_; simp [a1, hE, -opLen, li, ll, q1, q2, q2i, q3, q3i]) | (with_reducible refine OKr_go ?_; simp [a1, hE, -opLen, li, ll, q1, q2, q2i, q3, q3i]))); repeat' (first | refine awp_seq ?_ | refine awp_block ?_ | (refine awp_skip ?_; try simp) | (refine awp_exit ?_; try simp) | (refine awp_ret ?_; try simp) | (refine retP_same (by simp) ?_; simp) | (refine retP_flat (by simp) (by simp) (by simp (maxDischargeDepth := 30) [a1, hE, -opLen, li, ll, q1, q2, q2i, q3, q3i]) ?_; simp) | (refine awp_reg ?_; simp [a1, hE, -opLen, li, ll, q1, q2, q2i, q3, q3i]) | (refine awp_drawT (fun _ => false) mixed (by decide +kernel) ?_; simp [a1, hE, -opLen, li, ll, q1, q2, q2i, q3, q3i]) | (refine guarded_split ?_ ?_ <;> (intro hg; simp only [hg]; simp [a1, hE, -opLen, li, ll, q1, q2, q2i, q3, q3i])) | (apply awp_cond_t; focus (simp [a1, hE, -opLen, li, ll, q1, q2, q2i, q3, q3i]; done)) | (apply awp_cond_f; focus (simp [a1, hE, -opLen, li, ll, q1, q2, q2i, q3, q3i]; done)) | (refine awp_cond ?_; simp [a1, hE, -opLen, li, ll, q1, q2, q2i, q3, q3i]; refine ⟨?_, ?_⟩ <;> intro hc))
    | false =>
      (try (first | (with_reducible refine dops_go ?_; simp [a1, hE, -opLen, li, ll, q1, q2, q2i, q3, q3i]) | (with_reducible refine OKv_go ?_; simp [a1, hE, -opLen, li, ll, q1, q2, q2i, q3, q3i]) | (with_reducible refine OKr_go ?_; simp [a1, hE, -opLen, li, ll, q1, q2, q2i, q3, q3i]))); repeat' (first | refine awp_seq ?_ | refine awp_block ?_ | (refine awp_skip ?_; try simp) | (refine awp_exit ?_; try simp) | (refine awp_ret ?_; try simp) | (refine retP_same (by simp) ?_; simp) | (refine retP_flat (by simp) (by simp) (by simp (maxDischargeDepth := 30) [a1, hE, -opLen, li, ll, q1, q2, q2i, q3, q3i]) ?_; simp) | (refine awp_reg ?_; simp [a1, hE, -opLen, li, ll, q1, q2, q2i, q3, q3i]) | (refine awp_drawT (fun _ => false) mixed (by decide +kernel) ?_; simp [a1, hE, -opLen, li, ll, q1, q2, q2i, q3, q3i]) | (refine guarded_split ?_ ?_ <;> (intro hg; simp only [hg]; simp [a1, hE, -opLen, li, ll, q1, q2, q2i, q3, q3i])) | (apply awp_cond_t; focus (simp [a1, hE, -opLen, li, ll, q1, q2, q2i, q3, q3i]; done)) | (apply awp_cond_f; focus (simp [a1, hE, -opLen, li, ll, q1, q2, q2i, q3, q3i]; done)) | (refine awp_cond ?_; simp [a1, hE, -opLen, li, ll, q1, q2, q2i, q3, q3i]; refine ⟨?_, ?_⟩ <;> intro hc))
      refine awp_drawT (fun o => o.dst == some 27) mixed (by decide +kernel) ?_
      (try (first | (with_reducible refine dops_go ?_; simp [a1, hE, -opLen, li, ll, q1, q2, q2i, q3, q3i, tp_fold]) | (with_reducible refine OKv_go ?_; simp [a1, hE, -opLen, li, ll, q1, q2, q2i, q3, q3i, tp_fold]) | (with_reducible refine OKr_go ?_; simp [a1, hE, -opLen, li, ll, q1, q2, q2i, q3, q3i, tp_fold]))); repeat' (first | refine awp_seq ?_ | refine awp_block ?_ | (refine awp_skip ?_; try simp) | (refine awp_exit ?_; try simp) | (refine awp_ret ?_; try simp) | (refine retP_same (by simp) ?_; simp) | (refine retP_flat (by simp) (by simp) (by simp (maxDischargeDepth := 30) [a1, hE, -opLen, li, ll, q1, q2, q2i, q3, q3i, tp_fold]) ?_; simp) | (refine awp_reg ?_; simp [a1, hE, -opLen, li, ll, q1, q2, q2i, q3, q3i, tp_fold]) | (refine awp_drawT (fun _ => false) mixed (by decide +kernel) ?_; simp [a1, hE, -opLen, li, ll, q1, q2, q2i, q3, q3i, tp_fold]) | (refine guarded_split ?_ ?_ <;> (intro hg; simp only [hg]; simp [a1, hE, -opLen, li, ll, q1, q2, q2i, q3, q3i, tp_fold])) | (apply awp_cond_t; focus (simp [a1, hE, -opLen, li, ll, q1, q2, q2i, q3, q3i, tp_fold]; done)) | (apply awp_cond_f; focus (simp [a1, hE, -opLen, li, ll, q1, q2, q2i, q3, q3i, tp_fold]; done)) | (refine awp_cond ?_; simp [a1, hE, -opLen, li, ll, q1, q2, q2i, q3, q3i, tp_fold]; refine ⟨?_, ?_⟩ <;> intro hc))
      refine .inr ⟨_, _, _, hj, ?_⟩
      (try (first | (with_reducible refine dops_go ?_; simp [a1, hE, -opLen, ll2, lm, q1, q2, q3, tp_fold, w2]) | (with_reducible refine OKv_go ?_; simp [a1, hE, -opLen, ll2, lm, q1, q2, q3, tp_fold, w2]) | (with_reducible refine OKr_go ?_; simp [a1, hE, -opLen, ll2, lm, q1, q2, q3, tp_fold, w2]))); repeat' (first | refine awp_seq ?_ | refine awp_block ?_ | (refine awp_skip ?_; try simp) | (refine awp_exit ?_; try simp) | (refine awp_ret ?_; try simp) | (refine retP_same (by simp) ?_; simp) | (refine retP_flat (by simp) (by simp) (by simp (maxDischargeDepth := 30) [a1, hE, -opLen, ll2, lm, q1, q2, q3, tp_fold, w2]) ?_; simp) | (refine awp_reg ?_; simp [a1, hE, -opLen, ll2, lm, q1, q2, q3, tp_fold, w2]) | (refine awp_drawT (fun _ => false) mixed (by decide +kernel) ?_; simp [a1, hE, -opLen, ll2, lm, q1, q2, q3, tp_fold, w2]) | (refine guarded_split ?_ ?_ <;> (intro hg; simp only [hg]; simp [a1, hE, -opLen, ll2, lm, q1, q2, q3, tp_fold, w2])) | (apply awp_cond_t; focus (simp [a1, hE, -opLen, ll2, lm, q1, q2, q3, tp_fold, w2]; done)) | (apply awp_cond_f; focus (simp [a1, hE, -opLen, ll2, lm, q1, q2, q3, tp_fold, w2]; done)) | (refine awp_cond ?_; simp [a1, hE, -opLen, ll2, lm, q1, q2, q3, tp_fold, w2]; refine ⟨?_, ?_⟩ <;> intro hc))
      rw [show decide ((c : Int) = 2 * (k : Int)) = decide (c = 2 * k) by (congr 1; exact propext (by omega))]
      simp [q1, q2, q3]
end Go.Proofs.YtanimmdlgmkmkaaGreat.Av


/- Networks: lists that are alike. -/
namespace Go.Proofs.YtanimmdlgmkmkaaGreat.Av
open Go
set_option linter.unusedSimpArgs false
set_option linter.unusedVariables false
set_option maxRecDepth 100000
set_option maxHeartbeats 2000000
set_option pp.maxSteps 300

theorem opBin_raw {P : Program} {op : BinOp} {t : TypeId} {a b : Value} : opBin P op t (.raw a) (.raw b) = opBin0 P op t (.raw a) (.raw b) := rfl
theorem lk_eq (a b : Lk) : structEq Tryz.prog 4 160 (lkAV a) (lkAV b) = some (decide (a = b)) := by
  have : decide (a = b) = (decide (a.a.dev = b.a.dev) && decide (a.a.port = b.a.port) && (decide (a.b.dev = b.b.dev) && decide (a.b.port = b.b.port))) := by
    rcases a with ⟨⟨a1, a2⟩, ⟨a3, a4⟩⟩; rcases b with ⟨⟨b1, b2⟩, ⟨b3, b4⟩⟩
    rw [Bool.eq_iff_iff]; simp
  rw [this]
  simp [structEq, lkAV, fieldsEq, rowLoad, cellEq]
theorem lk_neq (a b : Lk) : opBin Tryz.prog .neq 160 (lkAV a) (lkAV b) = some (.raw (.bool (!decide (a = b)))) := by
  have e1 : ∀ x y : Lk, opBin Tryz.prog .neq 160 (lkAV x) (lkAV y) = if Tryz.prog.eqGuardType Tryz.prog.depth 160 = false then (structEq Tryz.prog 4 160 (lkAV x) (lkAV y)).bind fun b => (nilBin .neq b).map .raw else none := fun x y => rfl
  rw [e1, if_pos eqg160, lk_eq]
  rfl
end Go.Proofs.YtanimmdlgmkmkaaGreat.Av


/- Networks: topologies that are alike; what fits, by the document. -/
namespace Go.Proofs.YtanimmdlgmkmkaaGreat.Av
open Go
set_option linter.unusedSimpArgs false
set_option linter.unusedVariables false
set_option maxRecDepth 100000
set_option maxHeartbeats 2000000
set_option pp.maxSteps 300

theorem refHas_calls (t : Tp) (f : Fl) (p : Pt) (hl : t.ports.length < 2 ^ 60) : PCalls Tryz.prog 171 [tpAV t f, ptAV p] (.raw (.bool (hasB t p))) := by
  refine pbody Tryz.func171 rfl (N := 32) rfl rfl (by simp) (by simp [noIds]) fun σ => ?_
  by_cases h1 : 0 ≤ p.dev
  · obtain ⟨k, hk⟩ : ∃ k : Nat, p.dev = k := ⟨p.dev.toNat, by omega⟩
    by_cases h2 : k < t.ports.length
    · have hx : t.ports[k]? = some t.ports[k] := List.getElem?_eq_getElem h2
      (try (first | (with_reducible refine dops_go ?_; simp [tpAV, ptAV, intsAV, linksAV, iAV, hk, h2, hx]) | (with_reducible refine OKv_go ?_; simp [tpAV, ptAV, intsAV, linksAV, iAV, hk, h2, hx]) | (with_reducible refine OKr_go ?_; simp [tpAV, ptAV, intsAV, linksAV, iAV, hk, h2, hx]))); repeat' (first | refine awp_seq ?_ | refine awp_block ?_ | (refine awp_skip ?_; try simp) | (refine awp_exit ?_; try simp) | (refine awp_ret ?_; try simp) | (refine retP_same (by simp) ?_; simp) | (refine retP_flat (by simp) (by simp) (by simp (maxDischargeDepth := 30) [tpAV, ptAV, intsAV, linksAV, iAV, hk, h2, hx]) ?_; simp) | (refine awp_reg ?_; simp [tpAV, ptAV, intsAV, linksAV, iAV, hk, h2, hx]) | (refine awp_drawT (fun _ => false) mixed (by decide +kernel) ?_; simp [tpAV, ptAV, intsAV, linksAV, iAV, hk, h2, hx]) | (refine guarded_split ?_ ?_ <;> (intro hg; simp only [hg]; simp [tpAV, ptAV, intsAV, linksAV, iAV, hk, h2, hx])) | (apply awp_cond_t; focus (simp [tpAV, ptAV, intsAV, linksAV, iAV, hk, h2, hx]; done)) | (apply awp_cond_f; focus (simp [tpAV, ptAV, intsAV, linksAV, iAV, hk, h2, hx]; done)) | (refine awp_cond ?_; simp [tpAV, ptAV, intsAV, linksAV, iAV, hk, h2, hx]; refine ⟨?_, ?_⟩ <;> intro hc))
      all_goals (simp_all [hasB] <;> intros <;> omega)
    · have hx : t.ports[k]? = none := List.getElem?_eq_none (by omega)
      (try (first | (with_reducible refine dops_go ?_; simp [tpAV, ptAV, intsAV, linksAV, iAV, hk, h2, hx]) | (with_reducible refine OKv_go ?_; simp [tpAV, ptAV, intsAV, linksAV, iAV, hk, h2, hx]) | (with_reducible refine OKr_go ?_; simp [tpAV, ptAV, intsAV, linksAV, iAV, hk, h2, hx]))); repeat' (first | refine awp_seq ?_ | refine awp_block ?_ | (refine awp_skip ?_; try simp) | (refine awp_exit ?_; try simp) | (refine awp_ret ?_; try simp) | (refine retP_same (by simp) ?_; simp) | (refine retP_flat (by simp) (by simp) (by simp (maxDischargeDepth := 30) [tpAV, ptAV, intsAV, linksAV, iAV, hk, h2, hx]) ?_; simp) | (refine awp_reg ?_; simp [tpAV, ptAV, intsAV, linksAV, iAV, hk, h2, hx]) | (refine awp_drawT (fun _ => false) mixed (by decide +kernel) ?_; simp [tpAV, ptAV, intsAV, linksAV, iAV, hk, h2, hx]) | (refine guarded_split ?_ ?_ <;> (intro hg; simp only [hg]; simp [tpAV, ptAV, intsAV, linksAV, iAV, hk, h2, hx])) | (apply awp_cond_t; focus (simp [tpAV, ptAV, intsAV, linksAV, iAV, hk, h2, hx]; done)) | (apply awp_cond_f; focus (simp [tpAV, ptAV, intsAV, linksAV, iAV, hk, h2, hx]; done)) | (refine awp_cond ?_; simp [tpAV, ptAV, intsAV, linksAV, iAV, hk, h2, hx]; refine ⟨?_, ?_⟩ <;> intro hc))
      all_goals (simp_all [hasB] <;> intros <;> omega)
  · (try (first | (with_reducible refine dops_go ?_; simp [tpAV, ptAV, intsAV, linksAV, iAV, h1]) | (with_reducible refine OKv_go ?_; simp [tpAV, ptAV, intsAV, linksAV, iAV, h1]) | (with_reducible refine OKr_go ?_; simp [tpAV, ptAV, intsAV, linksAV, iAV, h1]))); repeat' (first | refine awp_seq ?_ | refine awp_block ?_ | (refine awp_skip ?_; try simp) | (refine awp_exit ?_; try simp) | (refine awp_ret ?_; try simp) | (refine retP_same (by simp) ?_; simp) | (refine retP_flat (by simp) (by simp) (by simp (maxDischargeDepth := 30) [tpAV, ptAV, intsAV, linksAV, iAV, h1]) ?_; simp) | (refine awp_reg ?_; simp [tpAV, ptAV, intsAV, linksAV, iAV, h1]) | (refine awp_drawT (fun _ => false) mixed (by decide +kernel) ?_; simp [tpAV, ptAV, intsAV, linksAV, iAV, h1]) | (refine guarded_split ?_ ?_ <;> (intro hg; simp only [hg]; simp [tpAV, ptAV, intsAV, linksAV, iAV, h1])) | (apply awp_cond_t; focus (simp [tpAV, ptAV, intsAV, linksAV, iAV, h1]; done)) | (apply awp_cond_f; focus (simp [tpAV, ptAV, intsAV, linksAV, iAV, h1]; done)) | (refine awp_cond ?_; simp [tpAV, ptAV, intsAV, linksAV, iAV, h1]; refine ⟨?_, ?_⟩ <;> intro hc))
    all_goals (simp_all [hasB] <;> intros <;> omega)
theorem refFits_calls (t : Tp) (f : Fl) (l : List Ru) (g : Bool) (hl : t.ports.length < 2 ^ 60) (hl2 : l.length < 2 ^ 60) : PCalls Tryz.prog 124 [tpAV t f, rulesAV l g] (.raw (.bool (fitsB t l))) := by
  refine pbody Tryz.func124 rfl (N := 28) rfl rfl (by simp) (by simp [noIds]) fun σ => ?_
  have ho1 : cellOK (intsAV t.ports f.p) = true := rfl
  have ho2 : cellOK (linksAV t.links f.l) = true := rfl
  simp only [cellOK] at ho1 ho2
  (try (first | (with_reducible refine dops_go ?_; simp [tp_cells, ho1, ho2]) | (with_reducible refine OKv_go ?_; simp [tp_cells, ho1, ho2]) | (with_reducible refine OKr_go ?_; simp [tp_cells, ho1, ho2]))); repeat' (first | refine awp_seq ?_ | refine awp_block ?_ | (refine awp_skip ?_; try simp) | (refine awp_exit ?_; try simp) | (refine awp_ret ?_; try simp) | (refine retP_same (by simp) ?_; simp) | (refine retP_flat (by simp) (by simp) (by simp (maxDischargeDepth := 30) [tp_cells, ho1, ho2]) ?_; simp) | (refine awp_reg ?_; simp [tp_cells, ho1, ho2]) | (refine awp_drawT (fun _ => false) mixed (by decide +kernel) ?_; simp [tp_cells, ho1, ho2]) | (refine guarded_split ?_ ?_ <;> (intro hg; simp only [hg]; simp [tp_cells, ho1, ho2])) | (apply awp_cond_t; focus (simp [tp_cells, ho1, ho2]; done)) | (apply awp_cond_f; focus (simp [tp_cells, ho1, ho2]; done)) | (refine awp_cond ?_; simp [tp_cells, ho1, ho2]; refine ⟨?_, ?_⟩ <;> intro hc))
  refine awp_loopH (fun n A τ => τ = σ.new 2 2 (.buf [tpAV t f]) ∧ A 1 = rulesAV l g ∧ A 2 = .rp ⟨2, σ.nx 2, 2⟩ 0 0 ∧ ∃ i : Nat, A 5 = .raw (.int .i64 i) ∧ i ≤ l.length ∧ n = l.length - i ∧ ∀ r ∈ l.take i, hasB t ⟨r.dev, r.port⟩ = true) l.length ?_ ?_
  · exact ⟨rfl, by simp, by simp, 0, by simp, by omega, by omega, by simp⟩
  rintro n A τ ⟨rfl, a1, a2, i, a5, hi, rfl, hok⟩ I1 hI1
  by_cases hlt : i < l.length
  · have hx : l[i]? = some l[i] := List.getElem?_eq_getElem hlt
    have w1 : IntKind.i64.wrap ((i : Int) + 1) = ((i + 1 : Nat) : Int) := by rw [wrap64 (by omega) (by omega)]; omega
    obtain ⟨b, hb⟩ : ∃ b, hasB t ⟨l[i].dev, l[i].port⟩ = b := ⟨_, rfl⟩
    have hc := hb ▸ refHas_calls t f ⟨l[i].dev, l[i].port⟩ hl
    (try (first | (with_reducible refine dops_go ?_; simp [rulesAV, a1, a2, a5, hlt, hx, tp_cells, tp_fold, ru_cells, ruPort_fold, ho1, ho2, w1]) | (with_reducible refine OKv_go ?_; simp [rulesAV, a1, a2, a5, hlt, hx, tp_cells, tp_fold, ru_cells, ruPort_fold, ho1, ho2, w1]) | (with_reducible refine OKr_go ?_; simp [rulesAV, a1, a2, a5, hlt, hx, tp_cells, tp_fold, ru_cells, ruPort_fold, ho1, ho2, w1]))); repeat' (first | refine awp_seq ?_ | refine awp_block ?_ | (refine awp_skip ?_; try simp) | (refine awp_exit ?_; try simp) | (refine awp_ret ?_; try simp) | (refine retP_same (by simp) ?_; simp) | (refine retP_flat (by simp) (by simp) (by simp (maxDischargeDepth := 30) [rulesAV, a1, a2, a5, hlt, hx, tp_cells, tp_fold, ru_cells, ruPort_fold, ho1, ho2, w1]) ?_; simp) | (refine awp_reg ?_; simp [rulesAV, a1, a2, a5, hlt, hx, tp_cells, tp_fold, ru_cells, ruPort_fold, ho1, ho2, w1]) | (refine awp_drawT (fun _ => false) mixed (by decide +kernel) ?_; simp [rulesAV, a1, a2, a5, hlt, hx, tp_cells, tp_fold, ru_cells, ruPort_fold, ho1, ho2, w1]) | (refine guarded_split ?_ ?_ <;> (intro hg; simp only [hg]; simp [rulesAV, a1, a2, a5, hlt, hx, tp_cells, tp_fold, ru_cells, ruPort_fold, ho1, ho2, w1])) | (apply awp_cond_t; focus (simp [rulesAV, a1, a2, a5, hlt, hx, tp_cells, tp_fold, ru_cells, ruPort_fold, ho1, ho2, w1]; done)) | (apply awp_cond_f; focus (simp [rulesAV, a1, a2, a5, hlt, hx, tp_cells, tp_fold, ru_cells, ruPort_fold, ho1, ho2, w1]; done)) | (refine awp_cond ?_; simp [rulesAV, a1, a2, a5, hlt, hx, tp_cells, tp_fold, ru_cells, ruPort_fold, ho1, ho2, w1]; refine ⟨?_, ?_⟩ <;> intro hc))
    refine PCalls.use hc ?_
    cases b with
    | true =>
      (try (first | (with_reducible refine dops_go ?_; simp [rulesAV, a1, a2, a5, hlt, hx, tp_cells, tp_fold, ru_cells, ruPort_fold, ho1, ho2, w1]) | (with_reducible refine OKv_go ?_; simp [rulesAV, a1, a2, a5, hlt, hx, tp_cells, tp_fold, ru_cells, ruPort_fold, ho1, ho2, w1]) | (with_reducible refine OKr_go ?_; simp [rulesAV, a1, a2, a5, hlt, hx, tp_cells, tp_fold, ru_cells, ruPort_fold, ho1, ho2, w1]))); repeat' (first | refine awp_seq ?_ | refine awp_block ?_ | (refine awp_skip ?_; try simp) | (refine awp_exit ?_; try simp) | (refine awp_ret ?_; try simp) | (refine retP_same (by simp) ?_; simp) | (refine retP_flat (by simp) (by simp) (by simp (maxDischargeDepth := 30) [rulesAV, a1, a2, a5, hlt, hx, tp_cells, tp_fold, ru_cells, ruPort_fold, ho1, ho2, w1]) ?_; simp) | (refine awp_reg ?_; simp [rulesAV, a1, a2, a5, hlt, hx, tp_cells, tp_fold, ru_cells, ruPort_fold, ho1, ho2, w1]) | (refine awp_drawT (fun _ => false) mixed (by decide +kernel) ?_; simp [rulesAV, a1, a2, a5, hlt, hx, tp_cells, tp_fold, ru_cells, ruPort_fold, ho1, ho2, w1]) | (refine guarded_split ?_ ?_ <;> (intro hg; simp only [hg]; simp [rulesAV, a1, a2, a5, hlt, hx, tp_cells, tp_fold, ru_cells, ruPort_fold, ho1, ho2, w1])) | (apply awp_cond_t; focus (simp [rulesAV, a1, a2, a5, hlt, hx, tp_cells, tp_fold, ru_cells, ruPort_fold, ho1, ho2, w1]; done)) | (apply awp_cond_f; focus (simp [rulesAV, a1, a2, a5, hlt, hx, tp_cells, tp_fold, ru_cells, ruPort_fold, ho1, ho2, w1]; done)) | (refine awp_cond ?_; simp [rulesAV, a1, a2, a5, hlt, hx, tp_cells, tp_fold, ru_cells, ruPort_fold, ho1, ho2, w1]; refine ⟨?_, ?_⟩ <;> intro hc))
      refine hI1 (l.length - (i + 1)) _ _ (by omega) ⟨by simp, by simp [a1, rulesAV], by simp [a2], i + 1, by simp [w1], by omega, rfl, fun r hr => ?_⟩
      rw [List.take_add_one, hx] at hr
      rcases List.mem_append.1 hr with hr | hr
      · exact hok r hr
      · simp at hr; subst hr; exact hb
    | false =>
      have hf : fitsB t l = false := by
        unfold fitsB
        rw [List.any_eq_true.2 ⟨l[i], List.getElem_mem _, by simp [hb]⟩]; rfl
      (try (first | (with_reducible refine dops_go ?_; simp [rulesAV, a1, a2, a5, hlt, hx, tp_cells, tp_fold, ru_cells, ruPort_fold, ho1, ho2, w1]) | (with_reducible refine OKv_go ?_; simp [rulesAV, a1, a2, a5, hlt, hx, tp_cells, tp_fold, ru_cells, ruPort_fold, ho1, ho2, w1]) | (with_reducible refine OKr_go ?_; simp [rulesAV, a1, a2, a5, hlt, hx, tp_cells, tp_fold, ru_cells, ruPort_fold, ho1, ho2, w1]))); repeat' (first | refine awp_seq ?_ | refine awp_block ?_ | (refine awp_skip ?_; try simp) | (refine awp_exit ?_; try simp) | (refine awp_ret ?_; try simp) | (refine retP_same (by simp) ?_; simp) | (refine retP_flat (by simp) (by simp) (by simp (maxDischargeDepth := 30) [rulesAV, a1, a2, a5, hlt, hx, tp_cells, tp_fold, ru_cells, ruPort_fold, ho1, ho2, w1]) ?_; simp) | (refine awp_reg ?_; simp [rulesAV, a1, a2, a5, hlt, hx, tp_cells, tp_fold, ru_cells, ruPort_fold, ho1, ho2, w1]) | (refine awp_drawT (fun _ => false) mixed (by decide +kernel) ?_; simp [rulesAV, a1, a2, a5, hlt, hx, tp_cells, tp_fold, ru_cells, ruPort_fold, ho1, ho2, w1]) | (refine guarded_split ?_ ?_ <;> (intro hg; simp only [hg]; simp [rulesAV, a1, a2, a5, hlt, hx, tp_cells, tp_fold, ru_cells, ruPort_fold, ho1, ho2, w1])) | (apply awp_cond_t; focus (simp [rulesAV, a1, a2, a5, hlt, hx, tp_cells, tp_fold, ru_cells, ruPort_fold, ho1, ho2, w1]; done)) | (apply awp_cond_f; focus (simp [rulesAV, a1, a2, a5, hlt, hx, tp_cells, tp_fold, ru_cells, ruPort_fold, ho1, ho2, w1]; done)) | (refine awp_cond ?_; simp [rulesAV, a1, a2, a5, hlt, hx, tp_cells, tp_fold, ru_cells, ruPort_fold, ho1, ho2, w1]; refine ⟨?_, ?_⟩ <;> intro hc))
      exact hf
  · have : i = l.length := by omega
    subst this
    rw [List.take_length] at hok
    have hf : fitsB t l = true := by
      unfold fitsB
      rw [List.any_eq_false.2 (fun r hr => by simp [hok r hr])]; rfl
    (try (first | (with_reducible refine dops_go ?_; simp [rulesAV, a1, a2, a5]) | (with_reducible refine OKv_go ?_; simp [rulesAV, a1, a2, a5]) | (with_reducible refine OKr_go ?_; simp [rulesAV, a1, a2, a5]))); repeat' (first | refine awp_seq ?_ | refine awp_block ?_ | (refine awp_skip ?_; try simp) | (refine awp_exit ?_; try simp) | (refine awp_ret ?_; try simp) | (refine retP_same (by simp) ?_; simp) | (refine retP_flat (by simp) (by simp) (by simp (maxDischargeDepth := 30) [rulesAV, a1, a2, a5]) ?_; simp) | (refine awp_reg ?_; simp [rulesAV, a1, a2, a5]) | (refine awp_drawT (fun _ => false) mixed (by decide +kernel) ?_; simp [rulesAV, a1, a2, a5]) | (refine guarded_split ?_ ?_ <;> (intro hg; simp only [hg]; simp [rulesAV, a1, a2, a5])) | (apply awp_cond_t; focus (simp [rulesAV, a1, a2, a5]; done)) | (apply awp_cond_f; focus (simp [rulesAV, a1, a2, a5]; done)) | (refine awp_cond ?_; simp [rulesAV, a1, a2, a5]; refine ⟨?_, ?_⟩ <;> intro hc))
    exact hf
end Go.Proofs.YtanimmdlgmkmkaaGreat.Av


/- Networks: the document's next port. -/
namespace Go.Proofs.YtanimmdlgmkmkaaGreat.Av
open Go
set_option linter.unusedSimpArgs false
set_option linter.unusedVariables false
set_option maxRecDepth 100000
set_option maxHeartbeats 2000000
set_option pp.maxSteps 2500

theorem nnx {σ : St} {slot sz s : Nat} {o : Ob} : (σ.new slot sz o).nx s = if s = slot then σ.nx s + 1 else σ.nx s := rfl
/-- The port to which a port is joined, as the document says it: the first link that has it. -/
def refNextL : List Lk → Pt → Option Pt
  | [], _ => none
  | l :: ls, p => if l.a = p then some l.b else if l.b = p then some l.a else refNextL ls p
theorem refNext_calls (t : Tp) (f : Fl) (p : Pt) (hl : t.links.length < 2 ^ 60) :
    PCalls Tryz.prog 120 [tpAV t f, ptAV p] (.tup [ptAV ((refNextL t.links p).getD ⟨0, 0⟩), .raw (.bool (refNextL t.links p).isSome)]) := by
  refine pbody Tryz.func120 rfl (N := 43) rfl rfl (by simp) (by simp [noIds, ptAV]) fun σ => ?_
  have ho1 : cellOK (intsAV t.ports f.p) = true := rfl
  have ho2 : cellOK (linksAV t.links f.l) = true := rfl
  simp only [cellOK] at ho1 ho2
  have hbin : ∀ x y : Pt, opBin Tryz.prog .eql 41 (ptAV x) (ptAV y) = some (.raw (.bool (decide (x = y)))) := fun x y => by
    have e1 : opBin Tryz.prog .eql 41 (ptAV x) (ptAV y) = if Tryz.prog.eqGuardType Tryz.prog.depth 41 = false then (structEq Tryz.prog 4 41 (ptAV x) (ptAV y)).bind fun b => (nilBin .eql b).map .raw else none := rfl
    have := key_eq x y
    rw [e1, if_pos eqg41]
    rw [show structEq Tryz.prog 4 41 (ptAV x) (ptAV y) = some (decide (x = y)) from this]
    rfl
  have hpc : ∀ q : Pt, (ptAV q).cells = [.raw (.int .i64 q.dev), .raw (.int .i64 q.port)] := fun q => rfl
  have hn3 : (σ.new 2 2 (Ob.buf [tpAV t f])).nx 3 = σ.nx 3 := by simp [St.new]
  have hn4 : ((σ.new 2 2 (Ob.buf [tpAV t f])).new 3 2 (Ob.buf [ptAV p])).nx 4 = σ.nx 4 := by simp [St.new]
  have hz : AV.agg [.raw (.int .i64 0), .raw (.int .i64 0)] = ptAV ⟨0, 0⟩ := rfl
  (try (first | (with_reducible refine dops_go ?_; simp [tp_cells, ho1, ho2, hpc]) | (with_reducible refine OKv_go ?_; simp [tp_cells, ho1, ho2, hpc]) | (with_reducible refine OKr_go ?_; simp [tp_cells, ho1, ho2, hpc]))); repeat' (first | refine awp_seq ?_ | refine awp_block ?_ | (refine awp_skip ?_; try simp) | (refine awp_exit ?_; try simp) | (refine awp_ret ?_; try simp) | (refine retP_same (by simp) ?_; simp) | (refine retP_flat (by simp) (by simp) (by simp (maxDischargeDepth := 30) [tp_cells, ho1, ho2, hpc]) ?_; simp) | (refine awp_reg ?_; simp [tp_cells, ho1, ho2, hpc]) | (refine awp_drawT (fun _ => false) mixed (by decide +kernel) ?_; simp [tp_cells, ho1, ho2, hpc]) | (refine guarded_split ?_ ?_ <;> (intro hg; simp only [hg]; simp [tp_cells, ho1, ho2, hpc])) | (apply awp_cond_t; focus (simp [tp_cells, ho1, ho2, hpc]; done)) | (apply awp_cond_f; focus (simp [tp_cells, ho1, ho2, hpc]; done)) | (refine awp_cond ?_; simp [tp_cells, ho1, ho2, hpc]; refine ⟨?_, ?_⟩ <;> intro hc))
  refine awp_loopH (fun n A τ => τ = ((σ.new 2 2 (.buf [tpAV t f])).new 3 2 (.buf [ptAV p])).new 4 2 (.buf [ptAV ⟨0, 0⟩]) ∧ A 2 = .rp ⟨2, σ.nx 2, 2⟩ 0 0 ∧ A 3 = .rp ⟨3, σ.nx 3, 2⟩ 0 0 ∧ A 4 = .rp ⟨4, σ.nx 4, 2⟩ 0 0 ∧ A 5 = .raw (.bool false) ∧ ∃ i : Nat, A 6 = .raw (.int .i64 i) ∧ i ≤ t.links.length ∧ n = t.links.length - i ∧ refNextL t.links p = refNextL (t.links.drop i) p) t.links.length ?_ ?_
  · refine ⟨by simp [hz, hpc], by simp, by simp [hpc, hn3], by simp [hpc, hn4], by simp, 0, by simp, by omega, by omega, by simp⟩
  rintro n A τ ⟨rfl, a2, a3, a4, a5, i, a6, hi, rfl, hall⟩ I1 hI1
  obtain ⟨τ, hτ⟩ : ∃ τ, ((σ.new 2 2 (.buf [tpAV t f])).new 3 2 (.buf [ptAV p])).new 4 2 (.buf [ptAV ⟨0, 0⟩]) = τ := ⟨_, rfl⟩
  have m2 : τ.m ⟨2, σ.nx 2, 2⟩ = some (.buf [tpAV t f]) := by rw [← hτ]; simp [St.new]
  have m3 : τ.m ⟨3, σ.nx 3, 2⟩ = some (.buf [ptAV p]) := by rw [← hτ]; simp [St.new]
  have m4 : τ.m ⟨4, σ.nx 4, 2⟩ = some (.buf [ptAV ⟨0, 0⟩]) := by rw [← hτ]; simp [St.new]
  have fs : ∀ q, Ext σ (τ.set ⟨4, σ.nx 4, 2⟩ (.buf [ptAV q])) := fun q => by
    rw [← hτ]
    repeat (first | exact Ext.refl _ | refine ext_new' ?_ | refine Ext.setF ?_ (by simp [nnx, St.set, fresh_none]))
  rw [hτ] at hI1 ⊢
  have hsp : ∀ x y : Int, setPart (ptAV ⟨0, 0⟩) 0 [.raw (.int .i64 x), .raw (.int .i64 y)] = ptAV ⟨x, y⟩ := fun _ _ => rfl
  have fa : ∀ l : Lk, AV.agg [.raw (.int .i64 l.a.dev), .raw (.int .i64 l.a.port)] = ptAV l.a := fun _ => rfl
  have fb : ∀ l : Lk, AV.agg [.raw (.int .i64 l.b.dev), .raw (.int .i64 l.b.port)] = ptAV l.b := fun _ => rfl
  have fp : ∀ q : Pt, AV.agg [.raw (.int .i64 q.dev), .raw (.int .i64 q.port)] = ptAV q := fun _ => rfl
  by_cases hlt : i < t.links.length
  · have hx : t.links[i]? = some t.links[i] := List.getElem?_eq_getElem hlt
    have w1 : IntKind.i64.wrap ((i : Int) + 1) = ((i + 1 : Nat) : Int) := by rw [wrap64 (by omega) (by omega)]; omega
    have hd : t.links.drop i = t.links[i] :: t.links.drop (i + 1) := List.drop_eq_getElem_cons hlt
    rw [hd] at hall
    simp only [refNextL] at hall
    by_cases q1 : t.links[i].a = p
    · rw [if_pos q1] at hall
      rw [hall]
      (try (first | (with_reducible refine dops_go ?_; simp [linksAV, a2, a3, a4, a5, a6, hlt, hx, tp_cells, m2, m3, m4, ho1, ho2, hpc, hsp, lk_cells', fa, fb, fp, -opBin, hbin, opBin_raw, w1, q1]) | (with_reducible refine OKv_go ?_; simp [linksAV, a2, a3, a4, a5, a6, hlt, hx, tp_cells, m2, m3, m4, ho1, ho2, hpc, hsp, lk_cells', fa, fb, fp, -opBin, hbin, opBin_raw, w1, q1]) | (with_reducible refine OKr_go ?_; simp [linksAV, a2, a3, a4, a5, a6, hlt, hx, tp_cells, m2, m3, m4, ho1, ho2, hpc, hsp, lk_cells', fa, fb, fp, -opBin, hbin, opBin_raw, w1, q1]))); repeat' (first | refine awp_seq ?_ | refine awp_block ?_ | (refine awp_skip ?_; try simp) | (refine awp_exit ?_; try simp) | (refine awp_ret ?_; try simp) | (refine retP_same (by simp) ?_; simp) | (refine retP_flat (by simp) (by simp) (by simp (maxDischargeDepth := 30) [linksAV, a2, a3, a4, a5, a6, hlt, hx, tp_cells, m2, m3, m4, ho1, ho2, hpc, hsp, lk_cells', fa, fb, fp, -opBin, hbin, opBin_raw, w1, q1]) ?_; simp) | (refine awp_reg ?_; simp [linksAV, a2, a3, a4, a5, a6, hlt, hx, tp_cells, m2, m3, m4, ho1, ho2, hpc, hsp, lk_cells', fa, fb, fp, -opBin, hbin, opBin_raw, w1, q1]) | (refine awp_drawT (fun _ => false) mixed (by decide +kernel) ?_; simp [linksAV, a2, a3, a4, a5, a6, hlt, hx, tp_cells, m2, m3, m4, ho1, ho2, hpc, hsp, lk_cells', fa, fb, fp, -opBin, hbin, opBin_raw, w1, q1]) | (refine guarded_split ?_ ?_ <;> (intro hg; simp only [hg]; simp [linksAV, a2, a3, a4, a5, a6, hlt, hx, tp_cells, m2, m3, m4, ho1, ho2, hpc, hsp, lk_cells', fa, fb, fp, -opBin, hbin, opBin_raw, w1, q1])) | (apply awp_cond_t; focus (simp [linksAV, a2, a3, a4, a5, a6, hlt, hx, tp_cells, m2, m3, m4, ho1, ho2, hpc, hsp, lk_cells', fa, fb, fp, -opBin, hbin, opBin_raw, w1, q1]; done)) | (apply awp_cond_f; focus (simp [linksAV, a2, a3, a4, a5, a6, hlt, hx, tp_cells, m2, m3, m4, ho1, ho2, hpc, hsp, lk_cells', fa, fb, fp, -opBin, hbin, opBin_raw, w1, q1]; done)) | (refine awp_cond ?_; simp [linksAV, a2, a3, a4, a5, a6, hlt, hx, tp_cells, m2, m3, m4, ho1, ho2, hpc, hsp, lk_cells', fa, fb, fp, -opBin, hbin, opBin_raw, w1, q1]; refine ⟨?_, ?_⟩ <;> intro hc))
      refine retP_flat (.inr rfl) rfl (fs _) ?_
      simp [hsp, hpc, St.set, fp, a4, a5, m4]
    · by_cases q2 : t.links[i].b = p
      · rw [if_neg q1, if_pos q2] at hall
        rw [hall]
        (try (first | (with_reducible refine dops_go ?_; simp [linksAV, a2, a3, a4, a5, a6, hlt, hx, tp_cells, m2, m3, m4, ho1, ho2, hpc, hsp, lk_cells', fa, fb, fp, -opBin, hbin, opBin_raw, w1, q1, q2]) | (with_reducible refine OKv_go ?_; simp [linksAV, a2, a3, a4, a5, a6, hlt, hx, tp_cells, m2, m3, m4, ho1, ho2, hpc, hsp, lk_cells', fa, fb, fp, -opBin, hbin, opBin_raw, w1, q1, q2]) | (with_reducible refine OKr_go ?_; simp [linksAV, a2, a3, a4, a5, a6, hlt, hx, tp_cells, m2, m3, m4, ho1, ho2, hpc, hsp, lk_cells', fa, fb, fp, -opBin, hbin, opBin_raw, w1, q1, q2]))); repeat' (first | refine awp_seq ?_ | refine awp_block ?_ | (refine awp_skip ?_; try simp) | (refine awp_exit ?_; try simp) | (refine awp_ret ?_; try simp) | (refine retP_same (by simp) ?_; simp) | (refine retP_flat (by simp) (by simp) (by simp (maxDischargeDepth := 30) [linksAV, a2, a3, a4, a5, a6, hlt, hx, tp_cells, m2, m3, m4, ho1, ho2, hpc, hsp, lk_cells', fa, fb, fp, -opBin, hbin, opBin_raw, w1, q1, q2]) ?_; simp) | (refine awp_reg ?_; simp [linksAV, a2, a3, a4, a5, a6, hlt, hx, tp_cells, m2, m3, m4, ho1, ho2, hpc, hsp, lk_cells', fa, fb, fp, -opBin, hbin, opBin_raw, w1, q1, q2]) | (refine awp_drawT (fun _ => false) mixed (by decide +kernel) ?_; simp [linksAV, a2, a3, a4, a5, a6, hlt, hx, tp_cells, m2, m3, m4, ho1, ho2, hpc, hsp, lk_cells', fa, fb, fp, -opBin, hbin, opBin_raw, w1, q1, q2]) | (refine guarded_split ?_ ?_ <;> (intro hg; simp only [hg]; simp [linksAV, a2, a3, a4, a5, a6, hlt, hx, tp_cells, m2, m3, m4, ho1, ho2, hpc, hsp, lk_cells', fa, fb, fp, -opBin, hbin, opBin_raw, w1, q1, q2])) | (apply awp_cond_t; focus (simp [linksAV, a2, a3, a4, a5, a6, hlt, hx, tp_cells, m2, m3, m4, ho1, ho2, hpc, hsp, lk_cells', fa, fb, fp, -opBin, hbin, opBin_raw, w1, q1, q2]; done)) | (apply awp_cond_f; focus (simp [linksAV, a2, a3, a4, a5, a6, hlt, hx, tp_cells, m2, m3, m4, ho1, ho2, hpc, hsp, lk_cells', fa, fb, fp, -opBin, hbin, opBin_raw, w1, q1, q2]; done)) | (refine awp_cond ?_; simp [linksAV, a2, a3, a4, a5, a6, hlt, hx, tp_cells, m2, m3, m4, ho1, ho2, hpc, hsp, lk_cells', fa, fb, fp, -opBin, hbin, opBin_raw, w1, q1, q2]; refine ⟨?_, ?_⟩ <;> intro hc))
        refine retP_flat (.inr rfl) rfl (fs _) ?_
        simp [hsp, hpc, St.set, fp, a4, a5, m4]
      · rw [if_neg q1, if_neg q2] at hall
        (try (first | (with_reducible refine dops_go ?_; simp [linksAV, a2, a3, a4, a5, a6, hlt, hx, tp_cells, m2, m3, m4, ho1, ho2, hpc, hsp, lk_cells', fa, fb, fp, -opBin, hbin, opBin_raw, w1, q1, q2]) | (with_reducible refine OKv_go ?_; simp [linksAV, a2, a3, a4, a5, a6, hlt, hx, tp_cells, m2, m3, m4, ho1, ho2, hpc, hsp, lk_cells', fa, fb, fp, -opBin, hbin, opBin_raw, w1, q1, q2]) | (with_reducible refine OKr_go ?_; simp [linksAV, a2, a3, a4, a5, a6, hlt, hx, tp_cells, m2, m3, m4, ho1, ho2, hpc, hsp, lk_cells', fa, fb, fp, -opBin, hbin, opBin_raw, w1, q1, q2]))); repeat' (first | refine awp_seq ?_ | refine awp_block ?_ | (refine awp_skip ?_; try simp) | (refine awp_exit ?_; try simp) | (refine awp_ret ?_; try simp) | (refine retP_same (by simp) ?_; simp) | (refine retP_flat (by simp) (by simp) (by simp (maxDischargeDepth := 30) [linksAV, a2, a3, a4, a5, a6, hlt, hx, tp_cells, m2, m3, m4, ho1, ho2, hpc, hsp, lk_cells', fa, fb, fp, -opBin, hbin, opBin_raw, w1, q1, q2]) ?_; simp) | (refine awp_reg ?_; simp [linksAV, a2, a3, a4, a5, a6, hlt, hx, tp_cells, m2, m3, m4, ho1, ho2, hpc, hsp, lk_cells', fa, fb, fp, -opBin, hbin, opBin_raw, w1, q1, q2]) | (refine awp_drawT (fun _ => false) mixed (by decide +kernel) ?_; simp [linksAV, a2, a3, a4, a5, a6, hlt, hx, tp_cells, m2, m3, m4, ho1, ho2, hpc, hsp, lk_cells', fa, fb, fp, -opBin, hbin, opBin_raw, w1, q1, q2]) | (refine guarded_split ?_ ?_ <;> (intro hg; simp only [hg]; simp [linksAV, a2, a3, a4, a5, a6, hlt, hx, tp_cells, m2, m3, m4, ho1, ho2, hpc, hsp, lk_cells', fa, fb, fp, -opBin, hbin, opBin_raw, w1, q1, q2])) | (apply awp_cond_t; focus (simp [linksAV, a2, a3, a4, a5, a6, hlt, hx, tp_cells, m2, m3, m4, ho1, ho2, hpc, hsp, lk_cells', fa, fb, fp, -opBin, hbin, opBin_raw, w1, q1, q2]; done)) | (apply awp_cond_f; focus (simp [linksAV, a2, a3, a4, a5, a6, hlt, hx, tp_cells, m2, m3, m4, ho1, ho2, hpc, hsp, lk_cells', fa, fb, fp, -opBin, hbin, opBin_raw, w1, q1, q2]; done)) | (refine awp_cond ?_; simp [linksAV, a2, a3, a4, a5, a6, hlt, hx, tp_cells, m2, m3, m4, ho1, ho2, hpc, hsp, lk_cells', fa, fb, fp, -opBin, hbin, opBin_raw, w1, q1, q2]; refine ⟨?_, ?_⟩ <;> intro hc))
        exact hI1 (t.links.length - (i + 1)) _ _ (by omega) ⟨rfl, by simp [a2], by simp [a3], by simp [a4], by simp [a5], i + 1, by simp, by omega, rfl, hall⟩
  · have : i = t.links.length := by omega
    subst this
    rw [List.drop_length] at hall
    simp only [refNextL] at hall
    rw [hall]
    (try (first | (with_reducible refine dops_go ?_; simp [linksAV, a2, a3, a4, a5, a6, m2, m3, m4, tp_cells, ho1, ho2, hpc, hz, hsp]) | (with_reducible refine OKv_go ?_; simp [linksAV, a2, a3, a4, a5, a6, m2, m3, m4, tp_cells, ho1, ho2, hpc, hz, hsp]) | (with_reducible refine OKr_go ?_; simp [linksAV, a2, a3, a4, a5, a6, m2, m3, m4, tp_cells, ho1, ho2, hpc, hz, hsp]))); repeat' (first | refine awp_seq ?_ | refine awp_block ?_ | (refine awp_skip ?_; try simp) | (refine awp_exit ?_; try simp) | (refine awp_ret ?_; try simp) | (refine retP_same (by simp) ?_; simp) | (refine retP_flat (by simp) (by simp) (by simp (maxDischargeDepth := 30) [linksAV, a2, a3, a4, a5, a6, m2, m3, m4, tp_cells, ho1, ho2, hpc, hz, hsp]) ?_; simp) | (refine awp_reg ?_; simp [linksAV, a2, a3, a4, a5, a6, m2, m3, m4, tp_cells, ho1, ho2, hpc, hz, hsp]) | (refine awp_drawT (fun _ => false) mixed (by decide +kernel) ?_; simp [linksAV, a2, a3, a4, a5, a6, m2, m3, m4, tp_cells, ho1, ho2, hpc, hz, hsp]) | (refine guarded_split ?_ ?_ <;> (intro hg; simp only [hg]; simp [linksAV, a2, a3, a4, a5, a6, m2, m3, m4, tp_cells, ho1, ho2, hpc, hz, hsp])) | (apply awp_cond_t; focus (simp [linksAV, a2, a3, a4, a5, a6, m2, m3, m4, tp_cells, ho1, ho2, hpc, hz, hsp]; done)) | (apply awp_cond_f; focus (simp [linksAV, a2, a3, a4, a5, a6, m2, m3, m4, tp_cells, ho1, ho2, hpc, hz, hsp]; done)) | (refine awp_cond ?_; simp [linksAV, a2, a3, a4, a5, a6, m2, m3, m4, tp_cells, ho1, ho2, hpc, hz, hsp]; refine ⟨?_, ?_⟩ <;> intro hc))
    refine retP_flat (.inr rfl) rfl (fs _) ?_
    simp [hsp, hpc, St.set, fp, a4, a5, m4]
    rfl
end Go.Proofs.YtanimmdlgmkmkaaGreat.Av


/- Networks: tracks that are alike. -/
namespace Go.Proofs.YtanimmdlgmkmkaaGreat.Av
open Go
set_option linter.unusedSimpArgs false
set_option linter.unusedVariables false
set_option maxRecDepth 100000
set_option maxHeartbeats 2000000
set_option pp.maxSteps 600

/-- A track: the devices on the way, the end, the last port. -/
structure Tk where
  path : List Int
  out : Int
  last : Pt
deriving DecidableEq
def tkAV (t : Tk) (f : Bool) : AV := .agg [intsAV t.path f, .raw (.int .i64 t.out), .raw (.int .i64 t.last.dev), .raw (.int .i64 t.last.port)]
end Go.Proofs.YtanimmdlgmkmkaaGreat.Av


/- Networks: right rules; searching lists. -/
namespace Go.Proofs.YtanimmdlgmkmkaaGreat.Av
open Go
set_option linter.unusedSimpArgs false
set_option linter.unusedVariables false
set_option maxRecDepth 100000
set_option maxHeartbeats 1000000
set_option pp.maxSteps 300

theorem or_calls (a b : Int) (f : Bool) : PCalls Tryz.prog 242 [intsAV [a, b] f] (.raw (.int .i64 (if a = 0 then b else a))) := by
  refine pbody Tryz.func242 rfl (N := 18) rfl rfl (by simp) (by simp [noIds]) fun σ => ?_
  (try (first | (with_reducible refine dops_go ?_; simp [intsAV, iAV]) | (with_reducible refine OKv_go ?_; simp [intsAV, iAV]) | (with_reducible refine OKr_go ?_; simp [intsAV, iAV]))); repeat' (first | refine awp_seq ?_ | refine awp_block ?_ | (refine awp_skip ?_; try simp) | (refine awp_exit ?_; try simp) | (refine awp_ret ?_; try simp) | (refine retP_same (by simp) ?_; simp) | (refine retP_flat (by simp) (by simp) (by simp (maxDischargeDepth := 30) [intsAV, iAV]) ?_; simp) | (refine awp_reg ?_; simp [intsAV, iAV]) | (refine awp_drawT (fun _ => false) mixed (by decide +kernel) ?_; simp [intsAV, iAV]) | (refine guarded_split ?_ ?_ <;> (intro hg; simp only [hg]; simp [intsAV, iAV])) | (apply awp_cond_t; focus (simp [intsAV, iAV]; done)) | (apply awp_cond_f; focus (simp [intsAV, iAV]; done)) | (refine awp_cond ?_; simp [intsAV, iAV]; refine ⟨?_, ?_⟩ <;> intro hc))
  refine awp_loopH (fun n A τ => τ = σ ∧ A 3 = .raw (.int .i64 0) ∧ A 6 = intsAV [a, b] f ∧ A 7 = .raw (.int .i64 2) ∧ ∃ i : Nat, A 8 = .raw (.int .i64 i) ∧ i ≤ 2 ∧ n = 2 - i ∧ (0 < i → a = 0) ∧ (1 < i → b = 0)) 2 ?_ ?_
  · exact ⟨by simp, by simp, by simp [intsAV, iAV], by simp, 0, by simp, by omega, by omega, fun h => by omega, fun h => by omega⟩
  rintro n A τ ⟨rfl, a3, a6, a7, i, a8, hi, rfl, h0, h1⟩ I1 hI1
  by_cases hlt : i < 2
  · rcases (show i = 0 ∨ i = 1 by omega) with rfl | rfl
    · have w1 : IntKind.i64.wrap 1 = 1 := wrap64 (by omega) (by omega)
      (try (first | (with_reducible refine dops_go ?_; simp [a3, a6, a7, a8, intsAV, iAV, w1]) | (with_reducible refine OKv_go ?_; simp [a3, a6, a7, a8, intsAV, iAV, w1]) | (with_reducible refine OKr_go ?_; simp [a3, a6, a7, a8, intsAV, iAV, w1]))); repeat' (first | refine awp_seq ?_ | refine awp_block ?_ | (refine awp_skip ?_; try simp) | (refine awp_exit ?_; try simp) | (refine awp_ret ?_; try simp) | (refine retP_same (by simp) ?_; simp) | (refine retP_flat (by simp) (by simp) (by simp (maxDischargeDepth := 30) [a3, a6, a7, a8, intsAV, iAV, w1]) ?_; simp) | (refine awp_reg ?_; simp [a3, a6, a7, a8, intsAV, iAV, w1]) | (refine awp_drawT (fun _ => false) mixed (by decide +kernel) ?_; simp [a3, a6, a7, a8, intsAV, iAV, w1]) | (refine guarded_split ?_ ?_ <;> (intro hg; simp only [hg]; simp [a3, a6, a7, a8, intsAV, iAV, w1])) | (apply awp_cond_t; focus (simp [a3, a6, a7, a8, intsAV, iAV, w1]; done)) | (apply awp_cond_f; focus (simp [a3, a6, a7, a8, intsAV, iAV, w1]; done)) | (refine awp_cond ?_; simp [a3, a6, a7, a8, intsAV, iAV, w1]; refine ⟨?_, ?_⟩ <;> intro hc))
      · simp_all
      · exact hI1 1 _ _ (by omega) ⟨by simp, by simp [a3], by simp [a6, intsAV, iAV], by simp [a7], 1, by simp, by omega, by omega, fun _ => by simpa using hc, fun h => by omega⟩
    · have ha := h0 (by omega)
      have w1 : IntKind.i64.wrap 2 = 2 := wrap64 (by omega) (by omega)
      (try (first | (with_reducible refine dops_go ?_; simp [a3, a6, a7, a8, intsAV, iAV, w1]) | (with_reducible refine OKv_go ?_; simp [a3, a6, a7, a8, intsAV, iAV, w1]) | (with_reducible refine OKr_go ?_; simp [a3, a6, a7, a8, intsAV, iAV, w1]))); repeat' (first | refine awp_seq ?_ | refine awp_block ?_ | (refine awp_skip ?_; try simp) | (refine awp_exit ?_; try simp) | (refine awp_ret ?_; try simp) | (refine retP_same (by simp) ?_; simp) | (refine retP_flat (by simp) (by simp) (by simp (maxDischargeDepth := 30) [a3, a6, a7, a8, intsAV, iAV, w1]) ?_; simp) | (refine awp_reg ?_; simp [a3, a6, a7, a8, intsAV, iAV, w1]) | (refine awp_drawT (fun _ => false) mixed (by decide +kernel) ?_; simp [a3, a6, a7, a8, intsAV, iAV, w1]) | (refine guarded_split ?_ ?_ <;> (intro hg; simp only [hg]; simp [a3, a6, a7, a8, intsAV, iAV, w1])) | (apply awp_cond_t; focus (simp [a3, a6, a7, a8, intsAV, iAV, w1]; done)) | (apply awp_cond_f; focus (simp [a3, a6, a7, a8, intsAV, iAV, w1]; done)) | (refine awp_cond ?_; simp [a3, a6, a7, a8, intsAV, iAV, w1]; refine ⟨?_, ?_⟩ <;> intro hc))
      · simp_all
      · exact hI1 0 _ _ (by omega) ⟨by simp, by simp [a3], by simp [a6, intsAV, iAV], by simp [a7], 2, by simp, by omega, by omega, fun _ => ha, fun _ => by simpa using hc⟩
  · have : i = 2 := by omega
    subst this
    have ha := h0 (by omega)
    have hb := h1 (by omega)
    subst ha; subst hb
    (try (first | (with_reducible refine dops_go ?_; simp [a3, a6, a7, a8, intsAV, iAV]) | (with_reducible refine OKv_go ?_; simp [a3, a6, a7, a8, intsAV, iAV]) | (with_reducible refine OKr_go ?_; simp [a3, a6, a7, a8, intsAV, iAV]))); repeat' (first | refine awp_seq ?_ | refine awp_block ?_ | (refine awp_skip ?_; try simp) | (refine awp_exit ?_; try simp) | (refine awp_ret ?_; try simp) | (refine retP_same (by simp) ?_; simp) | (refine retP_flat (by simp) (by simp) (by simp (maxDischargeDepth := 30) [a3, a6, a7, a8, intsAV, iAV]) ?_; simp) | (refine awp_reg ?_; simp [a3, a6, a7, a8, intsAV, iAV]) | (refine awp_drawT (fun _ => false) mixed (by decide +kernel) ?_; simp [a3, a6, a7, a8, intsAV, iAV]) | (refine guarded_split ?_ ?_ <;> (intro hg; simp only [hg]; simp [a3, a6, a7, a8, intsAV, iAV])) | (apply awp_cond_t; focus (simp [a3, a6, a7, a8, intsAV, iAV]; done)) | (apply awp_cond_f; focus (simp [a3, a6, a7, a8, intsAV, iAV]; done)) | (refine awp_cond ?_; simp [a3, a6, a7, a8, intsAV, iAV]; refine ⟨?_, ?_⟩ <;> intro hc))

def ruleB (r : Ru) : Bool := decide (1 ≤ r.id) && decide (r.id ≤ 1048576) && (decide (0 ≤ r.dev) && decide (r.dev ≤ 7)) && (decide (0 ≤ r.prio) && decide (r.prio ≤ 1024)) && (decide (0 ≤ r.kind) && decide (r.kind ≤ 3)) &&
  (decide (0 ≤ r.port) && decide (r.port ≤ 3)) && (decide (r.kind = 0) || decide (r.port = 0)) && decide (r.r.lo ≤ r.r.hi)
theorem ruleRight_calls (r : Ru) : PCalls Tryz.prog 178 [ruAV r] (.raw (.bool (ruleB r))) := by
  obtain ⟨b1, h1⟩ : ∃ b, (decide (1 ≤ r.id) && decide (r.id ≤ 1048576)) = b := ⟨_, rfl⟩
  obtain ⟨b2, h2⟩ : ∃ b, (decide (0 ≤ r.dev) && decide (r.dev ≤ 7)) = b := ⟨_, rfl⟩
  obtain ⟨b3, h3⟩ : ∃ b, (decide (0 ≤ r.prio) && decide (r.prio ≤ 1024)) = b := ⟨_, rfl⟩
  obtain ⟨b4, h4⟩ : ∃ b, (decide (0 ≤ r.kind) && decide (r.kind ≤ 3)) = b := ⟨_, rfl⟩
  obtain ⟨b5, h5⟩ : ∃ b, (decide (0 ≤ r.port) && decide (r.port ≤ 3)) = b := ⟨_, rfl⟩
  obtain ⟨b6, h6⟩ : ∃ b, decide (r.kind = 0) = b := ⟨_, rfl⟩
  obtain ⟨b7, h7⟩ : ∃ b, decide (r.port = 0) = b := ⟨_, rfl⟩
  obtain ⟨b8, h8⟩ : ∃ b, decide (r.r.lo ≤ r.r.hi) = b := ⟨_, rfl⟩
  have c1 := h1 ▸ within_calls r.id 1 1048576
  have c2 := h2 ▸ within_calls r.dev 0 7
  have c3 := h3 ▸ within_calls r.prio 0 1024
  have c4 := h4 ▸ within_calls r.kind 0 3
  have c5 := h5 ▸ within_calls r.port 0 3
  have e : ruleB r = (b1 && b2 && b3 && b4 && b5 && (b6 || b7) && b8) := by unfold ruleB; rw [h1, h2, h3, h4, h5, h6, h7, h8]
  rw [e]
  clear e
  refine pbody Tryz.func178 rfl (N := 49) rfl rfl (by simp) (by simp [noIds]) fun σ => ?_
  (try (first | (with_reducible refine dops_go ?_; simp [ruAV, h6, h7, h8]) | (with_reducible refine OKv_go ?_; simp [ruAV, h6, h7, h8]) | (with_reducible refine OKr_go ?_; simp [ruAV, h6, h7, h8]))); repeat' (first | refine awp_seq ?_ | refine awp_block ?_ | (refine awp_skip ?_; try simp) | (refine awp_exit ?_; try simp) | (refine awp_ret ?_; try simp) | (refine retP_same (by simp) ?_; simp) | (refine retP_flat (by simp) (by simp) (by simp (maxDischargeDepth := 30) [ruAV, h6, h7, h8]) ?_; simp) | (refine awp_reg ?_; simp [ruAV, h6, h7, h8]) | (refine awp_drawT (fun _ => false) mixed (by decide +kernel) ?_; simp [ruAV, h6, h7, h8]) | (refine guarded_split ?_ ?_ <;> (intro hg; simp only [hg]; simp [ruAV, h6, h7, h8])) | (apply awp_cond_t; focus (simp [ruAV, h6, h7, h8]; done)) | (apply awp_cond_f; focus (simp [ruAV, h6, h7, h8]; done)) | (refine awp_cond ?_; simp [ruAV, h6, h7, h8]; refine ⟨?_, ?_⟩ <;> intro hc))
  repeat' (first | refine PCalls.use c1 ?_ | refine PCalls.use c2 ?_ | refine PCalls.use c3 ?_ | refine PCalls.use c4 ?_ | refine PCalls.use c5 ?_); all_goals (try (first | (with_reducible refine dops_go ?_; simp [ruAV, h6, h7, h8]) | (with_reducible refine OKv_go ?_; simp [ruAV, h6, h7, h8]) | (with_reducible refine OKr_go ?_; simp [ruAV, h6, h7, h8]))); repeat' (first | refine awp_seq ?_ | refine awp_block ?_ | (refine awp_skip ?_; try simp) | (refine awp_exit ?_; try simp) | (refine awp_ret ?_; try simp) | (refine retP_same (by simp) ?_; simp) | (refine retP_flat (by simp) (by simp) (by simp (maxDischargeDepth := 30) [ruAV, h6, h7, h8]) ?_; simp) | (refine awp_reg ?_; simp [ruAV, h6, h7, h8]) | (refine awp_drawT (fun _ => false) mixed (by decide +kernel) ?_; simp [ruAV, h6, h7, h8]) | (refine guarded_split ?_ ?_ <;> (intro hg; simp only [hg]; simp [ruAV, h6, h7, h8])) | (apply awp_cond_t; focus (simp [ruAV, h6, h7, h8]; done)) | (apply awp_cond_f; focus (simp [ruAV, h6, h7, h8]; done)) | (refine awp_cond ?_; simp [ruAV, h6, h7, h8]; refine ⟨?_, ?_⟩ <;> intro hc))
theorem refRuleRight_calls (r : Ru) (hr : -9223372036854775808 ≤ r.id) (hr2 : r.id < 9223372036854775808) : PCalls Tryz.prog 172 [ruAV r] (.raw (.bool (ruleB r))) := by
  obtain ⟨b1, h1⟩ : ∃ b, (decide (0 ≤ r.id - 1) && decide (r.id - 1 ≤ 1048575)) = b := ⟨_, rfl⟩
  obtain ⟨b2, h2⟩ : ∃ b, (decide (0 ≤ r.dev) && decide (r.dev ≤ 7)) = b := ⟨_, rfl⟩
  obtain ⟨b3, h3⟩ : ∃ b, (decide (0 ≤ r.prio) && decide (r.prio ≤ 1024)) = b := ⟨_, rfl⟩
  obtain ⟨b4, h4⟩ : ∃ b, (decide (0 ≤ r.kind) && decide (r.kind ≤ 3)) = b := ⟨_, rfl⟩
  obtain ⟨b5, h5⟩ : ∃ b, (decide (0 ≤ r.port) && decide (r.port ≤ 3)) = b := ⟨_, rfl⟩
  obtain ⟨b6, h6⟩ : ∃ b, decide (r.kind = 0) = b := ⟨_, rfl⟩
  obtain ⟨b7, h7⟩ : ∃ b, decide (r.port = 0) = b := ⟨_, rfl⟩
  obtain ⟨b8, h8⟩ : ∃ b, decide (r.r.lo ≤ r.r.hi) = b := ⟨_, rfl⟩
  obtain ⟨X, w⟩ : ∃ X, IntKind.i64.wrap (r.id - 1) = X := ⟨_, rfl⟩
  have hX : (decide (0 ≤ X) && decide (X ≤ 1048575)) = b1 := by
    by_cases q : r.id = -9223372036854775808
    · have e : X = 9223372036854775807 := by rw [← w, q]; decide
      rw [← h1, e, q]; decide
    · rw [← w, wrap64 (by omega) (by omega)]; exact h1
  have c1 := hX ▸ refWithin_calls X 1048575
  have c2 := h2 ▸ refWithin_calls r.dev 7
  have c3 := h3 ▸ refWithin_calls r.prio 1024
  have c4 := h4 ▸ refWithin_calls r.kind 3
  have c5 := h5 ▸ refWithin_calls r.port 3
  have e : ruleB r = (b1 && b2 && b3 && b4 && b5 && (b6 || b7) && b8) := by
    unfold ruleB; rw [← h1, h2, h3, h4, h5, h6, h7, h8]
    rw [show decide (0 ≤ r.id - 1) = decide (1 ≤ r.id) by (congr 1; exact propext (by omega)), show decide (r.id - 1 ≤ 1048575) = decide (r.id ≤ 1048576) by (congr 1; exact propext (by omega))]
  rw [e]
  clear e
  refine pbody Tryz.func172 rfl (N := 52) rfl rfl (by simp) (by simp [noIds]) fun σ => ?_
  (try (first | (with_reducible refine dops_go ?_; simp [ruAV, h6, h7, h8, w]) | (with_reducible refine OKv_go ?_; simp [ruAV, h6, h7, h8, w]) | (with_reducible refine OKr_go ?_; simp [ruAV, h6, h7, h8, w]))); repeat' (first | refine awp_seq ?_ | refine awp_block ?_ | (refine awp_skip ?_; try simp) | (refine awp_exit ?_; try simp) | (refine awp_ret ?_; try simp) | (refine retP_same (by simp) ?_; simp) | (refine retP_flat (by simp) (by simp) (by simp (maxDischargeDepth := 30) [ruAV, h6, h7, h8, w]) ?_; simp) | (refine awp_reg ?_; simp [ruAV, h6, h7, h8, w]) | (refine awp_drawT (fun _ => false) mixed (by decide +kernel) ?_; simp [ruAV, h6, h7, h8, w]) | (refine guarded_split ?_ ?_ <;> (intro hg; simp only [hg]; simp [ruAV, h6, h7, h8, w])) | (apply awp_cond_t; focus (simp [ruAV, h6, h7, h8, w]; done)) | (apply awp_cond_f; focus (simp [ruAV, h6, h7, h8, w]; done)) | (refine awp_cond ?_; simp [ruAV, h6, h7, h8, w]; refine ⟨?_, ?_⟩ <;> intro hc))
  repeat' (first | refine PCalls.use c1 ?_ | refine PCalls.use c2 ?_ | refine PCalls.use c3 ?_ | refine PCalls.use c4 ?_ | refine PCalls.use c5 ?_); all_goals (try (first | (with_reducible refine dops_go ?_; simp [ruAV, h6, h7, h8, w]) | (with_reducible refine OKv_go ?_; simp [ruAV, h6, h7, h8, w]) | (with_reducible refine OKr_go ?_; simp [ruAV, h6, h7, h8, w]))); repeat' (first | refine awp_seq ?_ | refine awp_block ?_ | (refine awp_skip ?_; try simp) | (refine awp_exit ?_; try simp) | (refine awp_ret ?_; try simp) | (refine retP_same (by simp) ?_; simp) | (refine retP_flat (by simp) (by simp) (by simp (maxDischargeDepth := 30) [ruAV, h6, h7, h8, w]) ?_; simp) | (refine awp_reg ?_; simp [ruAV, h6, h7, h8, w]) | (refine awp_drawT (fun _ => false) mixed (by decide +kernel) ?_; simp [ruAV, h6, h7, h8, w]) | (refine guarded_split ?_ ?_ <;> (intro hg; simp only [hg]; simp [ruAV, h6, h7, h8, w])) | (apply awp_cond_t; focus (simp [ruAV, h6, h7, h8, w]; done)) | (apply awp_cond_f; focus (simp [ruAV, h6, h7, h8, w]; done)) | (refine awp_cond ?_; simp [ruAV, h6, h7, h8, w]; refine ⟨?_, ?_⟩ <;> intro hc))
def aheadI (x y : Ru) : Int := if cmpI y.prio x.prio = 0 then cmpI x.id y.id else cmpI y.prio x.prio
theorem ahead_calls (x y : Ru) : PCalls Tryz.prog 235 [ruAV x, ruAV y] (.raw (.int .i64 (aheadI x y))) := by
  refine pbody Tryz.func235 rfl (N := 17) rfl rfl (by simp) (by simp [noIds]) fun σ => ?_
  (try (first | (with_reducible refine dops_go ?_; simp [ruAV]) | (with_reducible refine OKv_go ?_; simp [ruAV]) | (with_reducible refine OKr_go ?_; simp [ruAV]))); repeat' (first | refine awp_seq ?_ | refine awp_block ?_ | (refine awp_skip ?_; try simp) | (refine awp_exit ?_; try simp) | (refine awp_ret ?_; try simp) | (refine retP_same (by simp) ?_; simp) | (refine retP_flat (by simp) (by simp) (by simp (maxDischargeDepth := 30) [ruAV]) ?_; simp) | (refine awp_reg ?_; simp [ruAV]) | (refine awp_drawT (fun _ => false) mixed (by decide +kernel) ?_; simp [ruAV]) | (refine guarded_split ?_ ?_ <;> (intro hg; simp only [hg]; simp [ruAV])) | (apply awp_cond_t; focus (simp [ruAV]; done)) | (apply awp_cond_f; focus (simp [ruAV]; done)) | (refine awp_cond ?_; simp [ruAV]; refine ⟨?_, ?_⟩ <;> intro hc))
  refine awp_drawT (fun o => o.dst == some 9 || o.dst == some 14 || o.dst == some 16) mixed (by decide +kernel) ?_
  (try (first | (with_reducible refine dops_go ?_; simp [ruAV]) | (with_reducible refine OKv_go ?_; simp [ruAV]) | (with_reducible refine OKr_go ?_; simp [ruAV]))); repeat' (first | refine awp_seq ?_ | refine awp_block ?_ | (refine awp_skip ?_; try simp) | (refine awp_exit ?_; try simp) | (refine awp_ret ?_; try simp) | (refine retP_same (by simp) ?_; simp) | (refine retP_flat (by simp) (by simp) (by simp (maxDischargeDepth := 30) [ruAV]) ?_; simp) | (refine awp_reg ?_; simp [ruAV]) | (refine awp_drawT (fun _ => false) mixed (by decide +kernel) ?_; simp [ruAV]) | (refine guarded_split ?_ ?_ <;> (intro hg; simp only [hg]; simp [ruAV])) | (apply awp_cond_t; focus (simp [ruAV]; done)) | (apply awp_cond_f; focus (simp [ruAV]; done)) | (refine awp_cond ?_; simp [ruAV]; refine ⟨?_, ?_⟩ <;> intro hc))
  refine .inl ⟨_, .inl (compare_calls _ _), ?_⟩
  (try (first | (with_reducible refine dops_go ?_; simp [ruAV]) | (with_reducible refine OKv_go ?_; simp [ruAV]) | (with_reducible refine OKr_go ?_; simp [ruAV]))); repeat' (first | refine awp_seq ?_ | refine awp_block ?_ | (refine awp_skip ?_; try simp) | (refine awp_exit ?_; try simp) | (refine awp_ret ?_; try simp) | (refine retP_same (by simp) ?_; simp) | (refine retP_flat (by simp) (by simp) (by simp (maxDischargeDepth := 30) [ruAV]) ?_; simp) | (refine awp_reg ?_; simp [ruAV]) | (refine awp_drawT (fun _ => false) mixed (by decide +kernel) ?_; simp [ruAV]) | (refine guarded_split ?_ ?_ <;> (intro hg; simp only [hg]; simp [ruAV])) | (apply awp_cond_t; focus (simp [ruAV]; done)) | (apply awp_cond_f; focus (simp [ruAV]; done)) | (refine awp_cond ?_; simp [ruAV]; refine ⟨?_, ?_⟩ <;> intro hc))
  refine .inl ⟨_, .inl (compare_calls _ _), ?_⟩
  (try (first | (with_reducible refine dops_go ?_; simp [ruAV]) | (with_reducible refine OKv_go ?_; simp [ruAV]) | (with_reducible refine OKr_go ?_; simp [ruAV]))); repeat' (first | refine awp_seq ?_ | refine awp_block ?_ | (refine awp_skip ?_; try simp) | (refine awp_exit ?_; try simp) | (refine awp_ret ?_; try simp) | (refine retP_same (by simp) ?_; simp) | (refine retP_flat (by simp) (by simp) (by simp (maxDischargeDepth := 30) [ruAV]) ?_; simp) | (refine awp_reg ?_; simp [ruAV]) | (refine awp_drawT (fun _ => false) mixed (by decide +kernel) ?_; simp [ruAV]) | (refine guarded_split ?_ ?_ <;> (intro hg; simp only [hg]; simp [ruAV])) | (apply awp_cond_t; focus (simp [ruAV]; done)) | (apply awp_cond_f; focus (simp [ruAV]; done)) | (refine awp_cond ?_; simp [ruAV]; refine ⟨?_, ?_⟩ <;> intro hc))
  refine .inl ⟨_, .inr ⟨[intsAV [cmpI y.prio x.prio, cmpI x.id y.id] false], ?_, or_calls _ _ _, rfl⟩, ?_⟩
  · exact ⟨_, _, rfl, .inr ⟨[.raw (.int .i64 (cmpI y.prio x.prio)), .raw (.int .i64 (cmpI x.id y.id))], by simp [St.new], by simp, by simp [intsAV, iAV]⟩, rfl⟩
  unfold aheadI
  simp
  refine awp_ret ?_
  refine retP_flat (.inr rfl) rfl (by simp (maxDischargeDepth := 30)) ?_
  simp
end Go.Proofs.YtanimmdlgmkmkaaGreat.Av


/- Networks: the first of the rules that are asked. -/
namespace Go.Proofs.YtanimmdlgmkmkaaGreat.Av
open Go
set_option linter.unusedSimpArgs false
set_option linter.unusedVariables false
set_option maxRecDepth 100000
set_option maxHeartbeats 2000000
set_option pp.maxSteps 300

theorem acalls_nil {P : Program} {f : FuncId} {sz : Nat} {fl : Bool} {σ : St} {K : AV → St → Prop} (h : ∀ b cap, ACalls P f [.raw (.slice b 0 cap)] σ K) : ACalls P f [.sl sz [] fl] σ K := by
  refine ⟨(h none 0).1, fun S vs hS hl => ?_⟩
  simp only [LRel, VRel] at hl
  obtain ⟨v, us, rfl, ⟨base, cap, rfl, _⟩, rfl⟩ := hl
  exact (h base cap).2 S _ hS ⟨_, _, rfl, rfl, rfl⟩
theorem ok_ru : ∀ z : List Ru, cellsOK (cellsL (z.map ruAV)) = true := fun z => by
  induction z with
  | nil => rfl
  | cons r z ih => simp [cellsL, ruAV, cellsOK, cellOK] at ih ⊢; try exact ih

theorem ruClone_calls (l : List Ru) (f : Bool) {σ : St} {K : AV → St → Prop} (hl : l.length < 2932031007403) (h : ∀ v τ, OwnL σ τ 7 v (l.map ruAV) → Ext σ τ → K v τ) : ACalls Tryz.prog 129 [rulesAV l f] σ K := by
  cases l with
  | nil =>
    simp only [rulesAV, List.map_nil]
    refine acalls_nil fun b cap => ?_
    refine abody Tryz.func129 rfl (N := 8) rfl rfl (by simp) ?_
    cases b with
    | none =>
      (try (first | (with_reducible refine dops_go ?_; simp) | (with_reducible refine OKv_go ?_; simp) | (with_reducible refine OKr_go ?_; simp))); repeat' (first | refine awp_seq ?_ | refine awp_block ?_ | (refine awp_skip ?_; try simp) | (refine awp_exit ?_; try simp) | (refine awp_ret ?_; try simp) | (refine awp_reg ?_; simp) | (refine awp_drawT (fun _ => false) mixed (by decide +kernel) ?_; simp) | (refine guarded_split ?_ ?_ <;> (intro hg; simp only [hg]; simp)) | (apply awp_cond_t; focus (simp; done)) | (apply awp_cond_f; focus (simp; done)) | (refine awp_cond ?_; simp; refine ⟨?_, ?_⟩ <;> intro hc))
      exact retK_of (.inr rfl) (by simp) (h _ _ OwnL.nil (Ext.refl _))
    | some b =>
      (try (first | (with_reducible refine dops_go ?_; simp [-opAppend]) | (with_reducible refine OKv_go ?_; simp [-opAppend]) | (with_reducible refine OKr_go ?_; simp [-opAppend]))); repeat' (first | refine awp_seq ?_ | refine awp_block ?_ | (refine awp_skip ?_; try simp) | (refine awp_exit ?_; try simp) | (refine awp_ret ?_; try simp) | (refine awp_reg ?_; simp [-opAppend]) | (refine awp_drawT (fun _ => false) mixed (by decide +kernel) ?_; simp [-opAppend]) | (refine guarded_split ?_ ?_ <;> (intro hg; simp only [hg]; simp [-opAppend])) | (apply awp_cond_t; focus (simp [-opAppend]; done)) | (apply awp_cond_f; focus (simp [-opAppend]; done)) | (refine awp_cond ?_; simp [-opAppend]; refine ⟨?_, ?_⟩ <;> intro hc))
      refine okr_append slt26 (σ0 := σ) (es := []) (OwnL.of rfl (by simp) (fresh_none _ _ _) rfl) (Ext.new _ _ _ _) (ys := []) (by simp) (.inl rfl) rfl (by simp) ?_
      intro v1 τ1 hO1 hE1 _ _
      rw [List.nil_append] at hO1
      (try (first | (with_reducible refine dops_go ?_; simp [-opAppend]) | (with_reducible refine OKv_go ?_; simp [-opAppend]) | (with_reducible refine OKr_go ?_; simp [-opAppend]))); repeat' (first | refine awp_seq ?_ | refine awp_block ?_ | (refine awp_skip ?_; try simp) | (refine awp_exit ?_; try simp) | (refine awp_ret ?_; try simp) | (refine awp_reg ?_; simp [-opAppend]) | (refine awp_drawT (fun _ => false) mixed (by decide +kernel) ?_; simp [-opAppend]) | (refine guarded_split ?_ ?_ <;> (intro hg; simp only [hg]; simp [-opAppend])) | (apply awp_cond_t; focus (simp [-opAppend]; done)) | (apply awp_cond_f; focus (simp [-opAppend]; done)) | (refine awp_cond ?_; simp [-opAppend]; refine ⟨?_, ?_⟩ <;> intro hc))
      exact retK_of (.inr rfl) (by simp) (h _ _ hO1 hE1)
  | cons r l =>
    refine abody Tryz.func129 rfl (N := 8) rfl rfl (by simp) ?_
    (try (first | (with_reducible refine dops_go ?_; simp [rulesAV, -opAppend]) | (with_reducible refine OKv_go ?_; simp [rulesAV, -opAppend]) | (with_reducible refine OKr_go ?_; simp [rulesAV, -opAppend]))); repeat' (first | refine awp_seq ?_ | refine awp_block ?_ | (refine awp_skip ?_; try simp) | (refine awp_exit ?_; try simp) | (refine awp_ret ?_; try simp) | (refine awp_reg ?_; simp [rulesAV, -opAppend]) | (refine awp_drawT (fun _ => false) mixed (by decide +kernel) ?_; simp [rulesAV, -opAppend]) | (refine guarded_split ?_ ?_ <;> (intro hg; simp only [hg]; simp [rulesAV, -opAppend])) | (apply awp_cond_t; focus (simp [rulesAV, -opAppend]; done)) | (apply awp_cond_f; focus (simp [rulesAV, -opAppend]; done)) | (refine awp_cond ?_; simp [rulesAV, -opAppend]; refine ⟨?_, ?_⟩ <;> intro hc))
    refine okr_append slt26 (σ0 := σ) (es := []) (OwnL.of rfl (by simp) (fresh_none _ _ _) rfl) (Ext.new _ _ _ _) (ys := (r :: l).map ruAV) (by simp) (.inr rfl) (ok_ru _) (by simp at hl ⊢; omega) ?_
    intro v1 τ1 hO1 hE1 _ _
    rw [List.nil_append] at hO1
    (try (first | (with_reducible refine dops_go ?_; simp [-opAppend]) | (with_reducible refine OKv_go ?_; simp [-opAppend]) | (with_reducible refine OKr_go ?_; simp [-opAppend]))); repeat' (first | refine awp_seq ?_ | refine awp_block ?_ | (refine awp_skip ?_; try simp) | (refine awp_exit ?_; try simp) | (refine awp_ret ?_; try simp) | (refine awp_reg ?_; simp [-opAppend]) | (refine awp_drawT (fun _ => false) mixed (by decide +kernel) ?_; simp [-opAppend]) | (refine guarded_split ?_ ?_ <;> (intro hg; simp only [hg]; simp [-opAppend])) | (apply awp_cond_t; focus (simp [-opAppend]; done)) | (apply awp_cond_f; focus (simp [-opAppend]; done)) | (refine awp_cond ?_; simp [-opAppend]; refine ⟨?_, ?_⟩ <;> intro hc))
    exact retK_of (.inr rfl) (by simp) (h _ _ hO1 hE1)

/-- The first of rules. -/
def minR : List Ru → Ru
  | [] => ⟨0, 0, 0, 0, ⟨0, 0⟩, 0⟩
  | r :: l => l.foldl (fun m x => if aheadI x m < 0 then x else m) r
theorem minR_step {z : List Ru} {k : Nat} {x : Ru} (h1 : 1 ≤ k) (hx : z[k]? = some x) : minR (z.take (k + 1)) = if aheadI x (minR (z.take k)) < 0 then x else minR (z.take k) := by
  rw [List.take_add_one, hx]
  cases z with
  | nil => simp at hx
  | cons r l =>
    obtain ⟨j, rfl⟩ : ∃ j, k = j + 1 := ⟨k - 1, by omega⟩
    simp [minR, List.foldl_append]
    rfl
theorem ru_fold (x : Ru) : AV.agg [.raw (.int .i64 x.id), .raw (.int .i64 x.dev), .raw (.int .i64 x.prio), .raw (.int .i64 x.kind), .raw (.int .u32 x.r.lo), .raw (.int .u32 x.r.hi), .raw (.int .i64 x.port)] = ruAV x := rfl
theorem ru_part (a b : Ru) : setPart (ruAV a) 0 [.raw (.int .i64 b.id), .raw (.int .i64 b.dev), .raw (.int .i64 b.prio), .raw (.int .i64 b.kind), .raw (.int .u32 b.r.lo), .raw (.int .u32 b.r.hi), .raw (.int .i64 b.port)] = ruAV b := rfl
theorem ru_ok (a : Ru) : cellsOK (ruAV a).cells = true := rfl
theorem minFunc_calls (z : List Ru) (hne : z ≠ []) (f : Bool) (hl : z.length < 2932031007403) : PCalls Tryz.prog 234 [rulesAV z f, .fn (.func 235) [] []] (ruAV (minR z)) := by
  refine pbody Tryz.func234 rfl (N := 33) rfl rfl (by simp) (by simp [noIds, ruAV]) fun σ => ?_
  have hpos : 0 < z.length := List.length_pos_iff.2 hne
  have hx0 : z[0]? = some z[0] := List.getElem?_eq_getElem hpos
  have hlt1 : ¬ ((z.length : Int) < 1) := by omega
  (try (first | (with_reducible refine dops_go ?_; simp [rulesAV, ru_cells, hx0, hlt1, hpos]) | (with_reducible refine OKv_go ?_; simp [rulesAV, ru_cells, hx0, hlt1, hpos]) | (with_reducible refine OKr_go ?_; simp [rulesAV, ru_cells, hx0, hlt1, hpos]))); repeat' (first | refine awp_seq ?_ | refine awp_block ?_ | (refine awp_skip ?_; try simp) | (refine awp_exit ?_; try simp) | (refine awp_ret ?_; try simp) | (refine retP_same (by simp) ?_; simp) | (refine retP_flat (by simp) (by simp) (by simp (maxDischargeDepth := 30) [rulesAV, ru_cells, hx0, hlt1, hpos]) ?_; simp) | (refine awp_reg ?_; simp [rulesAV, ru_cells, hx0, hlt1, hpos]) | (refine awp_drawT (fun _ => false) mixed (by decide +kernel) ?_; simp [rulesAV, ru_cells, hx0, hlt1, hpos]) | (refine guarded_split ?_ ?_ <;> (intro hg; simp only [hg]; simp [rulesAV, ru_cells, hx0, hlt1, hpos])) | (apply awp_cond_t; focus (simp [rulesAV, ru_cells, hx0, hlt1, hpos]; done)) | (apply awp_cond_f; focus (simp [rulesAV, ru_cells, hx0, hlt1, hpos]; done)) | (refine awp_cond ?_; simp [rulesAV, ru_cells, hx0, hlt1, hpos]; refine ⟨?_, ?_⟩ <;> intro hc))
  refine awp_loopH (fun n A τ => A 0 = rulesAV z f ∧ A 1 = .fn (.func 235) [] [] ∧ A 4 = .rp ⟨4, σ.nx 4, 7⟩ 0 0 ∧ A 5 = .rp ⟨5, σ.nx 5, 7⟩ 0 0 ∧ (∃ y, τ.m ⟨4, σ.nx 4, 7⟩ = some (.buf [ruAV y])) ∧ Ext σ τ ∧
    ∃ (k : Nat), A 6 = .raw (.int .i64 k) ∧ 1 ≤ k ∧ k ≤ z.length ∧ τ.m ⟨5, σ.nx 5, 7⟩ = some (.buf [ruAV (minR (z.take k))]) ∧ n = z.length - k) (z.length - 1) ?_ ?_
  · refine ⟨by simp [rulesAV], by simp, by simp, by simp [St.new], ⟨⟨0, 0, 0, 0, ⟨0, 0⟩, 0⟩, ?_⟩, ?_, 1, by simp, by omega, by omega, ?_, ?_⟩
    · simp [St.new, St.set, ruAV]
    · refine Ext.setF (by simp (maxDischargeDepth := 30)) ?_
      have := fresh_none σ 5 7
      simpa [St.new] using this
    · have e : z.take 1 = [z[0]] := by
        cases z with
        | nil => exact absurd rfl hne
        | cons r l => rfl
      rw [e]
      simp [St.new, St.set, minR, ruAV]
    · rfl
  rintro n A τ ⟨a0, a1, a4, a5, ⟨y, m4⟩, hE, k, a6, h1, hk, m5, rfl⟩ I1 hI1
  have f4 : σ.m ⟨4, σ.nx 4, 7⟩ = none := fresh_none _ _ _
  have f5 : σ.m ⟨5, σ.nx 5, 7⟩ = none := fresh_none _ _ _
  by_cases hlt : k < z.length
  · have hx : z[k]? = some z[k] := List.getElem?_eq_getElem hlt
    have w1 : IntKind.i64.wrap ((k : Int) + 1) = ((k + 1 : Nat) : Int) := by rw [wrap64 (by omega) (by omega)]; omega
    (try (first | (with_reducible refine dops_go ?_; simp [rulesAV, a0, a1, a4, a5, a6, hlt, hx, m4, m5, ru_cells, ru_fold]) | (with_reducible refine OKv_go ?_; simp [rulesAV, a0, a1, a4, a5, a6, hlt, hx, m4, m5, ru_cells, ru_fold]) | (with_reducible refine OKr_go ?_; simp [rulesAV, a0, a1, a4, a5, a6, hlt, hx, m4, m5, ru_cells, ru_fold]))); repeat' (first | refine awp_seq ?_ | refine awp_block ?_ | (refine awp_skip ?_; try simp) | (refine awp_exit ?_; try simp) | (refine awp_ret ?_; try simp) | (refine retP_same (by simp) ?_; simp) | (refine retP_flat (by simp) (by simp) (by simp (maxDischargeDepth := 30) [rulesAV, a0, a1, a4, a5, a6, hlt, hx, m4, m5, ru_cells, ru_fold]) ?_; simp) | (refine awp_reg ?_; simp [rulesAV, a0, a1, a4, a5, a6, hlt, hx, m4, m5, ru_cells, ru_fold]) | (refine awp_drawT (fun _ => false) mixed (by decide +kernel) ?_; simp [rulesAV, a0, a1, a4, a5, a6, hlt, hx, m4, m5, ru_cells, ru_fold]) | (refine guarded_split ?_ ?_ <;> (intro hg; simp only [hg]; simp [rulesAV, a0, a1, a4, a5, a6, hlt, hx, m4, m5, ru_cells, ru_fold])) | (apply awp_cond_t; focus (simp [rulesAV, a0, a1, a4, a5, a6, hlt, hx, m4, m5, ru_cells, ru_fold]; done)) | (apply awp_cond_f; focus (simp [rulesAV, a0, a1, a4, a5, a6, hlt, hx, m4, m5, ru_cells, ru_fold]; done)) | (refine awp_cond ?_; simp [rulesAV, a0, a1, a4, a5, a6, hlt, hx, m4, m5, ru_cells, ru_fold]; refine ⟨?_, ?_⟩ <;> intro hc))
    refine PCalls.use (ahead_calls _ _) ?_
    by_cases hs : aheadI z[k] (minR (z.take k)) < 0
    · (try (first | (with_reducible refine dops_go ?_; simp [rulesAV, a0, a1, a4, a5, a6, hlt, hx, m4, m5, ru_cells, ru_fold, ru_part, hs, w1]) | (with_reducible refine OKv_go ?_; simp [rulesAV, a0, a1, a4, a5, a6, hlt, hx, m4, m5, ru_cells, ru_fold, ru_part, hs, w1]) | (with_reducible refine OKr_go ?_; simp [rulesAV, a0, a1, a4, a5, a6, hlt, hx, m4, m5, ru_cells, ru_fold, ru_part, hs, w1]))); repeat' (first | refine awp_seq ?_ | refine awp_block ?_ | (refine awp_skip ?_; try simp) | (refine awp_exit ?_; try simp) | (refine awp_ret ?_; try simp) | (refine retP_same (by simp) ?_; simp) | (refine retP_flat (by simp) (by simp) (by simp (maxDischargeDepth := 30) [rulesAV, a0, a1, a4, a5, a6, hlt, hx, m4, m5, ru_cells, ru_fold, ru_part, hs, w1]) ?_; simp) | (refine awp_reg ?_; simp [rulesAV, a0, a1, a4, a5, a6, hlt, hx, m4, m5, ru_cells, ru_fold, ru_part, hs, w1]) | (refine awp_drawT (fun _ => false) mixed (by decide +kernel) ?_; simp [rulesAV, a0, a1, a4, a5, a6, hlt, hx, m4, m5, ru_cells, ru_fold, ru_part, hs, w1]) | (refine guarded_split ?_ ?_ <;> (intro hg; simp only [hg]; simp [rulesAV, a0, a1, a4, a5, a6, hlt, hx, m4, m5, ru_cells, ru_fold, ru_part, hs, w1])) | (apply awp_cond_t; focus (simp [rulesAV, a0, a1, a4, a5, a6, hlt, hx, m4, m5, ru_cells, ru_fold, ru_part, hs, w1]; done)) | (apply awp_cond_f; focus (simp [rulesAV, a0, a1, a4, a5, a6, hlt, hx, m4, m5, ru_cells, ru_fold, ru_part, hs, w1]; done)) | (refine awp_cond ?_; simp [rulesAV, a0, a1, a4, a5, a6, hlt, hx, m4, m5, ru_cells, ru_fold, ru_part, hs, w1]; refine ⟨?_, ?_⟩ <;> intro hc))
      exact hI1 (z.length - (k + 1)) _ _ (by omega) ⟨by simp [a0], by simp [a1], by simp [a4], by simp [a5], ⟨y, by rw [set_ne (by simp)]; exact m4⟩, hE.setF f5, k + 1, by simp, by omega, by omega, by rw [set_hit m5, minR_step h1 hx, if_pos hs], rfl⟩
    · (try (first | (with_reducible refine dops_go ?_; simp [rulesAV, a0, a1, a4, a5, a6, hlt, hx, m4, m5, ru_cells, ru_fold, ru_part, hs, w1]) | (with_reducible refine OKv_go ?_; simp [rulesAV, a0, a1, a4, a5, a6, hlt, hx, m4, m5, ru_cells, ru_fold, ru_part, hs, w1]) | (with_reducible refine OKr_go ?_; simp [rulesAV, a0, a1, a4, a5, a6, hlt, hx, m4, m5, ru_cells, ru_fold, ru_part, hs, w1]))); repeat' (first | refine awp_seq ?_ | refine awp_block ?_ | (refine awp_skip ?_; try simp) | (refine awp_exit ?_; try simp) | (refine awp_ret ?_; try simp) | (refine retP_same (by simp) ?_; simp) | (refine retP_flat (by simp) (by simp) (by simp (maxDischargeDepth := 30) [rulesAV, a0, a1, a4, a5, a6, hlt, hx, m4, m5, ru_cells, ru_fold, ru_part, hs, w1]) ?_; simp) | (refine awp_reg ?_; simp [rulesAV, a0, a1, a4, a5, a6, hlt, hx, m4, m5, ru_cells, ru_fold, ru_part, hs, w1]) | (refine awp_drawT (fun _ => false) mixed (by decide +kernel) ?_; simp [rulesAV, a0, a1, a4, a5, a6, hlt, hx, m4, m5, ru_cells, ru_fold, ru_part, hs, w1]) | (refine guarded_split ?_ ?_ <;> (intro hg; simp only [hg]; simp [rulesAV, a0, a1, a4, a5, a6, hlt, hx, m4, m5, ru_cells, ru_fold, ru_part, hs, w1])) | (apply awp_cond_t; focus (simp [rulesAV, a0, a1, a4, a5, a6, hlt, hx, m4, m5, ru_cells, ru_fold, ru_part, hs, w1]; done)) | (apply awp_cond_f; focus (simp [rulesAV, a0, a1, a4, a5, a6, hlt, hx, m4, m5, ru_cells, ru_fold, ru_part, hs, w1]; done)) | (refine awp_cond ?_; simp [rulesAV, a0, a1, a4, a5, a6, hlt, hx, m4, m5, ru_cells, ru_fold, ru_part, hs, w1]; refine ⟨?_, ?_⟩ <;> intro hc))
      exact hI1 (z.length - (k + 1)) _ _ (by omega) ⟨by simp [a0], by simp [a1], by simp [a4], by simp [a5], ⟨y, m4⟩, hE, k + 1, by simp, by omega, by omega, by rw [m5, minR_step h1 hx, if_neg hs], rfl⟩
  · have : k = z.length := by omega
    subst this
    rw [List.take_length] at m5
    (try (first | (with_reducible refine dops_go ?_; simp [rulesAV, a0, a1, a4, a5, a6, m4, m5, ru_cells, ru_fold, ru_part]) | (with_reducible refine OKv_go ?_; simp [rulesAV, a0, a1, a4, a5, a6, m4, m5, ru_cells, ru_fold, ru_part]) | (with_reducible refine OKr_go ?_; simp [rulesAV, a0, a1, a4, a5, a6, m4, m5, ru_cells, ru_fold, ru_part]))); repeat' (first | refine awp_seq ?_ | refine awp_block ?_ | (refine awp_skip ?_; try simp) | (refine awp_exit ?_; try simp) | (refine awp_ret ?_; try simp) | (refine awp_reg ?_; simp [rulesAV, a0, a1, a4, a5, a6, m4, m5, ru_cells, ru_fold, ru_part]) | (refine awp_drawT (fun _ => false) mixed (by decide +kernel) ?_; simp [rulesAV, a0, a1, a4, a5, a6, m4, m5, ru_cells, ru_fold, ru_part]) | (refine guarded_split ?_ ?_ <;> (intro hg; simp only [hg]; simp [rulesAV, a0, a1, a4, a5, a6, m4, m5, ru_cells, ru_fold, ru_part])) | (apply awp_cond_t; focus (simp [rulesAV, a0, a1, a4, a5, a6, m4, m5, ru_cells, ru_fold, ru_part]; done)) | (apply awp_cond_f; focus (simp [rulesAV, a0, a1, a4, a5, a6, m4, m5, ru_cells, ru_fold, ru_part]; done)) | (refine awp_cond ?_; simp [rulesAV, a0, a1, a4, a5, a6, m4, m5, ru_cells, ru_fold, ru_part]; refine ⟨?_, ?_⟩ <;> intro hc))
    refine retP_flat (.inr rfl) rfl (hE.setF f4) ?_
    simp [a4, m4, St.set, ru_cells]
    exact ru_fold _

theorem ACalls.args {P : Program} {f : FuncId} {as_ bs : List AV} {σ : St} {K : AV → St → Prop} (hw : ∀ S vs, LRel S as_ vs → LRel S bs vs) (h : ACalls P f bs σ K) : ACalls P f as_ σ K :=
  ⟨h.1, fun S vs hS hl => h.2 S vs hS (hw S vs hl)⟩
/-- A made list of which a head counts. -/
def OwnP (σ0 τ : St) (n : Nat) (v : AV) (es : List AV) : Prop :=
  (es = [] ∧ v = .sl 0 [] true) ∨ ∃ j rest, v = .rs j 0 es.length ∧ j.sz = n ∧ τ.m j = some (.buf (es ++ rest)) ∧ σ0.m j = none
theorem OwnL.toP {σ0 τ : St} {n : Nat} {v : AV} {es : List AV} (h : OwnL σ0 τ n v es) : OwnP σ0 τ n v es := by
  rcases h with h | ⟨j, h1, h2, h3, h4⟩
  · exact .inl h
  · exact .inr ⟨j, [], h1, h2, by rw [List.append_nil]; exact h3, h4⟩
theorem OwnP.ext {σ0 τ ρ : St} {n : Nat} {v : AV} {es : List AV} (h : OwnP σ0 τ n v es) (k : Ext τ ρ) : OwnP σ0 ρ n v es := by
  rcases h with h | ⟨j, r, h1, h2, h3, h4⟩
  · exact .inl h
  · exact .inr ⟨j, r, h1, h2, k.m _ _ h3, h4⟩
theorem PCalls.useP {P : Program} {f : FuncId} {σ0 σ : St} {n : Nat} {a v r : AV} {es : List AV} {K : AV → St → Prop} (h : PCalls P f [.sl n es false, a] r) (hr : r.plain = true) (hO : OwnP σ0 σ n v es) (k : K r σ) : ACalls P f [v, a] σ K := by
  rcases hO with ⟨rfl, rfl⟩ | ⟨j, rest, rfl, hj, hm, hn⟩
  · refine ACalls.args (bs := [.sl n [] false, a]) (fun S vs hl => ?_) (h.use k)
    simp only [LRel] at hl ⊢
    obtain ⟨w, ws, e2, h2, v, us, e, h1, h3⟩ := hl
    exact ⟨w, ws, e2, weaker_sl _ _ h2, v, us, e, h1, h3⟩
  · refine RCalls.use (.inr ⟨[.sl n es false, a], ?_, h, hr⟩) k
    simp only [lentL]
    exact ⟨_, _, rfl, .inr ⟨es ++ rest, hm, by simp, by simp [hj]⟩, _, _, rfl, .inl rfl, rfl⟩

theorem delete_calls {g : FuncId} {caps : List AV} {p : Ru → Bool} (l : List Ru) {σ0 σ : St} {v : AV} {K : AV → St → Prop} (hO : OwnL σ0 σ 7 v (l.map ruAV)) (hE : Ext σ0 σ) (hl : l.length < 2932031007403)
    (hg : ∀ r ∈ l, PCalls Tryz.prog g (ruAV r :: caps) (.raw (.bool (p r)))) (h : ∀ v' τ, OwnP σ0 τ 7 v' ((l.filter fun r => !p r).map ruAV) → Ext σ0 τ → K v' τ) : ACalls Tryz.prog 232 [v, .fn (.func g) [] caps] σ K := by
  refine abody Tryz.func232 rfl (N := 42) rfl rfl (by simp) ?_
  (try (first | (with_reducible refine dops_go ?_; simp) | (with_reducible refine OKv_go ?_; simp) | (with_reducible refine OKr_go ?_; simp))); repeat' (first | refine awp_seq ?_ | refine awp_block ?_ | (refine awp_skip ?_; try simp) | (refine awp_exit ?_; try simp) | (refine awp_ret ?_; try simp) | (refine retP_same (by simp) ?_; simp) | (refine retP_flat (by simp) (by simp) (by simp (maxDischargeDepth := 30)) ?_; simp) | (refine awp_reg ?_; simp) | (refine awp_drawT (fun _ => false) mixed (by decide +kernel) ?_; simp) | (refine guarded_split ?_ ?_ <;> (intro hg; simp only [hg]; simp)) | (apply awp_cond_t; focus (simp; done)) | (apply awp_cond_f; focus (simp; done)) | (refine awp_cond ?_; simp; refine ⟨?_, ?_⟩ <;> intro hc))
  refine PCalls.useP (ruIndex_calls l false (by omega) hg) rfl hO.toP ?_
  cases ha : l.any p with
  | false =>
    have hi : idxOf p l = -1 := by unfold idxOf; rw [ha]; rfl
    have hfl : (l.filter fun r => !p r) = l := by
      rw [List.filter_eq_self]
      intro r hr
      rw [List.any_eq_false] at ha
      simpa using ha r hr
    have w1 : IntKind.i64.wrap (-1) = -1 := wrap64 (by omega) (by omega)
    rw [hfl] at h
    (try (first | (with_reducible refine dops_go ?_; simp [hi, w1]) | (with_reducible refine OKv_go ?_; simp [hi, w1]) | (with_reducible refine OKr_go ?_; simp [hi, w1]))); repeat' (first | refine awp_seq ?_ | refine awp_block ?_ | (refine awp_skip ?_; try simp) | (refine awp_exit ?_; try simp) | (refine awp_ret ?_; try simp) | (refine awp_reg ?_; simp [hi, w1]) | (refine awp_drawT (fun _ => false) mixed (by decide +kernel) ?_; simp [hi, w1]) | (refine guarded_split ?_ ?_ <;> (intro hg; simp only [hg]; simp [hi, w1])) | (apply awp_cond_t; focus (simp [hi, w1]; done)) | (apply awp_cond_f; focus (simp [hi, w1]; done)) | (refine awp_cond ?_; simp [hi, w1]; refine ⟨?_, ?_⟩ <;> intro hc))
    exact retK_of (.inr rfl) (by simp) (h _ _ hO.toP hE)
  | true =>
    have hi : idxOf p l = (l.findIdx p : Nat) := by unfold idxOf; rw [ha]; rfl
    have hlt0 : l.findIdx p < l.length := List.findIdx_lt_length.2 (by simpa using ha)
    obtain ⟨i0, hi0⟩ : ∃ i0, l.findIdx p = i0 := ⟨_, rfl⟩
    rw [hi0] at hi hlt0
    have hne : ¬ ((i0 : Int) = -1) := by omega
    have w0 : IntKind.i64.wrap ((i0 : Int) + 1) = ((i0 + 1 : Nat) : Int) := by rw [wrap64 (by omega) (by omega)]; omega
    have w1 : IntKind.i64.wrap (-1) = -1 := wrap64 (by omega) (by omega)
    rcases hO with ⟨he, _⟩ | ⟨j, hv, hj, hm, hn⟩
    · have : l = [] := by simpa using he
      subst this
      simp at ha
    rw [List.length_map] at hv
    subst hv
    (try (first | (with_reducible refine dops_go ?_; simp [hi, w1, hne, w0]) | (with_reducible refine OKv_go ?_; simp [hi, w1, hne, w0]) | (with_reducible refine OKr_go ?_; simp [hi, w1, hne, w0]))); repeat' (first | refine awp_seq ?_ | refine awp_block ?_ | (refine awp_skip ?_; try simp) | (refine awp_exit ?_; try simp) | (refine awp_ret ?_; try simp) | (refine retP_same (by simp) ?_; simp) | (refine retP_flat (by simp) (by simp) (by simp (maxDischargeDepth := 30) [hi, w1, hne, w0]) ?_; simp) | (refine awp_reg ?_; simp [hi, w1, hne, w0]) | (refine awp_drawT (fun _ => false) mixed (by decide +kernel) ?_; simp [hi, w1, hne, w0]) | (refine guarded_split ?_ ?_ <;> (intro hg; simp only [hg]; simp [hi, w1, hne, w0])) | (apply awp_cond_t; focus (simp [hi, w1, hne, w0]; done)) | (apply awp_cond_f; focus (simp [hi, w1, hne, w0]; done)) | (refine awp_cond ?_; simp [hi, w1, hne, w0]; refine ⟨?_, ?_⟩ <;> intro hc))
    have hfirst : ∀ r ∈ l.take i0, p r = false := fun r hr => by
      obtain ⟨q, hq⟩ := List.getElem?_of_mem hr
      obtain ⟨hq1, hq2⟩ := List.getElem?_eq_some_iff.1 hq
      rw [List.length_take] at hq1
      rw [List.getElem_take] at hq2
      have := List.not_of_lt_findIdx (p := p) (xs := l) (i := q) (by omega)
      rw [hq2] at this
      simpa using this
    have hp0 : p l[i0] = true := by
      have := List.findIdx_getElem (p := p) (xs := l) (w := by omega)
      simpa only [hi0] using this
    have htk : ∀ k, (hk : k < l.length) → (l.take (k + 1)).filter (fun r => !p r) = (l.take k).filter (fun r => !p r) ++ if p l[k] = true then [] else [l[k]] := fun k hk => by
      rw [List.take_add_one, List.getElem?_eq_getElem hk, List.filter_append]
      congr 1
      cases hb : p l[k] <;> simp [hb]
    refine awp_loopH (fun n A τ => A 0 = .rs j 0 l.length ∧ A 1 = .fn (.func g) [] caps ∧ Ext σ0 τ ∧ ∃ (k : Nat) (q : List Ru), A 6 = .raw (.int .i64 k) ∧ A 5 = .raw (.int .i64 (((l.take k).filter fun r => !p r).length : Nat)) ∧ k ≤ l.length ∧
      ((l.take k).filter fun r => !p r).length < k ∧ q.length = l.length ∧ q.take ((l.take k).filter fun r => !p r).length = (l.take k).filter (fun r => !p r) ∧ q.drop k = l.drop k ∧ τ.m j = some (.buf (q.map ruAV)) ∧ n = l.length - k) (l.length - (i0 + 1)) ?_ ?_
    · have e1 : (l.take (i0 + 1)).filter (fun r => !p r) = l.take i0 := by
        rw [htk i0 hlt0, if_pos hp0, List.append_nil, List.filter_eq_self]
        intro r hr; simp [hfirst r hr]
      refine ⟨by simp, by simp, hE, i0 + 1, l, by simp, ?_, by omega, ?_, rfl, ?_, rfl, hm, rfl⟩
      · rw [e1, List.length_take, Nat.min_eq_left (by omega)]; simp
      · rw [e1, List.length_take, Nat.min_eq_left (by omega)]; omega
      · rw [e1, List.length_take, Nat.min_eq_left (by omega)]
    rintro n A τ ⟨a0, a1, hE, k, q, a6, a5, hk, hik, hq, hq1, hq2, hmq, rfl⟩ I1 hI1
    obtain ⟨i, hii⟩ : ∃ i, ((l.take k).filter fun r => !p r).length = i := ⟨_, rfl⟩
    rw [hii] at a5 hik hq1
    by_cases hlt : k < l.length
    · have hx : q[k]? = some l[k] := by
        have := congrArg (·[0]?) hq2
        simpa [List.getElem?_drop, List.getElem?_eq_getElem hlt] using this
      have hxi : q[i]? = some q[i] := List.getElem?_eq_getElem (by omega)
      have w2 : IntKind.i64.wrap ((k : Int) + 1) = ((k + 1 : Nat) : Int) := by rw [wrap64 (by omega) (by omega)]; omega
      have w3 : IntKind.i64.wrap ((i : Int) + 1) = ((i + 1 : Nat) : Int) := by rw [wrap64 (by omega) (by omega)]; omega
      have hjf : j ≠ ⟨7, τ.nx 7, 7⟩ := fun e => by rw [e, fresh_none] at hmq; cases hmq
      have hil : i < l.length := by omega
      (try (first | (with_reducible refine dops_go ?_; simp [a0, a1, a6, a5, hlt, hx, hmq, hj, hjf, ru_cells, ru_fold, w2, w3]) | (with_reducible refine OKv_go ?_; simp [a0, a1, a6, a5, hlt, hx, hmq, hj, hjf, ru_cells, ru_fold, w2, w3]) | (with_reducible refine OKr_go ?_; simp [a0, a1, a6, a5, hlt, hx, hmq, hj, hjf, ru_cells, ru_fold, w2, w3]))); repeat' (first | refine awp_seq ?_ | refine awp_block ?_ | (refine awp_skip ?_; try simp) | (refine awp_exit ?_; try simp) | (refine awp_ret ?_; try simp) | (refine retP_same (by simp) ?_; simp) | (refine retP_flat (by simp) (by simp) (by simp (maxDischargeDepth := 30) [a0, a1, a6, a5, hlt, hx, hmq, hj, hjf, ru_cells, ru_fold, w2, w3]) ?_; simp) | (refine awp_reg ?_; simp [a0, a1, a6, a5, hlt, hx, hmq, hj, hjf, ru_cells, ru_fold, w2, w3]) | (refine awp_drawT (fun _ => false) mixed (by decide +kernel) ?_; simp [a0, a1, a6, a5, hlt, hx, hmq, hj, hjf, ru_cells, ru_fold, w2, w3]) | (refine guarded_split ?_ ?_ <;> (intro hg; simp only [hg]; simp [a0, a1, a6, a5, hlt, hx, hmq, hj, hjf, ru_cells, ru_fold, w2, w3])) | (apply awp_cond_t; focus (simp [a0, a1, a6, a5, hlt, hx, hmq, hj, hjf, ru_cells, ru_fold, w2, w3]; done)) | (apply awp_cond_f; focus (simp [a0, a1, a6, a5, hlt, hx, hmq, hj, hjf, ru_cells, ru_fold, w2, w3]; done)) | (refine awp_cond ?_; simp [a0, a1, a6, a5, hlt, hx, hmq, hj, hjf, ru_cells, ru_fold, w2, w3]; refine ⟨?_, ?_⟩ <;> intro hc))
      refine PCalls.use (hg l[k] (List.getElem_mem _)) ?_
      cases hpk : p l[k] with
      | true =>
        (try (first | (with_reducible refine dops_go ?_; simp [a0, a1, a6, a5, hlt, hx, hmq, hj, hjf, ru_cells, ru_fold, w2, w3]) | (with_reducible refine OKv_go ?_; simp [a0, a1, a6, a5, hlt, hx, hmq, hj, hjf, ru_cells, ru_fold, w2, w3]) | (with_reducible refine OKr_go ?_; simp [a0, a1, a6, a5, hlt, hx, hmq, hj, hjf, ru_cells, ru_fold, w2, w3]))); repeat' (first | refine awp_seq ?_ | refine awp_block ?_ | (refine awp_skip ?_; try simp) | (refine awp_exit ?_; try simp) | (refine awp_ret ?_; try simp) | (refine retP_same (by simp) ?_; simp) | (refine retP_flat (by simp) (by simp) (by simp (maxDischargeDepth := 30) [a0, a1, a6, a5, hlt, hx, hmq, hj, hjf, ru_cells, ru_fold, w2, w3]) ?_; simp) | (refine awp_reg ?_; simp [a0, a1, a6, a5, hlt, hx, hmq, hj, hjf, ru_cells, ru_fold, w2, w3]) | (refine awp_drawT (fun _ => false) mixed (by decide +kernel) ?_; simp [a0, a1, a6, a5, hlt, hx, hmq, hj, hjf, ru_cells, ru_fold, w2, w3]) | (refine guarded_split ?_ ?_ <;> (intro hg; simp only [hg]; simp [a0, a1, a6, a5, hlt, hx, hmq, hj, hjf, ru_cells, ru_fold, w2, w3])) | (apply awp_cond_t; focus (simp [a0, a1, a6, a5, hlt, hx, hmq, hj, hjf, ru_cells, ru_fold, w2, w3]; done)) | (apply awp_cond_f; focus (simp [a0, a1, a6, a5, hlt, hx, hmq, hj, hjf, ru_cells, ru_fold, w2, w3]; done)) | (refine awp_cond ?_; simp [a0, a1, a6, a5, hlt, hx, hmq, hj, hjf, ru_cells, ru_fold, w2, w3]; refine ⟨?_, ?_⟩ <;> intro hc))
        have e := htk k hlt
        rw [if_pos hpk, List.append_nil] at e
        refine hI1 (l.length - (k + 1)) _ _ (by omega) ⟨by simp [a0], by simp [a1], by simp [hE], k + 1, q, by simp, by rw [e, hii]; simp [a5], by omega, by rw [e, hii]; omega, hq, by rw [e, hii]; exact hq1, ?_, by simp [St.set, St.new, hjf, hmq], rfl⟩
        have := congrArg (List.drop 1) hq2
        simpa [List.drop_drop, Nat.add_comm] using this
      | false =>
        have hsp : setPart (ruAV q[i]) 0 (ruAV l[k]).cells = ruAV l[k] := rfl
        rw [ru_cells] at hsp
        (try (first | (with_reducible refine dops_go ?_; simp [a0, a1, a6, a5, hlt, hil, hx, hxi, hmq, hj, hjf, ru_cells, ru_fold, hsp, w2, w3]) | (with_reducible refine OKv_go ?_; simp [a0, a1, a6, a5, hlt, hil, hx, hxi, hmq, hj, hjf, ru_cells, ru_fold, hsp, w2, w3]) | (with_reducible refine OKr_go ?_; simp [a0, a1, a6, a5, hlt, hil, hx, hxi, hmq, hj, hjf, ru_cells, ru_fold, hsp, w2, w3]))); repeat' (first | refine awp_seq ?_ | refine awp_block ?_ | (refine awp_skip ?_; try simp) | (refine awp_exit ?_; try simp) | (refine awp_ret ?_; try simp) | (refine retP_same (by simp) ?_; simp) | (refine retP_flat (by simp) (by simp) (by simp (maxDischargeDepth := 30) [a0, a1, a6, a5, hlt, hil, hx, hxi, hmq, hj, hjf, ru_cells, ru_fold, hsp, w2, w3]) ?_; simp) | (refine awp_reg ?_; simp [a0, a1, a6, a5, hlt, hil, hx, hxi, hmq, hj, hjf, ru_cells, ru_fold, hsp, w2, w3]) | (refine awp_drawT (fun _ => false) mixed (by decide +kernel) ?_; simp [a0, a1, a6, a5, hlt, hil, hx, hxi, hmq, hj, hjf, ru_cells, ru_fold, hsp, w2, w3]) | (refine guarded_split ?_ ?_ <;> (intro hg; simp only [hg]; simp [a0, a1, a6, a5, hlt, hil, hx, hxi, hmq, hj, hjf, ru_cells, ru_fold, hsp, w2, w3])) | (apply awp_cond_t; focus (simp [a0, a1, a6, a5, hlt, hil, hx, hxi, hmq, hj, hjf, ru_cells, ru_fold, hsp, w2, w3]; done)) | (apply awp_cond_f; focus (simp [a0, a1, a6, a5, hlt, hil, hx, hxi, hmq, hj, hjf, ru_cells, ru_fold, hsp, w2, w3]; done)) | (refine awp_cond ?_; simp [a0, a1, a6, a5, hlt, hil, hx, hxi, hmq, hj, hjf, ru_cells, ru_fold, hsp, w2, w3]; refine ⟨?_, ?_⟩ <;> intro hc))
        have e := htk k hlt
        rw [if_neg (by simp [hpk])] at e
        have el : (((l.take k).filter fun r => !p r) ++ [l[k]]).length = i + 1 := by rw [List.length_append, hii]; rfl
        refine hI1 (l.length - (k + 1)) _ _ (by omega) ⟨by simp [a0], by simp [a1], Ext.setF (by simp [hE]) hn, k + 1, q.set i l[k], by simp, by rw [e, el]; simp, by omega, by rw [e, el]; omega, by simpa using hq, ?_, ?_, by simp [St.set, St.new, hjf, hmq, List.map_set], rfl⟩
        · rw [e, el, ← hq1, List.take_succ_eq_append_getElem (by simp; omega)]
          simp
          rw [List.take_set, List.set_eq_of_length_le (by simp; omega)]
        · have := congrArg (List.drop 1) hq2
          rw [List.drop_set_of_lt (by omega)]
          simpa [List.drop_drop, Nat.add_comm] using this
    · have : k = l.length := by omega
      subst this
      rw [List.take_length] at *
      have hil : i ≤ l.length := by omega
      obtain ⟨m, hm'⟩ : ∃ m, l.length - i = m + 1 := ⟨l.length - i - 1, by omega⟩
      have ecut : cutRs j 0 i l.length = .rs j i (m + 1) := by unfold cutRs; rw [if_pos (.inr (by omega)), hm', Nat.zero_add]
      obtain ⟨rest, hcl⟩ : ∃ rest, opClear Tryz.prog τ.m 26 (.rs j i (m + 1)) = some (.wrv j ((l.filter fun r => !p r).map ruAV ++ rest) (.tup [])) := by
        have hle : i + (m + 1) ≤ q.length := by omega
        refine ⟨List.replicate (m + 1) (ruAV ⟨0, 0, 0, 0, ⟨0, 0⟩, 0⟩) ++ (q.map ruAV).drop (i + (m + 1)), ?_⟩
        rw [← hq1, List.map_take]
        simp [opClear, hmq, hj, cellsOK, cellOK, hle, ruAV]
      (try (first | (with_reducible refine dops_go ?_; simp [a0, a1, a6, a5, hj, hil, ecut, hcl]) | (with_reducible refine OKv_go ?_; simp [a0, a1, a6, a5, hj, hil, ecut, hcl]) | (with_reducible refine OKr_go ?_; simp [a0, a1, a6, a5, hj, hil, ecut, hcl]))); repeat' (first | refine awp_seq ?_ | refine awp_block ?_ | (refine awp_skip ?_; try simp) | (refine awp_exit ?_; try simp) | (refine awp_ret ?_; try simp) | (refine awp_reg ?_; simp [a0, a1, a6, a5, hj, hil, ecut, hcl]) | (refine awp_drawT (fun _ => false) mixed (by decide +kernel) ?_; simp [a0, a1, a6, a5, hj, hil, ecut, hcl]) | (refine guarded_split ?_ ?_ <;> (intro hg; simp only [hg]; simp [a0, a1, a6, a5, hj, hil, ecut, hcl])) | (apply awp_cond_t; focus (simp [a0, a1, a6, a5, hj, hil, ecut, hcl]; done)) | (apply awp_cond_f; focus (simp [a0, a1, a6, a5, hj, hil, ecut, hcl]; done)) | (refine awp_cond ?_; simp [a0, a1, a6, a5, hj, hil, ecut, hcl]; refine ⟨?_, ?_⟩ <;> intro hc))
      have ec0 : cutRs j 0 0 i = .rs j 0 ((l.filter fun r => !p r).map ruAV).length := by
        unfold cutRs; rw [if_pos (.inl rfl), List.length_map, hii]; simp
      exact retK_of (.inr rfl) (x := cutRs j 0 0 i) (by simp) (by
        rw [ec0]
        exact h _ _ (.inr ⟨j, rest, rfl, hj, set_hit hmq, hn⟩) (Ext.setF hE hn))
end Go.Proofs.YtanimmdlgmkmkaaGreat.Av


/- Networks: which rule a device goes by. -/
namespace Go.Proofs.YtanimmdlgmkmkaaGreat.Av
open Go
set_option linter.unusedSimpArgs false
set_option linter.unusedVariables false
set_option maxRecDepth 100000
set_option maxHeartbeats 2000000
set_option pp.maxSteps 300

theorem firstNot_calls {g : FuncId} {caps : List AV} {p : Ru → Bool} (r : Ru) (hg : PCalls Tryz.prog g (ruAV r :: caps) (.raw (.bool (p r)))) : PCalls Tryz.prog 233 [ruAV r, .pp [.fn (.func g) [] caps] 0] (.raw (.bool (!p r))) := by
  refine pbody Tryz.func233 rfl (N := 8) rfl rfl (by simp) (by simp [noIds]) fun σ => ?_
  (try (first | (with_reducible refine dops_go ?_; simp [ru_cells, ru_ok]) | (with_reducible refine OKv_go ?_; simp [ru_cells, ru_ok]) | (with_reducible refine OKr_go ?_; simp [ru_cells, ru_ok]))); repeat' (first | refine awp_seq ?_ | refine awp_block ?_ | (refine awp_skip ?_; try simp) | (refine awp_exit ?_; try simp) | (refine awp_ret ?_; try simp) | (refine retP_same (by simp) ?_; simp) | (refine retP_flat (by simp) (by simp) (by simp (maxDischargeDepth := 30) [ru_cells, ru_ok]) ?_; simp) | (refine awp_reg ?_; simp [ru_cells, ru_ok]) | (refine awp_drawT (fun _ => false) mixed (by decide +kernel) ?_; simp [ru_cells, ru_ok]) | (refine guarded_split ?_ ?_ <;> (intro hg; simp only [hg]; simp [ru_cells, ru_ok])) | (apply awp_cond_t; focus (simp [ru_cells, ru_ok]; done)) | (apply awp_cond_f; focus (simp [ru_cells, ru_ok]; done)) | (refine awp_cond ?_; simp [ru_cells, ru_ok]; refine ⟨?_, ?_⟩ <;> intro hc))
  rw [ru_fold]
  refine PCalls.use hg ?_
  (try (first | (with_reducible refine dops_go ?_; simp) | (with_reducible refine OKv_go ?_; simp) | (with_reducible refine OKr_go ?_; simp))); repeat' (first | refine awp_seq ?_ | refine awp_block ?_ | (refine awp_skip ?_; try simp) | (refine awp_exit ?_; try simp) | (refine awp_ret ?_; try simp) | (refine retP_same (by simp) ?_; simp) | (refine retP_flat (by simp) (by simp) (by simp (maxDischargeDepth := 30)) ?_; simp) | (refine awp_reg ?_; simp) | (refine awp_drawT (fun _ => false) mixed (by decide +kernel) ?_; simp) | (refine guarded_split ?_ ?_ <;> (intro hg; simp only [hg]; simp)) | (apply awp_cond_t; focus (simp; done)) | (apply awp_cond_f; focus (simp; done)) | (refine awp_cond ?_; simp; refine ⟨?_, ?_⟩ <;> intro hc))

theorem first_calls {g : FuncId} {caps : List AV} {p : Ru → Bool} (l : List Ru) (f : Bool) (hl : l.length < 2932031007403) (hg : ∀ r ∈ l, PCalls Tryz.prog g (ruAV r :: caps) (.raw (.bool (p r)))) :
    PCalls Tryz.prog 215 [rulesAV l f, .fn (.func g) [] caps] (.tup [ruAV (minR (l.filter p)), .raw (.bool (l.any p))]) := by
  refine pbody Tryz.func215 rfl (N := 16) rfl rfl (by simp) (by simp [noIds, ruAV]) fun σ => ?_
  repeat (refine awp_seq ?_)
  refine awp_reg ?_
  simp
  refine awp_freeze ⟨3, σ.nx 3, 1⟩ ?_
  generalize hτ : St.del _ _ = τ
  generalize hA : (fun t => giveUp _ _ _) = A
  have a0 : A 0 = rulesAV l f := by rw [← hA]; simp [rulesAV]
  have a3 : A 3 = .pp [.fn (.func g) [] caps] 0 := by rw [← hA, ← hτ]; simp [giveUp, St.new, St.del]
  have a4 : A 4 = .rp ⟨4, σ.nx 4, 7⟩ 0 0 := by rw [← hA, ← hτ]; simp [giveUp, St.new, St.del]
  have m4 : τ.m ⟨4, σ.nx 4, 7⟩ = some (.buf [ruAV ⟨0, 0, 0, 0, ⟨0, 0⟩, 0⟩]) := by rw [← hτ]; simp [St.new, St.del, ruAV]
  have hE : Ext σ τ := by
    rw [← hτ]
    refine ⟨fun i o h => ?_, fun s => ?_⟩
    · rw [del_other (fun e => by rw [e, fresh_none] at h; cases h)]
      exact new_up _ _ (new_up _ _ h)
    · exact Nat.le_trans (St.new_le σ 3 1 (.buf [.fn (.func g) [] caps]) s) (St.new_le (σ.new 3 1 (.buf [.fn (.func g) [] caps])) 4 7 (.buf [ruAV ⟨0, 0, 0, 0, ⟨0, 0⟩, 0⟩]) s)
  clear hτ hA
  have f4 : σ.m ⟨4, σ.nx 4, 7⟩ = none := fresh_none _ _ _
  (try (first | (with_reducible refine dops_go ?_; simp [a0, a3, a4, m4]) | (with_reducible refine OKv_go ?_; simp [a0, a3, a4, m4]) | (with_reducible refine OKr_go ?_; simp [a0, a3, a4, m4]))); repeat' (first | refine awp_seq ?_ | refine awp_block ?_ | (refine awp_skip ?_; try simp) | (refine awp_exit ?_; try simp) | (refine awp_ret ?_; try simp) | (refine retP_same (by simp) ?_; simp) | (refine retP_flat (by simp) (by simp) (by simp (maxDischargeDepth := 30) [a0, a3, a4, m4]) ?_; simp) | (refine awp_reg ?_; simp [a0, a3, a4, m4]) | (refine awp_drawT (fun _ => false) mixed (by decide +kernel) ?_; simp [a0, a3, a4, m4]) | (refine guarded_split ?_ ?_ <;> (intro hg; simp only [hg]; simp [a0, a3, a4, m4])) | (apply awp_cond_t; focus (simp [a0, a3, a4, m4]; done)) | (apply awp_cond_f; focus (simp [a0, a3, a4, m4]; done)) | (refine awp_cond ?_; simp [a0, a3, a4, m4]; refine ⟨?_, ?_⟩ <;> intro hc))
  refine ruClone_calls l f hl fun v τ1 hO hE1 => ?_
  (try (first | (with_reducible refine dops_go ?_; simp [a0, a3, a4]) | (with_reducible refine OKv_go ?_; simp [a0, a3, a4]) | (with_reducible refine OKr_go ?_; simp [a0, a3, a4]))); repeat' (first | refine awp_seq ?_ | refine awp_block ?_ | (refine awp_skip ?_; try simp) | (refine awp_exit ?_; try simp) | (refine awp_ret ?_; try simp) | (refine retP_same (by simp) ?_; simp) | (refine retP_flat (by simp) (by simp) (by simp (maxDischargeDepth := 30) [a0, a3, a4]) ?_; simp) | (refine awp_reg ?_; simp [a0, a3, a4]) | (refine awp_drawT (fun _ => false) mixed (by decide +kernel) ?_; simp [a0, a3, a4]) | (refine guarded_split ?_ ?_ <;> (intro hg; simp only [hg]; simp [a0, a3, a4])) | (apply awp_cond_t; focus (simp [a0, a3, a4]; done)) | (apply awp_cond_f; focus (simp [a0, a3, a4]; done)) | (refine awp_cond ?_; simp [a0, a3, a4]; refine ⟨?_, ?_⟩ <;> intro hc))
  refine delete_calls (σ0 := τ) l hO hE1 hl (fun r hr => firstNot_calls r (hg r hr)) fun v' τ2 hP hE2 => ?_
  have hfl : (l.filter fun r => !(!p r)) = l.filter p := by simp
  rw [hfl] at hP
  have m4' : τ2.m ⟨4, σ.nx 4, 7⟩ = some (.buf [ruAV ⟨0, 0, 0, 0, ⟨0, 0⟩, 0⟩]) := hE2.m _ _ m4
  have hE3 : Ext σ τ2 := hE.trans hE2
  cases ha : l.any p with
  | false =>
    have hnil : l.filter p = [] := by
      rw [List.filter_eq_nil_iff]
      intro r hr
      rw [List.any_eq_false] at ha
      exact ha r hr
    rw [hnil] at hP ⊢
    have hlen : ∃ z, (v' = .sl 0 [] true ∨ v' = .rs z 0 0) := by
      rcases hP with ⟨_, h⟩ | ⟨z, rest, h, _⟩
      · exact ⟨⟨0, 0, 0⟩, .inl h⟩
      · exact ⟨z, .inr h⟩
    have hz : setPart (ruAV ⟨0, 0, 0, 0, ⟨0, 0⟩, 0⟩) 0 [.raw (.int .i64 0), .raw (.int .i64 0), .raw (.int .i64 0), .raw (.int .i64 0), .raw (.int .u32 0), .raw (.int .u32 0), .raw (.int .i64 0)] = ruAV ⟨0, 0, 0, 0, ⟨0, 0⟩, 0⟩ := rfl
    obtain ⟨z, rfl | rfl⟩ := hlen
    · (try (first | (with_reducible refine dops_go ?_; simp [a0, a3, a4, m4']) | (with_reducible refine OKv_go ?_; simp [a0, a3, a4, m4']) | (with_reducible refine OKr_go ?_; simp [a0, a3, a4, m4']))); repeat' (first | refine awp_seq ?_ | refine awp_block ?_ | (refine awp_skip ?_; try simp) | (refine awp_exit ?_; try simp) | (refine awp_ret ?_; try simp) | (refine awp_reg ?_; simp [a0, a3, a4, m4']) | (refine awp_drawT (fun _ => false) mixed (by decide +kernel) ?_; simp [a0, a3, a4, m4']) | (refine guarded_split ?_ ?_ <;> (intro hg; simp only [hg]; simp [a0, a3, a4, m4'])) | (apply awp_cond_t; focus (simp [a0, a3, a4, m4']; done)) | (apply awp_cond_f; focus (simp [a0, a3, a4, m4']; done)) | (refine awp_cond ?_; simp [a0, a3, a4, m4']; refine ⟨?_, ?_⟩ <;> intro hc))
      exact retP_flat (.inr rfl) rfl (hE3.setF f4) (by simp [a4, m4', St.set, minR, hz, ru_cells]; rfl)
    · (try (first | (with_reducible refine dops_go ?_; simp [a0, a3, a4, m4']) | (with_reducible refine OKv_go ?_; simp [a0, a3, a4, m4']) | (with_reducible refine OKr_go ?_; simp [a0, a3, a4, m4']))); repeat' (first | refine awp_seq ?_ | refine awp_block ?_ | (refine awp_skip ?_; try simp) | (refine awp_exit ?_; try simp) | (refine awp_ret ?_; try simp) | (refine awp_reg ?_; simp [a0, a3, a4, m4']) | (refine awp_drawT (fun _ => false) mixed (by decide +kernel) ?_; simp [a0, a3, a4, m4']) | (refine guarded_split ?_ ?_ <;> (intro hg; simp only [hg]; simp [a0, a3, a4, m4'])) | (apply awp_cond_t; focus (simp [a0, a3, a4, m4']; done)) | (apply awp_cond_f; focus (simp [a0, a3, a4, m4']; done)) | (refine awp_cond ?_; simp [a0, a3, a4, m4']; refine ⟨?_, ?_⟩ <;> intro hc))
      exact retP_flat (.inr rfl) rfl (hE3.setF f4) (by simp [a4, m4', St.set, minR, hz, ru_cells]; rfl)
  | true =>
    have hne : l.filter p ≠ [] := by
      intro e
      rw [List.filter_eq_nil_iff] at e
      obtain ⟨r, hr, h⟩ := List.any_eq_true.1 ha
      exact e r hr h
    have hlf : (l.filter p).length ≤ l.length := List.length_filter_le _ _
    have hmin := minFunc_calls (l.filter p) hne false (by omega)
    have hpos : 0 < (l.filter p).length := List.length_pos_iff.2 hne
    have hP' := hP
    rcases hP with ⟨h, _⟩ | ⟨z, rest, rfl, hz7, hz, hzn⟩
    · exact absurd (by simpa using h) hne
    rw [List.length_map] at hP' ⊢
    have hl0 : ¬ ((l.filter p).length = 0) := by omega
    (try (first | (with_reducible refine dops_go ?_; simp [a0, a3, a4, m4', hl0]) | (with_reducible refine OKv_go ?_; simp [a0, a3, a4, m4', hl0]) | (with_reducible refine OKr_go ?_; simp [a0, a3, a4, m4', hl0]))); repeat' (first | refine awp_seq ?_ | refine awp_block ?_ | (refine awp_skip ?_; try simp) | (refine awp_exit ?_; try simp) | (refine awp_ret ?_; try simp) | (refine retP_same (by simp) ?_; simp) | (refine retP_flat (by simp) (by simp) (by simp (maxDischargeDepth := 30) [a0, a3, a4, m4', hl0]) ?_; simp) | (refine awp_reg ?_; simp [a0, a3, a4, m4', hl0]) | (refine awp_drawT (fun _ => false) mixed (by decide +kernel) ?_; simp [a0, a3, a4, m4', hl0]) | (refine guarded_split ?_ ?_ <;> (intro hg; simp only [hg]; simp [a0, a3, a4, m4', hl0])) | (apply awp_cond_t; focus (simp [a0, a3, a4, m4', hl0]; done)) | (apply awp_cond_f; focus (simp [a0, a3, a4, m4', hl0]; done)) | (refine awp_cond ?_; simp [a0, a3, a4, m4', hl0]; refine ⟨?_, ?_⟩ <;> intro hc))
    refine PCalls.useP hmin rfl hP' ?_
    (try (first | (with_reducible refine dops_go ?_; simp [a0, a3, a4, m4', ru_cells, ru_part]) | (with_reducible refine OKv_go ?_; simp [a0, a3, a4, m4', ru_cells, ru_part]) | (with_reducible refine OKr_go ?_; simp [a0, a3, a4, m4', ru_cells, ru_part]))); repeat' (first | refine awp_seq ?_ | refine awp_block ?_ | (refine awp_skip ?_; try simp) | (refine awp_exit ?_; try simp) | (refine awp_ret ?_; try simp) | (refine awp_reg ?_; simp [a0, a3, a4, m4', ru_cells, ru_part]) | (refine awp_drawT (fun _ => false) mixed (by decide +kernel) ?_; simp [a0, a3, a4, m4', ru_cells, ru_part]) | (refine guarded_split ?_ ?_ <;> (intro hg; simp only [hg]; simp [a0, a3, a4, m4', ru_cells, ru_part])) | (apply awp_cond_t; focus (simp [a0, a3, a4, m4', ru_cells, ru_part]; done)) | (apply awp_cond_f; focus (simp [a0, a3, a4, m4', ru_cells, ru_part]; done)) | (refine awp_cond ?_; simp [a0, a3, a4, m4', ru_cells, ru_part]; refine ⟨?_, ?_⟩ <;> intro hc))
    exact retP_flat (.inr rfl) rfl (hE3.setF f4) (by simp [a4, m4', St.set, ru_cells]; exact ru_fold _)

def aclP (d a : Int) (r : Ru) : Bool := decide (1 < r.kind) && takesB r d a
def fwdP (d a : Int) (r : Ru) : Bool := decide (r.kind ≤ 1) && takesB r d a
theorem aclP_calls (r : Ru) (d a : Int) : PCalls Tryz.prog 216 [ruAV r, .pp [.raw (.int .i64 d)] 0, .pp [.raw (.int .u32 a)] 0] (.raw (.bool (aclP d a r))) := by
  refine pbody Tryz.func216 rfl (N := 14) rfl rfl (by simp) (by simp [noIds]) fun σ => ?_
  obtain ⟨b, hb⟩ : ∃ b, decide (1 < r.kind) = b := ⟨_, rfl⟩
  unfold aclP
  rw [hb]
  (try (first | (with_reducible refine dops_go ?_; simp [ru_cells, ru_ok, hb, ru_fold]) | (with_reducible refine OKv_go ?_; simp [ru_cells, ru_ok, hb, ru_fold]) | (with_reducible refine OKr_go ?_; simp [ru_cells, ru_ok, hb, ru_fold]))); repeat' (first | refine awp_seq ?_ | refine awp_block ?_ | (refine awp_skip ?_; try simp) | (refine awp_exit ?_; try simp) | (refine awp_ret ?_; try simp) | (refine retP_same (by simp) ?_; simp) | (refine retP_flat (by simp) (by simp) (by simp (maxDischargeDepth := 30) [ru_cells, ru_ok, hb, ru_fold]) ?_; simp) | (refine awp_reg ?_; simp [ru_cells, ru_ok, hb, ru_fold]) | (refine awp_drawT (fun _ => false) mixed (by decide +kernel) ?_; simp [ru_cells, ru_ok, hb, ru_fold]) | (refine guarded_split ?_ ?_ <;> (intro hg; simp only [hg]; simp [ru_cells, ru_ok, hb, ru_fold])) | (apply awp_cond_t; focus (simp [ru_cells, ru_ok, hb, ru_fold]; done)) | (apply awp_cond_f; focus (simp [ru_cells, ru_ok, hb, ru_fold]; done)) | (refine awp_cond ?_; simp [ru_cells, ru_ok, hb, ru_fold]; refine ⟨?_, ?_⟩ <;> intro hc))
  refine PCalls.use (takes_calls r d a) ?_
  (try (first | (with_reducible refine dops_go ?_; simp) | (with_reducible refine OKv_go ?_; simp) | (with_reducible refine OKr_go ?_; simp))); repeat' (first | refine awp_seq ?_ | refine awp_block ?_ | (refine awp_skip ?_; try simp) | (refine awp_exit ?_; try simp) | (refine awp_ret ?_; try simp) | (refine retP_same (by simp) ?_; simp) | (refine retP_flat (by simp) (by simp) (by simp (maxDischargeDepth := 30)) ?_; simp) | (refine awp_reg ?_; simp) | (refine awp_drawT (fun _ => false) mixed (by decide +kernel) ?_; simp) | (refine guarded_split ?_ ?_ <;> (intro hg; simp only [hg]; simp)) | (apply awp_cond_t; focus (simp; done)) | (apply awp_cond_f; focus (simp; done)) | (refine awp_cond ?_; simp; refine ⟨?_, ?_⟩ <;> intro hc))
theorem fwdP_calls (r : Ru) (d a : Int) : PCalls Tryz.prog 218 [ruAV r, .pp [.raw (.int .i64 d)] 0, .pp [.raw (.int .u32 a)] 0] (.raw (.bool (fwdP d a r))) := by
  refine pbody Tryz.func218 rfl (N := 14) rfl rfl (by simp) (by simp [noIds]) fun σ => ?_
  obtain ⟨b, hb⟩ : ∃ b, decide (r.kind ≤ 1) = b := ⟨_, rfl⟩
  unfold fwdP
  rw [hb]
  (try (first | (with_reducible refine dops_go ?_; simp [ru_cells, ru_ok, hb, ru_fold]) | (with_reducible refine OKv_go ?_; simp [ru_cells, ru_ok, hb, ru_fold]) | (with_reducible refine OKr_go ?_; simp [ru_cells, ru_ok, hb, ru_fold]))); repeat' (first | refine awp_seq ?_ | refine awp_block ?_ | (refine awp_skip ?_; try simp) | (refine awp_exit ?_; try simp) | (refine awp_ret ?_; try simp) | (refine retP_same (by simp) ?_; simp) | (refine retP_flat (by simp) (by simp) (by simp (maxDischargeDepth := 30) [ru_cells, ru_ok, hb, ru_fold]) ?_; simp) | (refine awp_reg ?_; simp [ru_cells, ru_ok, hb, ru_fold]) | (refine awp_drawT (fun _ => false) mixed (by decide +kernel) ?_; simp [ru_cells, ru_ok, hb, ru_fold]) | (refine guarded_split ?_ ?_ <;> (intro hg; simp only [hg]; simp [ru_cells, ru_ok, hb, ru_fold])) | (apply awp_cond_t; focus (simp [ru_cells, ru_ok, hb, ru_fold]; done)) | (apply awp_cond_f; focus (simp [ru_cells, ru_ok, hb, ru_fold]; done)) | (refine awp_cond ?_; simp [ru_cells, ru_ok, hb, ru_fold]; refine ⟨?_, ?_⟩ <;> intro hc))
  refine PCalls.use (takes_calls r d a) ?_
  (try (first | (with_reducible refine dops_go ?_; simp) | (with_reducible refine OKv_go ?_; simp) | (with_reducible refine OKr_go ?_; simp))); repeat' (first | refine awp_seq ?_ | refine awp_block ?_ | (refine awp_skip ?_; try simp) | (refine awp_exit ?_; try simp) | (refine awp_ret ?_; try simp) | (refine retP_same (by simp) ?_; simp) | (refine retP_flat (by simp) (by simp) (by simp (maxDischargeDepth := 30)) ?_; simp) | (refine awp_reg ?_; simp) | (refine awp_drawT (fun _ => false) mixed (by decide +kernel) ?_; simp) | (refine guarded_split ?_ ?_ <;> (intro hg; simp only [hg]; simp)) | (apply awp_cond_t; focus (simp; done)) | (apply awp_cond_f; focus (simp; done)) | (refine awp_cond ?_; simp; refine ⟨?_, ?_⟩ <;> intro hc))
end Go.Proofs.YtanimmdlgmkmkaaGreat.Av


/- Networks: rules as the document goes by them. -/
namespace Go.Proofs.YtanimmdlgmkmkaaGreat.Av
open Go
set_option linter.unusedSimpArgs false
set_option linter.unusedVariables false
set_option maxRecDepth 100000
set_option maxHeartbeats 4000000
set_option pp.maxSteps 300

def refP (d a : Int) (acl : Bool) (r : Ru) : Bool := decide (r.dev = d) && (!decide (a < r.r.lo) && (!decide (r.r.hi < a) && ((decide (r.kind = 2) || decide (r.kind = 3)) == acl)))
def betterB (x m : Ru) : Bool := decide (m.prio < x.prio) || (decide (x.prio = m.prio) && decide (x.id < m.id))
theorem better_iff (x m : Ru) : aheadI x m < 0 ↔ betterB x m = true := by
  unfold aheadI cmpI betterB
  simp only [Bool.or_eq_true, Bool.and_eq_true, decide_eq_true_eq]
  repeat' split
  all_goals omega
theorem minR_snoc (z : List Ru) (x : Ru) : minR (z ++ [x]) = if z = [] then x else if betterB x (minR z) = true then x else minR z := by
  cases z with
  | nil => rfl
  | cons r l =>
    simp only [reduceCtorEq, if_false, List.cons_append, minR, List.foldl_append, List.foldl_cons, List.foldl_nil]
    by_cases h : aheadI x (l.foldl (fun m x => if aheadI x m < 0 then x else m) r) < 0
    · rw [if_pos h]; exact (if_pos ((better_iff _ _).1 h)).symm
    · rw [if_neg h]; exact (if_neg (fun q => h ((better_iff _ _).2 q))).symm

theorem pb1 : ∀ b1 b2 b3 b4 b5 acl : Bool, b4 = false → ¬ b5 = acl → (b1 && (!b2 && (!b3 && ((b4 || b5) == acl)))) = false := by decide
theorem pb2 : ∀ b1 b2 b3 b4 b5 acl : Bool, b4 = !false → acl = false → (b1 && (!b2 && (!b3 && ((b4 || b5) == acl)))) = false := by decide
theorem pb3 : ∀ b1 b2 b3 b4 b5 acl : Bool, b3 = !false → (b1 && (!b2 && (!b3 && ((b4 || b5) == acl)))) = false := by decide
theorem pb4 : ∀ b1 b2 b3 b4 b5 acl : Bool, b2 = !false → (b1 && (!b2 && (!b3 && ((b4 || b5) == acl)))) = false := by decide
theorem pb5 : ∀ b1 b2 b3 b4 b5 acl : Bool, (!b1) = !false → (b1 && (!b2 && (!b3 && ((b4 || b5) == acl)))) = false := by decide
theorem pb6 : ∀ b1 b2 b3 b4 b5 acl : Bool, b4 = false → (!b1) = false → b2 = false → b3 = false → b5 = acl → (b1 && (!b2 && (!b3 && ((b4 || b5) == acl)))) = true := by decide
theorem pb7 : ∀ b1 b2 b3 b4 b5 acl : Bool, b4 = !false → (!b1) = false → b2 = false → b3 = false → acl = true → (b1 && (!b2 && (!b3 && ((b4 || b5) == acl)))) = true := by decide
theorem pc1 : ∀ b6 b7 b8 : Bool, b6 = !false → (b6 || (b7 && b8)) = true := by decide
theorem pc2 : ∀ b6 b7 b8 : Bool, b7 = true → b8 = true → (b6 || (b7 && b8)) = true := by decide
theorem pc3 : ∀ b6 b7 b8 : Bool, b6 = false → b7 = !true → (b6 || (b7 && b8)) = false := by decide
theorem pc4 : ∀ b6 b7 b8 : Bool, b6 = false → b8 = false → (b6 || (b7 && b8)) = false := by decide

theorem refFirst_calls (l : List Ru) (f : Bool) (d a : Int) (acl : Bool) (hl : l.length < 2932031007403) :
    PCalls Tryz.prog 202 [rulesAV l f, .raw (.int .i64 d), .raw (.int .u32 a), .raw (.bool acl)] (.tup [ruAV (minR (l.filter (refP d a acl))), .raw (.bool (l.any (refP d a acl)))]) := by
  refine pbody Tryz.func202 rfl (N := 83) rfl rfl (by simp) (by simp [noIds, ruAV]) fun σ => ?_
  have hz : setPart (ruAV ⟨0, 0, 0, 0, ⟨0, 0⟩, 0⟩) 0 [.raw (.int .i64 0), .raw (.int .i64 0), .raw (.int .i64 0), .raw (.int .i64 0), .raw (.int .u32 0), .raw (.int .u32 0), .raw (.int .i64 0)] = ruAV ⟨0, 0, 0, 0, ⟨0, 0⟩, 0⟩ := rfl
  (try (first | (with_reducible refine dops_go ?_; simp [rulesAV]) | (with_reducible refine OKv_go ?_; simp [rulesAV]) | (with_reducible refine OKr_go ?_; simp [rulesAV]))); repeat' (first | refine awp_seq ?_ | refine awp_block ?_ | (refine awp_skip ?_; try simp) | (refine awp_exit ?_; try simp) | (refine awp_ret ?_; try simp) | (refine retP_same (by simp) ?_; simp) | (refine retP_flat (by simp) (by simp) (by simp (maxDischargeDepth := 30) [rulesAV]) ?_; simp) | (refine awp_reg ?_; simp [rulesAV]) | (refine awp_drawT (fun _ => false) mixed (by decide +kernel) ?_; simp [rulesAV]) | (refine guarded_split ?_ ?_ <;> (intro hg; simp only [hg]; simp [rulesAV])) | (apply awp_cond_t; focus (simp [rulesAV]; done)) | (apply awp_cond_f; focus (simp [rulesAV]; done)) | (refine awp_cond ?_; simp [rulesAV]; refine ⟨?_, ?_⟩ <;> intro hc))
  refine awp_loopH (fun n A τ => Ext σ τ ∧ A 0 = rulesAV l f ∧ A 1 = .raw (.int .i64 d) ∧ A 2 = .raw (.int .u32 a) ∧ A 3 = .raw (.bool acl) ∧ A 8 = .rp ⟨8, σ.nx 8, 7⟩ 0 0 ∧ A 10 = .rp ⟨10, σ.nx 10, 7⟩ 0 0 ∧
    τ.m ⟨8, σ.nx 8, 7⟩ = some (.buf [ruAV ⟨0, 0, 0, 0, ⟨0, 0⟩, 0⟩]) ∧ ∃ (i : Nat) (q : List Ru), q = (l.take i).filter (refP d a acl) ∧ τ.m ⟨10, σ.nx 10, 7⟩ = some (.buf [ruAV (minR q)]) ∧
      A 12 = .raw (.int .i64 i) ∧ A 11 = .raw (.bool (!q.isEmpty)) ∧ i ≤ l.length ∧ n = l.length - i) l.length ?_ ?_
  · refine ⟨by simp (maxDischargeDepth := 30), by simp [rulesAV], by simp, by simp, by simp, by simp, by simp [St.new], by simp [St.new, ruAV], 0, [], by simp, by simp [St.new, ruAV, minR], by simp, by simp, by omega, by omega⟩
  rintro n A τ ⟨hE, a0, a1, a2, a3, a8, a10, m8, i, q, hq, m10, a12, a11, hi, rfl⟩ I1 hI1
  have f8 : σ.m ⟨8, σ.nx 8, 7⟩ = none := fresh_none _ _ _
  have f10 : σ.m ⟨10, σ.nx 10, 7⟩ = none := fresh_none _ _ _
  by_cases hlt : i < l.length
  · have hx : l[i]? = some l[i] := List.getElem?_eq_getElem hlt
    have w1 : IntKind.i64.wrap ((i : Int) + 1) = ((i + 1 : Nat) : Int) := by rw [wrap64 (by omega) (by omega)]; omega
    have htk : (l.take (i + 1)).filter (refP d a acl) = q ++ if refP d a acl l[i] = true then [l[i]] else [] := by
      rw [List.take_add_one, hx, List.filter_append, hq]
      congr 1
      cases hb : refP d a acl l[i] <;> simp [hb]
    obtain ⟨m, hmm⟩ : ∃ m, minR q = m := ⟨_, rfl⟩
    rw [hmm] at m10
    obtain ⟨e', he⟩ : ∃ e', q.isEmpty = e' := ⟨_, rfl⟩
    rw [he] at a11
    have n8 : (⟨8, σ.nx 8, 7⟩ : Id) ≠ ⟨13, τ.nx 13, 7⟩ := by simp
    obtain ⟨b1, h1⟩ : ∃ b, decide (l[i].dev = d) = b := ⟨_, rfl⟩
    obtain ⟨b2, h2⟩ : ∃ b, decide (a < l[i].r.lo) = b := ⟨_, rfl⟩
    obtain ⟨b3, h3⟩ : ∃ b, decide (l[i].r.hi < a) = b := ⟨_, rfl⟩
    obtain ⟨b4, h4⟩ : ∃ b, decide (l[i].kind = 2) = b := ⟨_, rfl⟩
    obtain ⟨b5, h5⟩ : ∃ b, decide (l[i].kind = 3) = b := ⟨_, rfl⟩
    obtain ⟨b6, h6⟩ : ∃ b, decide (m.prio < l[i].prio) = b := ⟨_, rfl⟩
    obtain ⟨b7, h7⟩ : ∃ b, decide (l[i].prio = m.prio) = b := ⟨_, rfl⟩
    obtain ⟨b8, h8⟩ : ∃ b, decide (l[i].id < m.id) = b := ⟨_, rfl⟩
    have hp : refP d a acl l[i] = (b1 && (!b2 && (!b3 && ((b4 || b5) == acl)))) := by unfold refP; rw [h1, h2, h3, h4, h5]
    have hbt : betterB l[i] m = (b6 || (b7 && b8)) := by unfold betterB; rw [h6, h7, h8]
    have h1' : decide (¬ l[i].dev = d) = !b1 := by rw [← h1]; simp
    have fin : ∀ (q' : List Ru) (A' : Env) (τ' : St), Ext σ τ' → A' 0 = rulesAV l f → A' 1 = .raw (.int .i64 d) → A' 2 = .raw (.int .u32 a) → A' 3 = .raw (.bool acl) → A' 8 = .rp ⟨8, σ.nx 8, 7⟩ 0 0 → A' 10 = .rp ⟨10, σ.nx 10, 7⟩ 0 0 →
        τ'.m ⟨8, σ.nx 8, 7⟩ = some (.buf [ruAV ⟨0, 0, 0, 0, ⟨0, 0⟩, 0⟩]) → q' = (l.take (i + 1)).filter (refP d a acl) → τ'.m ⟨10, σ.nx 10, 7⟩ = some (.buf [ruAV (minR q')]) →
        A' 12 = .raw (.int .i64 ((i : Int) + 1)) → A' 11 = .raw (.bool (!q'.isEmpty)) → I1 A' τ' := fun q' A' τ' x1 x2 x3 x4 x5 x6 x7 x8 x9 x10 x11 x12 =>
      hI1 (l.length - (i + 1)) _ _ (by omega) ⟨x1, x2, x3, x4, x5, x6, x7, x8, i + 1, q', x9, x10, by simpa using x11, x12, by omega, rfl⟩
    (try (first | (with_reducible refine dops_go ?_; simp [rulesAV, a0, a1, a2, a3, a8, a10, a11, a12, hlt, hx, m8, m10, ru_cells, ru_ok, ru_fold, ru_part, w1, h1, h2, h3, h4, h5, h6, h7, h8, h1']) | (with_reducible refine OKv_go ?_; simp [rulesAV, a0, a1, a2, a3, a8, a10, a11, a12, hlt, hx, m8, m10, ru_cells, ru_ok, ru_fold, ru_part, w1, h1, h2, h3, h4, h5, h6, h7, h8, h1']) | (with_reducible refine OKr_go ?_; simp [rulesAV, a0, a1, a2, a3, a8, a10, a11, a12, hlt, hx, m8, m10, ru_cells, ru_ok, ru_fold, ru_part, w1, h1, h2, h3, h4, h5, h6, h7, h8, h1']))); repeat' (first | refine awp_seq ?_ | refine awp_block ?_ | (refine awp_skip ?_; try simp) | (refine awp_exit ?_; try simp) | (refine awp_ret ?_; try simp) | (refine retP_same (by simp) ?_; simp) | (refine retP_flat (by simp) (by simp) (by simp (maxDischargeDepth := 30) [rulesAV, a0, a1, a2, a3, a8, a10, a11, a12, hlt, hx, m8, m10, ru_cells, ru_ok, ru_fold, ru_part, w1, h1, h2, h3, h4, h5, h6, h7, h8, h1']) ?_; simp) | (refine awp_reg ?_; simp [rulesAV, a0, a1, a2, a3, a8, a10, a11, a12, hlt, hx, m8, m10, ru_cells, ru_ok, ru_fold, ru_part, w1, h1, h2, h3, h4, h5, h6, h7, h8, h1']) | (refine awp_drawT (fun _ => false) mixed (by decide +kernel) ?_; simp [rulesAV, a0, a1, a2, a3, a8, a10, a11, a12, hlt, hx, m8, m10, ru_cells, ru_ok, ru_fold, ru_part, w1, h1, h2, h3, h4, h5, h6, h7, h8, h1']) | (refine guarded_split ?_ ?_ <;> (intro hg; simp only [hg]; simp [rulesAV, a0, a1, a2, a3, a8, a10, a11, a12, hlt, hx, m8, m10, ru_cells, ru_ok, ru_fold, ru_part, w1, h1, h2, h3, h4, h5, h6, h7, h8, h1'])) | (apply awp_cond_t; focus (simp [rulesAV, a0, a1, a2, a3, a8, a10, a11, a12, hlt, hx, m8, m10, ru_cells, ru_ok, ru_fold, ru_part, w1, h1, h2, h3, h4, h5, h6, h7, h8, h1']; done)) | (apply awp_cond_f; focus (simp [rulesAV, a0, a1, a2, a3, a8, a10, a11, a12, hlt, hx, m8, m10, ru_cells, ru_ok, ru_fold, ru_part, w1, h1, h2, h3, h4, h5, h6, h7, h8, h1']; done)) | (refine awp_cond ?_; simp [rulesAV, a0, a1, a2, a3, a8, a10, a11, a12, hlt, hx, m8, m10, ru_cells, ru_ok, ru_fold, ru_part, w1, h1, h2, h3, h4, h5, h6, h7, h8, h1']; refine ⟨?_, ?_⟩ <;> intro hc))
    all_goals first
      | (have e : refP d a acl l[i] = false := by
           rw [hp]; first | exact pb1 _ _ _ _ _ _ ‹_› ‹_› | exact pb2 _ _ _ _ _ _ ‹_› ‹_› | exact pb3 _ _ _ _ _ _ ‹_› | exact pb4 _ _ _ _ _ _ ‹_› | exact pb5 _ _ _ _ _ _ ‹_›
         exact fin q _ _ (by simp [hE]) (by simp [a0]) (by simp [a1]) (by simp [a2]) (by simp [a3]) (by simp [a8]) (by simp [a10]) (by simp [St.new, m8]) (by rw [htk, e]; simp) (by simp [St.new, m10, hmm]) (by simp) (by simp [a11, he]))
      | (have e : refP d a acl l[i] = true := by
           rw [hp]; first | exact pb6 _ _ _ _ _ _ ‹_› ‹_› ‹_› ‹_› ‹_› | exact pb7 _ _ _ _ _ _ ‹_› ‹_› ‹_› ‹_› ‹_›
         first
         | (have hm' : minR (q ++ [l[i]]) = l[i] := by
              rw [minR_snoc, hmm]
              first
              | rw [if_pos (by rw [← List.isEmpty_iff, he]; assumption)]
              | (rw [if_pos (c := betterB l[i] m = true) (by rw [hbt]; first | exact pc1 _ _ _ ‹_› | exact pc2 _ _ _ ‹_› ‹_›)]; split <;> rfl)
            exact fin (q ++ [l[i]]) _ _ (Ext.setF (by simp [hE]) f10) (by simp [a0]) (by simp [a1]) (by simp [a2]) (by simp [a3]) (by simp [a8]) (by simp [a10]) (by simp [St.set, St.new, m8]) (by rw [htk, e]; simp) (by simp [St.set, St.new, m10, hm']) (by simp) (by simp))
         | (have e0 : e' = false := ‹_›
            have hq0 : q ≠ [] := fun h => by rw [← List.isEmpty_iff, he, e0] at h; cases h
            have hm' : minR (q ++ [l[i]]) = m := by
              rw [minR_snoc, hmm, if_neg hq0, if_neg]
              rw [hbt]; first | (rw [pc3 _ _ _ ‹_› ‹_›]; simp) | (rw [pc4 _ _ _ ‹_› ‹_›]; simp)
            exact fin (q ++ [l[i]]) _ _ (by simp [hE]) (by simp [a0]) (by simp [a1]) (by simp [a2]) (by simp [a3]) (by simp [a8]) (by simp [a10]) (by simp [St.new, m8]) (by rw [htk, e]; simp) (by simp [St.new, m10, hm']) (by simp) (by simp [a11, e0])))
  · have : i = l.length := by omega
    subst this
    rw [List.take_length] at hq
    subst hq
    have hem : (!(l.filter (refP d a acl)).isEmpty) = l.any (refP d a acl) := by
      rw [Bool.eq_iff_iff]; simp [List.isEmpty_iff, List.filter_eq_nil_iff]
    rw [hem] at a11
    (try (first | (with_reducible refine dops_go ?_; simp [rulesAV, a0, a8, a10, a11, a12, m8, m10, ru_cells, ru_ok, ru_fold, ru_part]) | (with_reducible refine OKv_go ?_; simp [rulesAV, a0, a8, a10, a11, a12, m8, m10, ru_cells, ru_ok, ru_fold, ru_part]) | (with_reducible refine OKr_go ?_; simp [rulesAV, a0, a8, a10, a11, a12, m8, m10, ru_cells, ru_ok, ru_fold, ru_part]))); repeat' (first | refine awp_seq ?_ | refine awp_block ?_ | (refine awp_skip ?_; try simp) | (refine awp_exit ?_; try simp) | (refine awp_ret ?_; try simp) | (refine awp_reg ?_; simp [rulesAV, a0, a8, a10, a11, a12, m8, m10, ru_cells, ru_ok, ru_fold, ru_part]) | (refine awp_drawT (fun _ => false) mixed (by decide +kernel) ?_; simp [rulesAV, a0, a8, a10, a11, a12, m8, m10, ru_cells, ru_ok, ru_fold, ru_part]) | (refine guarded_split ?_ ?_ <;> (intro hg; simp only [hg]; simp [rulesAV, a0, a8, a10, a11, a12, m8, m10, ru_cells, ru_ok, ru_fold, ru_part])) | (apply awp_cond_t; focus (simp [rulesAV, a0, a8, a10, a11, a12, m8, m10, ru_cells, ru_ok, ru_fold, ru_part]; done)) | (apply awp_cond_f; focus (simp [rulesAV, a0, a8, a10, a11, a12, m8, m10, ru_cells, ru_ok, ru_fold, ru_part]; done)) | (refine awp_cond ?_; simp [rulesAV, a0, a8, a10, a11, a12, m8, m10, ru_cells, ru_ok, ru_fold, ru_part]; refine ⟨?_, ?_⟩ <;> intro hc))
    exact retP_flat (.inr rfl) rfl (hE.setF f8) (by simp [a8, m8, St.set, ru_cells]; exact ru_fold _)
end Go.Proofs.YtanimmdlgmkmkaaGreat.Av


/- Networks: rules as the document goes by them, part 2; searching numbers. -/
namespace Go.Proofs.YtanimmdlgmkmkaaGreat.Av
open Go
set_option linter.unusedSimpArgs false
set_option linter.unusedVariables false
set_option maxRecDepth 100000
set_option maxHeartbeats 2000000
set_option pp.maxSteps 300

def refDeniesB (l : List Ru) (d a : Int) : Bool := l.any (refP d a true) && decide ((minR (l.filter (refP d a true))).kind = 3)
theorem refDenies_calls (l : List Ru) (f : Bool) (d a : Int) (hl : l.length < 2932031007403) : PCalls Tryz.prog 169 [rulesAV l f, .raw (.int .i64 d), .raw (.int .u32 a)] (.raw (.bool (refDeniesB l d a))) := by
  have hf := refFirst_calls l f d a true hl
  unfold refDeniesB
  obtain ⟨b, hb⟩ : ∃ b, l.any (refP d a true) = b := ⟨_, rfl⟩
  obtain ⟨m, hmm⟩ : ∃ m, minR (l.filter (refP d a true)) = m := ⟨_, rfl⟩
  rw [hb, hmm] at hf ⊢
  refine pbody Tryz.func169 rfl (N := 22) rfl rfl (by simp) (by simp [noIds]) fun σ => ?_
  (try (first | (with_reducible refine dops_go ?_; simp) | (with_reducible refine OKv_go ?_; simp) | (with_reducible refine OKr_go ?_; simp))); repeat' (first | refine awp_seq ?_ | refine awp_block ?_ | (refine awp_skip ?_; try simp) | (refine awp_exit ?_; try simp) | (refine awp_ret ?_; try simp) | (refine retP_same (by simp) ?_; simp) | (refine retP_flat (by simp) (by simp) (by simp (maxDischargeDepth := 30)) ?_; simp) | (refine awp_reg ?_; simp) | (refine awp_drawT (fun _ => false) mixed (by decide +kernel) ?_; simp) | (refine guarded_split ?_ ?_ <;> (intro hg; simp only [hg]; simp)) | (apply awp_cond_t; focus (simp; done)) | (apply awp_cond_f; focus (simp; done)) | (refine awp_cond ?_; simp; refine ⟨?_, ?_⟩ <;> intro hc))
  refine PCalls.use hf ?_
  (try (first | (with_reducible refine dops_go ?_; simp [ru_cells, ru_ok, ru_fold]) | (with_reducible refine OKv_go ?_; simp [ru_cells, ru_ok, ru_fold]) | (with_reducible refine OKr_go ?_; simp [ru_cells, ru_ok, ru_fold]))); repeat' (first | refine awp_seq ?_ | refine awp_block ?_ | (refine awp_skip ?_; try simp) | (refine awp_exit ?_; try simp) | (refine awp_ret ?_; try simp) | (refine retP_same (by simp) ?_; simp) | (refine retP_flat (by simp) (by simp) (by simp (maxDischargeDepth := 30) [ru_cells, ru_ok, ru_fold]) ?_; simp) | (refine awp_reg ?_; simp [ru_cells, ru_ok, ru_fold]) | (refine awp_drawT (fun _ => false) mixed (by decide +kernel) ?_; simp [ru_cells, ru_ok, ru_fold]) | (refine guarded_split ?_ ?_ <;> (intro hg; simp only [hg]; simp [ru_cells, ru_ok, ru_fold])) | (apply awp_cond_t; focus (simp [ru_cells, ru_ok, ru_fold]; done)) | (apply awp_cond_f; focus (simp [ru_cells, ru_ok, ru_fold]; done)) | (refine awp_cond ?_; simp [ru_cells, ru_ok, ru_fold]; refine ⟨?_, ?_⟩ <;> intro hc))
theorem refMatch_calls (l : List Ru) (f : Bool) (d a : Int) (hl : l.length < 2932031007403) : PCalls Tryz.prog 170 [rulesAV l f, .raw (.int .i64 d), .raw (.int .u32 a)] (.tup [ruAV (minR (l.filter (refP d a false))), .raw (.bool (l.any (refP d a false)))]) := by
  have hf := refFirst_calls l f d a false hl
  obtain ⟨b, hb⟩ : ∃ b, l.any (refP d a false) = b := ⟨_, rfl⟩
  obtain ⟨m, hmm⟩ : ∃ m, minR (l.filter (refP d a false)) = m := ⟨_, rfl⟩
  rw [hb, hmm] at hf ⊢
  refine pbody Tryz.func170 rfl (N := 14) rfl rfl (by simp) (by simp [noIds, ruAV]) fun σ => ?_
  have hps : ∀ (q : Ru) (m : Ru), setPart (ruAV q) 0 [.raw (.int .i64 m.id), .raw (.int .i64 m.dev), .raw (.int .i64 m.prio), .raw (.int .i64 m.kind), .raw (.int .u32 m.r.lo), .raw (.int .u32 m.r.hi), .raw (.int .i64 m.port)] = ruAV m := fun _ _ => rfl
  (try (first | (with_reducible refine dops_go ?_; simp) | (with_reducible refine OKv_go ?_; simp) | (with_reducible refine OKr_go ?_; simp))); repeat' (first | refine awp_seq ?_ | refine awp_block ?_ | (refine awp_skip ?_; try simp) | (refine awp_exit ?_; try simp) | (refine awp_ret ?_; try simp) | (refine retP_same (by simp) ?_; simp) | (refine retP_flat (by simp) (by simp) (by simp (maxDischargeDepth := 30)) ?_; simp) | (refine awp_reg ?_; simp) | (refine awp_drawT (fun _ => false) mixed (by decide +kernel) ?_; simp) | (refine guarded_split ?_ ?_ <;> (intro hg; simp only [hg]; simp)) | (apply awp_cond_t; focus (simp; done)) | (apply awp_cond_f; focus (simp; done)) | (refine awp_cond ?_; simp; refine ⟨?_, ?_⟩ <;> intro hc))
  refine PCalls.use hf ?_
  (try (first | (with_reducible refine dops_go ?_; simp [ru_cells, ru_ok, ru_fold, hps]) | (with_reducible refine OKv_go ?_; simp [ru_cells, ru_ok, ru_fold, hps]) | (with_reducible refine OKr_go ?_; simp [ru_cells, ru_ok, ru_fold, hps]))); repeat' (first | refine awp_seq ?_ | refine awp_block ?_ | (refine awp_skip ?_; try simp) | (refine awp_exit ?_; try simp) | (refine awp_ret ?_; try simp) | (refine awp_reg ?_; simp [ru_cells, ru_ok, ru_fold, hps]) | (refine awp_drawT (fun _ => false) mixed (by decide +kernel) ?_; simp [ru_cells, ru_ok, ru_fold, hps]) | (refine guarded_split ?_ ?_ <;> (intro hg; simp only [hg]; simp [ru_cells, ru_ok, ru_fold, hps])) | (apply awp_cond_t; focus (simp [ru_cells, ru_ok, ru_fold, hps]; done)) | (apply awp_cond_f; focus (simp [ru_cells, ru_ok, ru_fold, hps]; done)) | (refine awp_cond ?_; simp [ru_cells, ru_ok, ru_fold, hps]; refine ⟨?_, ?_⟩ <;> intro hc))
  refine retP_flat (.inr rfl) rfl (by repeat (first | exact Ext.refl _ | refine ext_new' ?_ | refine Ext.setF ?_ (by simp [St.set, fresh_none]))) ?_
  simp [St.set, St.new, ru_cells]
  exact ru_fold _

/-- On right rules the document's tables are the program's. -/
theorem refP_acl {r : Ru} (h : 0 ≤ r.kind ∧ r.kind ≤ 3) (d a : Int) : refP d a true r = aclP d a r := by
  unfold refP aclP takesB
  rw [Bool.eq_iff_iff]
  simp
  omega
theorem refP_fwd {r : Ru} (h : 0 ≤ r.kind ∧ r.kind ≤ 3) (d a : Int) : refP d a false r = fwdP d a r := by
  unfold refP fwdP takesB
  rw [Bool.eq_iff_iff]
  simp
  omega

end Go.Proofs.YtanimmdlgmkmkaaGreat.Av


/- Trees, the plain law: what is held behind each change. -/
namespace Go.Proofs.YtanimmdlgmkmkaaGreat.Av
set_option linter.unusedSimpArgs false
set_option linter.unusedVariables false

inductive Tr where
  | nil
  | node (l : Tr) (k v : Int) (r : Tr)
namespace Tr
def ht : Tr → Int
  | nil => 0
  | node l _ _ r => 1 + max l.ht r.ht
def sz : Tr → Int
  | nil => 0
  | node l _ _ r => 1 + l.sz + r.sz
def toL : Tr → List (Int × Int)
  | nil => []
  | node l k v r => l.toL ++ (k, v) :: r.toL
theorem ht_nn : ∀ t : Tr, 0 ≤ t.ht
  | nil => by simp [ht]
  | node l k v r => by have := ht_nn l; have := ht_nn r; simp only [ht]; omega
theorem sz_nn : ∀ t : Tr, 0 ≤ t.sz
  | nil => by simp [sz]
  | node l k v r => by have := sz_nn l; have := sz_nn r; simp only [sz]; omega
theorem ht_le : ∀ t : Tr, t.ht ≤ t.sz
  | nil => by simp [ht, sz]
  | node l k v r => by have := ht_le l; have := ht_le r; have := sz_nn l; have := sz_nn r; simp only [ht, sz]; omega
theorem sz_toL : ∀ t : Tr, t.sz = t.toL.length
  | nil => by simp [sz, toL]
  | node l k v r => by have := sz_toL l; have := sz_toL r; simp only [sz, toL, List.length_append, List.length_cons]; omega

def left : Tr → Tr
  | nil => nil
  | node l _ _ _ => l
def right : Tr → Tr
  | nil => nil
  | node _ _ _ r => r
/-- A node of three parts, turned if one is too high. -/
def even (l : Tr) (k v : Int) (r : Tr) : Tr :=
  if r.ht + 1 < l.ht then
    match l with
    | nil => nil
    | node ll lk lv lr => if lr.ht ≤ ll.ht then node ll lk lv (node lr k v r) else match lr with
      | nil => nil
      | node a mk mv b => node (node ll lk lv a) mk mv (node b k v r)
  else if l.ht + 1 < r.ht then
    match r with
    | nil => nil
    | node rl rk rv rr => if rl.ht ≤ rr.ht then node (node l k v rl) rk rv rr else match rl with
      | nil => nil
      | node a mk mv b => node (node l k v a) mk mv (node b rk rv rr)
  else node l k v r
theorem even_toL (l : Tr) (k v : Int) (r : Tr) : (even l k v r).toL = l.toL ++ (k, v) :: r.toL := by
  unfold even
  split
  · rename_i h
    cases l with
    | nil => have := ht_nn r; simp only [ht] at h; omega
    | node ll lk lv lr =>
      simp only []
      split
      · simp [toL]
      · rename_i h2
        cases lr with
        | nil => have := ht_nn ll; simp only [ht] at h2; omega
        | node a mk mv b => simp [toL]
  · split
    · rename_i h
      cases r with
      | nil => have := ht_nn l; simp only [ht] at h; omega
      | node rl rk rv rr =>
        simp only []
        split
        · simp [toL]
        · rename_i h2
          cases rl with
          | nil => have := ht_nn rr; simp only [ht] at h2; omega
          | node a mk mv b => simp [toL]
    · simp [toL]
theorem even_sz (l : Tr) (k v : Int) (r : Tr) : (even l k v r).sz = 1 + l.sz + r.sz := by
  rw [sz_toL, even_toL, sz_toL l, sz_toL r]
  simp only [List.length_append, List.length_cons]
  omega
/-- A node with a pair. -/
def with_ : Tr → Int → Int → Tr
  | nil, k, v => node nil k v nil
  | node l k' v' r, k, v => if k < k' then even (l.with_ k v) k' v' r else if k' < k then even l k' v' (r.with_ k v) else node l k v r
/-- The value at a key. -/
def get : Tr → Int → Option Int
  | nil, _ => none
  | node l k' v' r, k => if k < k' then l.get k else if k' < k then r.get k else some v'
/-- The least pair, and what is left. -/
def least : Tr → (Int × Int) × Tr
  | nil => ((0, 0), nil)
  | node nil k v r => ((k, v), r)
  | node (node a b c d) k v r => ((node a b c d).least.1, even (node a b c d).least.2 k v r)
def without : Tr → Int → Tr
  | nil, _ => nil
  | node l k' v' r, k => if k < k' then even (l.without k) k' v' r else if k' < k then even l k' v' (r.without k) else match r with
    | nil => l
    | node a b c d => even l (node a b c d).least.1.1 (node a b c d).least.1.2 (node a b c d).least.2
/-- How many keys are below one. -/
def under : Tr → Int → Int
  | nil, _ => 0
  | node l k' _ r, k => if k' < k then 1 + l.sz + r.under k else l.under k
/-- The i-th pair. -/
def at_ : Tr → Int → Option (Int × Int)
  | nil, _ => none
  | node l k v r, i => if i < l.sz then l.at_ i else if l.sz < i then r.at_ (i - (1 + l.sz)) else some (k, v)
def join (l : Tr) (k v : Int) (r : Tr) : Tr :=
  if r.ht + 1 < l.ht then
    match l with
    | nil => nil
    | node ll lk lv lr => even ll lk lv (join lr k v r)
  else if l.ht + 1 < r.ht then
    match r with
    | nil => nil
    | node rl rk rv rr => even (join l k v rl) rk rv rr
  else node l k v r
termination_by SizeOf.sizeOf l + SizeOf.sizeOf r
def cut : Tr → Int → Tr × Tr
  | nil, _ => (nil, nil)
  | node l k v r, b => if k < b then (join l k v (r.cut b).1, (r.cut b).2) else ((l.cut b).1, join (l.cut b).2 k v r)
theorem join_toL (l : Tr) (k v : Int) (r : Tr) : (join l k v r).toL = l.toL ++ (k, v) :: r.toL := by
  fun_induction join l k v r with
  | case1 r h => have := ht_nn r; simp only [ht] at h; omega
  | case2 r ll lk lv lr h ih => rw [even_toL, ih]; simp [toL]
  | case3 l h1 h => have := ht_nn l; simp only [ht] at h; omega
  | case4 l rl rk rv rr h1 h ih => rw [even_toL, ih]; simp [toL]
  | case5 l r h1 h2 => simp [toL]

/-! ### Sorted -/
def Srt (l : List (Int × Int)) : Prop := l.Pairwise fun a b => a.1 < b.1
def Lt (b : Int) (l : List (Int × Int)) : Prop := ∀ e ∈ l, e.1 < b
def Gt (b : Int) (l : List (Int × Int)) : Prop := ∀ e ∈ l, b < e.1
theorem srt_node {l : Tr} {k v : Int} {r : Tr} : Srt (node l k v r).toL ↔ Srt l.toL ∧ Srt r.toL ∧ Lt k l.toL ∧ Gt k r.toL := by
  simp only [Srt, toL, Lt, Gt]
  rw [List.pairwise_append, List.pairwise_cons]
  constructor
  · rintro ⟨h1, ⟨h2, h3⟩, h4⟩
    exact ⟨h1, h3, fun e he => h4 e he (k, v) (by simp), fun e he => h2 e he⟩
  · rintro ⟨h1, h2, h3, h4⟩
    refine ⟨h1, ⟨fun e he => h4 e he, h2⟩, fun a ha b hb => ?_⟩
    rcases List.mem_cons.1 hb with rfl | hb
    · exact h3 a ha
    · have := h3 a ha; have := h4 b hb; omega

/-- A sorted list with a value at a key. -/
def put (l : List (Int × Int)) (k v : Int) : List (Int × Int) := l.filter (fun e => decide (e.1 < k)) ++ (k, v) :: l.filter (fun e => decide (k < e.1))
theorem filter_all {p : Int × Int → Bool} {l : List (Int × Int)} (h : ∀ e ∈ l, p e = true) : l.filter p = l := List.filter_eq_self.2 h
theorem filter_no {p : Int × Int → Bool} {l : List (Int × Int)} (h : ∀ e ∈ l, p e = false) : l.filter p = [] := List.filter_eq_nil_iff.2 fun e he => by simp [h e he]
theorem with_toL : ∀ (t : Tr) (k v : Int), Srt t.toL → (t.with_ k v).toL = put t.toL k v
  | nil, k, v, _ => by simp [with_, toL, put]
  | node l k' v' r, k, v, h => by
    obtain ⟨h1, h2, h3, h4⟩ := srt_node.1 h
    simp only [with_]
    split
    · rename_i hk
      rw [even_toL, with_toL l k v h1]
      simp only [put, toL, List.filter_append, List.filter_cons]
      have e1 : r.toL.filter (fun e => decide (e.1 < k)) = [] := filter_no fun e he => by have := h4 e he; simp; omega
      have e2 : r.toL.filter (fun e => decide (k < e.1)) = r.toL := filter_all fun e he => by have := h4 e he; simp; omega
      have e3 : ¬ k' < k := by omega
      simp [e1, e2, hk, e3]
    · split
      · rename_i hk0 hk
        rw [even_toL, with_toL r k v h2]
        simp only [put, toL, List.filter_append, List.filter_cons]
        have e1 : l.toL.filter (fun e => decide (k < e.1)) = [] := filter_no fun e he => by have := h3 e he; simp; omega
        have e2 : l.toL.filter (fun e => decide (e.1 < k)) = l.toL := filter_all fun e he => by have := h3 e he; simp; omega
        simp [e1, e2, hk, hk0]
      · have : k = k' := by omega
        subst this
        simp only [put, toL, List.filter_append, List.filter_cons]
        have e1 : l.toL.filter (fun e => decide (k < e.1)) = [] := filter_no fun e he => by have := h3 e he; simp; omega
        have e2 : l.toL.filter (fun e => decide (e.1 < k)) = l.toL := filter_all fun e he => by have := h3 e he; simp; omega
        have e3 : r.toL.filter (fun e => decide (e.1 < k)) = [] := filter_no fun e he => by have := h4 e he; simp; omega
        have e4 : r.toL.filter (fun e => decide (k < e.1)) = r.toL := filter_all fun e he => by have := h4 e he; simp; omega
        simp [e1, e2, e3, e4]
theorem put_srt {l : List (Int × Int)} (h : Srt l) (k v : Int) : Srt (put l k v) := by
  unfold Srt put
  rw [List.pairwise_append, List.pairwise_cons]
  refine ⟨h.filter _, ⟨fun e he => by simpa using (List.mem_filter.1 he).2, h.filter _⟩, fun a ha b hb => ?_⟩
  have h1 := (List.mem_filter.1 ha).2
  simp only [decide_eq_true_eq] at h1
  rcases List.mem_cons.1 hb with rfl | hb
  · exact h1
  · have h2 := (List.mem_filter.1 hb).2
    simp only [decide_eq_true_eq] at h2
    omega
theorem get_eq : ∀ (t : Tr) (k : Int), Srt t.toL → t.get k = (t.toL.find? fun e => decide (e.1 = k)).map (·.2)
  | nil, k, _ => by simp [get, toL]
  | node l k' v' r, k, h => by
    obtain ⟨h1, h2, h3, h4⟩ := srt_node.1 h
    simp only [get, toL, List.find?_append, List.find?_cons]
    split
    · rename_i hk
      have e1 : r.toL.find? (fun e => decide (e.1 = k)) = none := List.find?_eq_none.2 fun e he => by have := h4 e he; simp; omega
      have e2 : decide (k' = k) = false := by simp; omega
      rw [get_eq l k h1, e1, e2]; simp
    · split
      · rename_i hk0 hk
        have e1 : l.toL.find? (fun e => decide (e.1 = k)) = none := List.find?_eq_none.2 fun e he => by have := h3 e he; simp; omega
        have e2 : decide (k' = k) = false := by simp; omega
        rw [get_eq r k h2, e1, e2]; simp
      · have : k' = k := by omega
        subst this
        have e1 : l.toL.find? (fun e => decide (e.1 = k')) = none := List.find?_eq_none.2 fun e he => by have := h3 e he; simp; omega
        rw [e1]; simp
theorem get_none {t : Tr} (h : Srt t.toL) (k : Int) : t.get k = none ↔ k ∉ t.toL.map (·.1) := by
  rw [get_eq t k h]
  simp only [Option.map_eq_none_iff, List.find?_eq_none, decide_eq_true_eq, List.mem_map, not_exists, not_and]
theorem get_with {t : Tr} (h : Srt t.toL) (k v k2 : Int) : (t.with_ k v).get k2 = if k2 = k then some v else t.get k2 := by
  have hs : Srt (t.with_ k v).toL := by rw [with_toL t k v h]; exact put_srt h k v
  rw [get_eq _ _ hs, with_toL t k v h, get_eq _ _ h]
  simp only [put, List.find?_append, List.find?_cons]
  by_cases e : k2 = k
  · subst e
    have e1 : (t.toL.filter fun e => decide (e.1 < k2)).find? (fun e => decide (e.1 = k2)) = none := List.find?_eq_none.2 fun e he => by have := (List.mem_filter.1 he).2; simp at this ⊢; omega
    rw [e1]; simp
  · rw [if_neg e]
    have e2 : decide (k = k2) = false := by simp; omega
    rw [e2]
    simp only [Bool.false_eq_true, if_false, List.find?_filter]
    congr 1
    have : ∀ l : List (Int × Int), Srt l → (l.find? fun a => decide (a.1 < k) && decide (a.1 = k2)).or (l.find? fun a => decide (k < a.1) && decide (a.1 = k2)) = l.find? fun a => decide (a.1 = k2) := by
      intro l hl
      induction l with
      | nil => rfl
      | cons a l ih =>
        have hl' := List.pairwise_cons.1 hl
        simp only [List.find?_cons]
        by_cases q : a.1 = k2
        · by_cases q2 : a.1 < k
          · simp [q, q2]; rw [q] at q2; simp [q2]
          · have q3 : k < a.1 := by omega
            have q4 : l.find? (fun a => decide (a.1 < k) && decide (a.1 = k2)) = none := List.find?_eq_none.2 fun e he => by have := hl'.1 e he; simp; omega
            rw [q4]
            simp [q, q2]
            rw [q] at q2 q3; simp [q2, q3]
        · simp [q]; exact ih hl'.2
    simp only [Bool.decide_and, Bool.decide_eq_true]
    exact this _ h
theorem at_eq : ∀ (t : Tr) (i : Int), 0 ≤ i → t.at_ i = t.toL[i.toNat]?
  | nil, i, _ => by simp [at_, toL]
  | node l k v r, i, hi => by
    simp only [at_, toL]
    have hz := sz_toL l
    split
    · rename_i h
      rw [at_eq l i hi, List.getElem?_append_left (by omega)]
    · split
      · rename_i h0 h
        rw [at_eq r _ (by omega), List.getElem?_append_right (by omega)]
        have : i.toNat - l.toL.length = (i - (1 + l.sz)).toNat + 1 := by omega
        rw [this, List.getElem?_cons_succ]
      · have : i.toNat = l.toL.length := by omega
        rw [this, List.getElem?_append_right (by omega)]
        simp
theorem cut_toL : ∀ (t : Tr) (b : Int), Srt t.toL → (t.cut b).1.toL = t.toL.filter (fun e => decide (e.1 < b)) ∧ (t.cut b).2.toL = t.toL.filter (fun e => decide (b ≤ e.1))
  | nil, b, _ => by simp [cut, toL]
  | node l k v r, b, h => by
    obtain ⟨h1, h2, h3, h4⟩ := srt_node.1 h
    simp only [cut, toL, List.filter_append, List.filter_cons]
    split
    · rename_i hk
      obtain ⟨i1, i2⟩ := cut_toL r b h2
      simp only [join_toL, i1, i2]
      have e1 : l.toL.filter (fun e => decide (e.1 < b)) = l.toL := filter_all fun e he => by have := h3 e he; simp; omega
      have e2 : l.toL.filter (fun e => decide (b ≤ e.1)) = [] := filter_no fun e he => by have := h3 e he; simp; omega
      have e3 : ¬ b ≤ k := by omega
      simp [e1, e2, e3, hk]
    · rename_i hk
      obtain ⟨i1, i2⟩ := cut_toL l b h1
      simp only [join_toL, i1, i2]
      have e1 : r.toL.filter (fun e => decide (b ≤ e.1)) = r.toL := filter_all fun e he => by have := h4 e he; simp; omega
      have e2 : r.toL.filter (fun e => decide (e.1 < b)) = [] := filter_no fun e he => by have := h4 e he; simp; omega
      have e3 : b ≤ k := by omega
      simp [e1, e2, e3, hk]
theorem cut_len (t : Tr) (b : Int) (h : Srt t.toL) : (t.cut b).1.sz = (t.toL.countP fun e => decide (e.1 < b) : Nat) := by
  rw [sz_toL, (cut_toL t b h).1, List.countP_eq_length_filter]
theorem least_toL : ∀ (t : Tr), t ≠ nil → t.toL = t.least.1 :: t.least.2.toL
  | nil, h => absurd rfl h
  | node nil k v r, _ => by simp [least, toL]
  | node (node a b c d) k v r, _ => by
    have := least_toL (node a b c d) (by simp)
    simp only [least, even_toL]
    rw [toL, this]; simp
theorem without_toL : ∀ (t : Tr) (k : Int), Srt t.toL → (t.without k).toL = t.toL.filter fun e => !decide (e.1 = k)
  | nil, k, _ => by simp [without, toL]
  | node l k' v' r, k, h => by
    obtain ⟨h1, h2, h3, h4⟩ := srt_node.1 h
    simp only [without]
    split
    · rename_i hk
      rw [even_toL, without_toL l k h1]
      simp only [toL, List.filter_append, List.filter_cons]
      have e1 : r.toL.filter (fun e => !decide (e.1 = k)) = r.toL := filter_all fun e he => by have := h4 e he; simp; omega
      have e2 : ¬ k' = k := by omega
      simp [e1, e2]
    · split
      · rename_i hk0 hk
        rw [even_toL, without_toL r k h2]
        simp only [toL, List.filter_append, List.filter_cons]
        have e1 : l.toL.filter (fun e => !decide (e.1 = k)) = l.toL := filter_all fun e he => by have := h3 e he; simp; omega
        have e2 : ¬ k' = k := by omega
        simp [e1, e2]
      · have : k' = k := by omega
        subst this
        have e1 : l.toL.filter (fun e => !decide (e.1 = k')) = l.toL := filter_all fun e he => by have := h3 e he; simp; omega
        have e2 : r.toL.filter (fun e => !decide (e.1 = k')) = r.toL := filter_all fun e he => by have := h4 e he; simp; omega
        cases r with
        | nil =>
          simp only [toL, List.filter_append, List.filter_cons]
          simp [e1]
        | node a b c d =>
          simp only [even_toL]
          have h5 := least_toL (node a b c d) (by simp)
          rw [toL, List.filter_append, List.filter_cons, e1, e2]
          simp only [decide_true, Bool.not_true, Bool.false_eq_true, if_false]
          rw [h5]
end Tr
end Go.Proofs.YtanimmdlgmkmkaaGreat.Av

