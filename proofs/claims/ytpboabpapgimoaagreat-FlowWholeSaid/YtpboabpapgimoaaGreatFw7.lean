/- Flows: FlowWhole. Part 7 of 14: AvTy, AvGo, AvN1, AvN3, AvN12, AvN8, AvN9, AvN13, AvN14, AvN17, AvN22, AvN2, AvN4, AvN5, AvN7, AvN11, AvT1, AvN6, AvN10, AvT2, AvT3, AvT4, AvT5, AvT6, AvT7, AvT8, AvN25, AvT9, AvT10. -/
import Derived.Test.YtpboabpapgimoaaGreatFw6
import Derived.Test.YtpboabpapgimoaaGreatProg
namespace Go.Proofs.YtpboabpapgimoaaGreat.Av
set_option linter.unusedSimpArgs false
set_option linter.unusedVariables false
open Go
@[simp] theorem tsz2 : tsz Tryz.prog 2 = some 1 := by kernel_rfl
@[simp] theorem tby2 : zac Tryz.prog 2 = some 8 := by kernel_rfl
@[simp] theorem tze2 : zad Tryz.prog 2 = some (.int .i64 (0)) := by kernel_rfl
@[simp] theorem tag2 : zX Tryz.prog 2 = some false := by simp [zX, Tryz.underlying2]
@[simp] theorem arr2 : zI Tryz.prog 2 = none := by simp [zI, Tryz.underlying2]
@[simp] theorem uin2 : zco Tryz.prog 2 = some .i64 := by kernel_rfl
@[simp] theorem pla2 : zbQ Tryz.prog 2 = true := by kernel_rfl
@[simp] theorem ztE : tsz Tryz.prog 3 = some 1 := by kernel_rfl
@[simp] theorem ztF : zac Tryz.prog 3 = some 8 := by kernel_rfl
@[simp] theorem ztG : zad Tryz.prog 3 = some (.int .i64 (0)) := by kernel_rfl
@[simp] theorem tag3 : zX Tryz.prog 3 = some false := by simp [zX, Tryz.underlying3]
@[simp] theorem arr3 : zI Tryz.prog 3 = none := by simp [zI, Tryz.underlying3]
@[simp] theorem uin3 : zco Tryz.prog 3 = some .i64 := by kernel_rfl
@[simp] theorem pla3 : zbQ Tryz.prog 3 = true := by kernel_rfl
@[simp] theorem tsz5 : tsz Tryz.prog 5 = some 1 := by kernel_rfl
@[simp] theorem tby5 : zac Tryz.prog 5 = some 1 := by kernel_rfl
@[simp] theorem tze5 : zad Tryz.prog 5 = some (.int .u8 (0)) := by kernel_rfl
@[simp] theorem tag5 : zX Tryz.prog 5 = some false := by simp [zX, Tryz.underlying5]
@[simp] theorem arr5 : zI Tryz.prog 5 = none := by simp [zI, Tryz.underlying5]
@[simp] theorem uin5 : zco Tryz.prog 5 = some .u8 := by kernel_rfl
@[simp] theorem pla5 : zbQ Tryz.prog 5 = true := by kernel_rfl
@[simp] theorem tsz9 : tsz Tryz.prog 9 = some 1 := by kernel_rfl
@[simp] theorem tby9 : zac Tryz.prog 9 = some 16 := by kernel_rfl
@[simp] theorem tze9 : zad Tryz.prog 9 = some (.string ⟨#[]⟩) := by kernel_rfl
@[simp] theorem tag9 : zX Tryz.prog 9 = some false := by simp [zX, Tryz.underlying9]
@[simp] theorem arr9 : zI Tryz.prog 9 = none := by simp [zI, Tryz.underlying9]
@[simp] theorem ust9 : zeJ Tryz.prog 9 = true := by kernel_rfl
@[simp] theorem pla9 : zbQ Tryz.prog 9 = true := by kernel_rfl
@[simp] theorem zwP : tsz Tryz.prog 22 = some 1 := by kernel_rfl
@[simp] theorem zwQ : zac Tryz.prog 22 = some 24 := by kernel_rfl
@[simp] theorem zwR : zad Tryz.prog 22 = some (.slice none 0 0) := by kernel_rfl
@[simp] theorem zwS : zX Tryz.prog 22 = some false := by simp [zX, Tryz.underlying22]
@[simp] theorem zwT : zI Tryz.prog 22 = none := by simp [zI, Tryz.underlying22]
@[simp] theorem zsk : zaw Tryz.prog 22 = some 3 := by kernel_rfl
@[simp] theorem zwU : tsz Tryz.prog 23 = some 1 := by kernel_rfl
@[simp] theorem zwV : zac Tryz.prog 23 = some 24 := by kernel_rfl
@[simp] theorem zwW : zad Tryz.prog 23 = some (.slice none 0 0) := by kernel_rfl
@[simp] theorem zwX : zX Tryz.prog 23 = some false := by simp [zX, Tryz.underlying23]
@[simp] theorem zwY : zI Tryz.prog 23 = none := by simp [zI, Tryz.underlying23]
@[simp] theorem zsl : zaw Tryz.prog 23 = some 101 := by kernel_rfl
@[simp] theorem zwZ : tsz Tryz.prog 25 = some 2 := by kernel_rfl
@[simp] theorem zw0 : zac Tryz.prog 25 = some 48 := by kernel_rfl
@[simp] theorem zw1 : zad Tryz.prog 25 = some (.agg #[(.slice none 0 0), (.slice none 0 0)]) := by kernel_rfl
@[simp] theorem zw2 : zX Tryz.prog 25 = some true := by simp [zX, Tryz.underlying25]
@[simp] theorem zw3 : zI Tryz.prog 25 = none := by simp [zI, Tryz.underlying25]
@[simp] theorem zw4 : zaJ Tryz.prog 25 = true := by kernel_rfl
@[simp] theorem zw5 : zca Tryz.prog 25 = true := by kernel_rfl
@[simp] theorem zum : z8 Tryz.prog 25 0 = some (22, 0) := by kernel_rfl
@[simp] theorem zun : z8 Tryz.prog 25 1 = some (23, 1) := by kernel_rfl
@[simp] theorem zw6 : zaZ Tryz.prog 25 = some [(22, 0), (23, 1)] := by kernel_rfl
@[simp] theorem zw7 : Tryz.prog.eqGuardType Tryz.prog.depth 25 = false := by kernel_rfl
@[simp] theorem zw8 : tsz Tryz.prog 26 = some 1 := by kernel_rfl
@[simp] theorem zw9 : zac Tryz.prog 26 = some 24 := by kernel_rfl
@[simp] theorem zxa : zad Tryz.prog 26 = some (.slice none 0 0) := by kernel_rfl
@[simp] theorem zxb : zX Tryz.prog 26 = some false := by simp [zX, Tryz.underlying26]
@[simp] theorem zxc : zI Tryz.prog 26 = none := by simp [zI, Tryz.underlying26]
@[simp] theorem zsm : zaw Tryz.prog 26 = some 79 := by kernel_rfl
@[simp] theorem zsn : tsz Tryz.prog 28 = some 3 := by kernel_rfl
@[simp] theorem zso : zac Tryz.prog 28 = some 72 := by kernel_rfl
@[simp] theorem zsp : zad Tryz.prog 28 = some (.agg #[(.slice none 0 0), (.slice none 0 0), (.slice none 0 0)]) := by kernel_rfl
@[simp] theorem zxd : zX Tryz.prog 28 = some true := by simp [zX, Tryz.underlying28]
@[simp] theorem zxe : zI Tryz.prog 28 = none := by simp [zI, Tryz.underlying28]
@[simp] theorem zxf : zaJ Tryz.prog 28 = true := by kernel_rfl
@[simp] theorem zxg : zca Tryz.prog 28 = true := by kernel_rfl
@[simp] theorem zuo : z8 Tryz.prog 28 0 = some (25, 0) := by kernel_rfl
@[simp] theorem zup : z8 Tryz.prog 28 1 = some (26, 2) := by kernel_rfl
@[simp] theorem zxh : zaZ Tryz.prog 28 = some [(25, 0), (26, 2)] := by kernel_rfl
@[simp] theorem zxi : Tryz.prog.eqGuardType Tryz.prog.depth 28 = false := by kernel_rfl
@[simp] theorem zxj : tsz Tryz.prog 31 = some 1 := by kernel_rfl
@[simp] theorem zxk : zac Tryz.prog 31 = some 24 := by kernel_rfl
@[simp] theorem zxl : zad Tryz.prog 31 = some (.slice none 0 0) := by kernel_rfl
@[simp] theorem zxm : zX Tryz.prog 31 = some false := by simp [zX, Tryz.underlying31]
@[simp] theorem zxn : zI Tryz.prog 31 = none := by simp [zI, Tryz.underlying31]
@[simp] theorem zsq : zaw Tryz.prog 31 = some 48 := by kernel_rfl
@[simp] theorem zxo : tsz Tryz.prog 32 = some 5 := by kernel_rfl
@[simp] theorem zxp : zac Tryz.prog 32 = some 120 := by kernel_rfl
@[simp] theorem zxq : zad Tryz.prog 32 = some (.agg #[(.slice none 0 0), (.slice none 0 0), (.slice none 0 0), (.slice none 0 0), (.slice none 0 0)]) := by kernel_rfl
@[simp] theorem zxr : zX Tryz.prog 32 = some true := by simp [zX, Tryz.underlying32]
@[simp] theorem zxs : zI Tryz.prog 32 = some (5, 31) := by simp [zI, Tryz.underlying32]
@[simp] theorem zsr : tsz Tryz.prog 40 = some 1 := by kernel_rfl
@[simp] theorem zss : zac Tryz.prog 40 = some 8 := by kernel_rfl
@[simp] theorem zst : zad Tryz.prog 40 = some (.int .u64 (0)) := by kernel_rfl
@[simp] theorem zxt : zX Tryz.prog 40 = some false := by simp [zX, Tryz.underlying40]
@[simp] theorem zxu : zI Tryz.prog 40 = none := by simp [zI, Tryz.underlying40]
@[simp] theorem zxv : zco Tryz.prog 40 = some .u64 := by kernel_rfl
@[simp] theorem zxw : zbQ Tryz.prog 40 = true := by kernel_rfl
@[simp] theorem zxx : tsz Tryz.prog 44 = some 1 := by kernel_rfl
@[simp] theorem zxy : zac Tryz.prog 44 = some 8 := by kernel_rfl
@[simp] theorem zxz : zad Tryz.prog 44 = some (.int .i64 (0)) := by kernel_rfl
@[simp] theorem zxA : zX Tryz.prog 44 = some false := by simp [zX, Tryz.underlying44]
@[simp] theorem zxB : zI Tryz.prog 44 = none := by simp [zI, Tryz.underlying44]
@[simp] theorem zxC : zco Tryz.prog 44 = some .i64 := by kernel_rfl
@[simp] theorem zxD : zbQ Tryz.prog 44 = true := by kernel_rfl
@[simp] theorem zxE : tsz Tryz.prog 46 = some 1 := by kernel_rfl
@[simp] theorem zxF : zac Tryz.prog 46 = some 4 := by kernel_rfl
@[simp] theorem zxG : zad Tryz.prog 46 = some (.int .u32 (0)) := by kernel_rfl
@[simp] theorem zxH : zX Tryz.prog 46 = some false := by simp [zX, Tryz.underlying46]
@[simp] theorem zxI : zI Tryz.prog 46 = none := by simp [zI, Tryz.underlying46]
@[simp] theorem zxJ : zco Tryz.prog 46 = some .u32 := by kernel_rfl
@[simp] theorem zxK : zbQ Tryz.prog 46 = true := by kernel_rfl
@[simp] theorem zsu : tsz Tryz.prog 48 = some 2 := by kernel_rfl
@[simp] theorem zsv : zac Tryz.prog 48 = some 8 := by kernel_rfl
@[simp] theorem zsw : zad Tryz.prog 48 = some (.agg #[(.int .u32 (0)), (.int .u32 (0))]) := by kernel_rfl
@[simp] theorem zxL : zX Tryz.prog 48 = some true := by simp [zX, Tryz.underlying48]
@[simp] theorem zxM : zI Tryz.prog 48 = none := by simp [zI, Tryz.underlying48]
@[simp] theorem zxN : zaJ Tryz.prog 48 = true := by kernel_rfl
@[simp] theorem zxO : zca Tryz.prog 48 = true := by kernel_rfl
@[simp] theorem zuq : z8 Tryz.prog 48 0 = some (46, 0) := by kernel_rfl
@[simp] theorem zur : z8 Tryz.prog 48 1 = some (46, 1) := by kernel_rfl
@[simp] theorem zxP : zaZ Tryz.prog 48 = some [(46, 0), (46, 1)] := by kernel_rfl
@[simp] theorem zxQ : Tryz.prog.eqGuardType Tryz.prog.depth 48 = false := by kernel_rfl
@[simp] theorem zxR : tsz Tryz.prog 50 = some 1 := by kernel_rfl
@[simp] theorem zxS : zac Tryz.prog 50 = some 24 := by kernel_rfl
@[simp] theorem zxT : zad Tryz.prog 50 = some (.slice none 0 0) := by kernel_rfl
@[simp] theorem zxU : zX Tryz.prog 50 = some false := by simp [zX, Tryz.underlying50]
@[simp] theorem zxV : zI Tryz.prog 50 = none := by simp [zI, Tryz.underlying50]
@[simp] theorem zsx : zaw Tryz.prog 50 = some 28 := by kernel_rfl
@[simp] theorem zsy : tsz Tryz.prog 52 = some 2 := by kernel_rfl
@[simp] theorem zsz : zac Tryz.prog 52 = some 16 := by kernel_rfl
@[simp] theorem zsA : zad Tryz.prog 52 = some (.agg #[(.int .i64 (0)), (.int .i64 (0))]) := by kernel_rfl
@[simp] theorem zxW : zX Tryz.prog 52 = some true := by simp [zX, Tryz.underlying52]
@[simp] theorem zxX : zI Tryz.prog 52 = none := by simp [zI, Tryz.underlying52]
@[simp] theorem zxY : zaJ Tryz.prog 52 = true := by kernel_rfl
@[simp] theorem zpS : zca Tryz.prog 52 = true := by kernel_rfl
@[simp] theorem zus : z8 Tryz.prog 52 0 = some (3, 0) := by kernel_rfl
@[simp] theorem zut : z8 Tryz.prog 52 1 = some (3, 1) := by kernel_rfl
@[simp] theorem zxZ : zaZ Tryz.prog 52 = some [(3, 0), (3, 1)] := by kernel_rfl
@[simp] theorem zsB : Tryz.prog.eqGuardType Tryz.prog.depth 52 = false := by kernel_rfl
@[simp] theorem zx0 : tsz Tryz.prog 54 = some 4 := by kernel_rfl
@[simp] theorem zx1 : zac Tryz.prog 54 = some 48 := by kernel_rfl
@[simp] theorem zx2 : zad Tryz.prog 54 = some (.agg #[(.slice none 0 0), (.int .i64 (0)), (.int .i64 (0)), (.int .i64 (0))]) := by kernel_rfl
@[simp] theorem zx3 : zX Tryz.prog 54 = some true := by simp [zX, Tryz.underlying54]
@[simp] theorem zx4 : zI Tryz.prog 54 = none := by simp [zI, Tryz.underlying54]
@[simp] theorem zx5 : zaJ Tryz.prog 54 = true := by kernel_rfl
@[simp] theorem zx6 : zca Tryz.prog 54 = true := by kernel_rfl
@[simp] theorem zuu : z8 Tryz.prog 54 0 = some (22, 0) := by kernel_rfl
@[simp] theorem zuv : z8 Tryz.prog 54 1 = some (44, 1) := by kernel_rfl
@[simp] theorem zuw : z8 Tryz.prog 54 2 = some (52, 2) := by kernel_rfl
@[simp] theorem zx7 : zaZ Tryz.prog 54 = some [(22, 0), (44, 1), (52, 2)] := by kernel_rfl
@[simp] theorem zx8 : Tryz.prog.eqGuardType Tryz.prog.depth 54 = false := by kernel_rfl
@[simp] theorem zx9 : tsz Tryz.prog 72 = some 1 := by kernel_rfl
@[simp] theorem zya : zac Tryz.prog 72 = some 8 := by kernel_rfl
@[simp] theorem zyb : zad Tryz.prog 72 = some .nilFunc := by kernel_rfl
@[simp] theorem zyc : zX Tryz.prog 72 = some false := by simp [zX, Tryz.underlying72]
@[simp] theorem zyd : zI Tryz.prog 72 = none := by simp [zI, Tryz.underlying72]
@[simp] theorem zye : tsz Tryz.prog 75 = some 1 := by kernel_rfl
@[simp] theorem zyf : zac Tryz.prog 75 = some 8 := by kernel_rfl
@[simp] theorem zyg : zad Tryz.prog 75 = some (.pointer none) := by kernel_rfl
@[simp] theorem zyh : zX Tryz.prog 75 = some false := by simp [zX, Tryz.underlying75]
@[simp] theorem zyi : zI Tryz.prog 75 = none := by simp [zI, Tryz.underlying75]
@[simp] theorem zyj : zfR Tryz.prog 75 = true := by kernel_rfl
@[simp] theorem zyk : tsz Tryz.prog 77 = some 1 := by kernel_rfl
@[simp] theorem zyl : zac Tryz.prog 77 = some 8 := by kernel_rfl
@[simp] theorem zym : zad Tryz.prog 77 = some (.int .i64 (0)) := by kernel_rfl
@[simp] theorem zyn : zX Tryz.prog 77 = some false := by simp [zX, Tryz.underlying77]
@[simp] theorem zyo : zI Tryz.prog 77 = none := by simp [zI, Tryz.underlying77]
@[simp] theorem zyp : zco Tryz.prog 77 = some .i64 := by kernel_rfl
@[simp] theorem zyq : zbQ Tryz.prog 77 = true := by kernel_rfl
@[simp] theorem zsC : tsz Tryz.prog 79 = some 7 := by kernel_rfl
@[simp] theorem zsD : zac Tryz.prog 79 = some 48 := by kernel_rfl
@[simp] theorem zsE : zad Tryz.prog 79 = some (.agg #[(.int .i64 (0)), (.int .i64 (0)), (.int .i64 (0)), (.int .i64 (0)), (.int .u32 (0)), (.int .u32 (0)), (.int .i64 (0))]) := by kernel_rfl
@[simp] theorem zyr : zX Tryz.prog 79 = some true := by simp [zX, Tryz.underlying79]
@[simp] theorem zys : zI Tryz.prog 79 = none := by simp [zI, Tryz.underlying79]
@[simp] theorem zyt : zaJ Tryz.prog 79 = true := by kernel_rfl
@[simp] theorem zyu : zca Tryz.prog 79 = true := by kernel_rfl
@[simp] theorem zux : z8 Tryz.prog 79 0 = some (3, 0) := by kernel_rfl
@[simp] theorem zuy : z8 Tryz.prog 79 1 = some (3, 1) := by kernel_rfl
@[simp] theorem zuz : z8 Tryz.prog 79 2 = some (3, 2) := by kernel_rfl
@[simp] theorem zuA : z8 Tryz.prog 79 3 = some (77, 3) := by kernel_rfl
@[simp] theorem zuB : z8 Tryz.prog 79 4 = some (48, 4) := by kernel_rfl
@[simp] theorem zuC : z8 Tryz.prog 79 5 = some (3, 6) := by kernel_rfl
@[simp] theorem zyv : zaZ Tryz.prog 79 = some [(3, 0), (3, 1), (3, 2), (77, 3), (48, 4), (3, 6)] := by kernel_rfl
@[simp] theorem zyw : Tryz.prog.eqGuardType Tryz.prog.depth 79 = false := by kernel_rfl
@[simp] theorem zyx : tsz Tryz.prog 86 = some 3 := by kernel_rfl
@[simp] theorem zyy : zac Tryz.prog 86 = some 24 := by kernel_rfl
@[simp] theorem zyz : zad Tryz.prog 86 = some (.agg #[(.int .i64 (0)), (.int .i64 (0)), (.int .i64 (0))]) := by kernel_rfl
@[simp] theorem zyA : zX Tryz.prog 86 = some true := by simp [zX, Tryz.underlying86]
@[simp] theorem zyB : zI Tryz.prog 86 = none := by simp [zI, Tryz.underlying86]
@[simp] theorem zyC : zaJ Tryz.prog 86 = true := by kernel_rfl
@[simp] theorem zyD : zca Tryz.prog 86 = true := by kernel_rfl
@[simp] theorem zuD : z8 Tryz.prog 86 0 = some (44, 0) := by kernel_rfl
@[simp] theorem zuE : z8 Tryz.prog 86 1 = some (52, 1) := by kernel_rfl
@[simp] theorem zyE : zaZ Tryz.prog 86 = some [(44, 0), (52, 1)] := by kernel_rfl
@[simp] theorem zyF : Tryz.prog.eqGuardType Tryz.prog.depth 86 = false := by kernel_rfl
@[simp] theorem zyG : tsz Tryz.prog 90 = some 1 := by kernel_rfl
@[simp] theorem zyH : zac Tryz.prog 90 = some 8 := by kernel_rfl
@[simp] theorem zyI : zad Tryz.prog 90 = some (.pointer none) := by kernel_rfl
@[simp] theorem zyJ : zX Tryz.prog 90 = some false := by simp [zX, Tryz.underlying90]
@[simp] theorem zyK : zI Tryz.prog 90 = none := by simp [zI, Tryz.underlying90]
@[simp] theorem zyL : zfR Tryz.prog 90 = true := by kernel_rfl
@[simp] theorem zyM : tsz Tryz.prog 93 = some 1 := by kernel_rfl
@[simp] theorem zyN : zac Tryz.prog 93 = some 8 := by kernel_rfl
@[simp] theorem zyO : zad Tryz.prog 93 = some .nilFunc := by kernel_rfl
@[simp] theorem zyP : zX Tryz.prog 93 = some false := by simp [zX, Tryz.underlying93]
@[simp] theorem zyQ : zI Tryz.prog 93 = none := by simp [zI, Tryz.underlying93]
@[simp] theorem zqR : tsz Tryz.prog 101 = some 4 := by kernel_rfl
@[simp] theorem zqS : zac Tryz.prog 101 = some 32 := by kernel_rfl
@[simp] theorem zqT : zad Tryz.prog 101 = some (.agg #[(.int .i64 (0)), (.int .i64 (0)), (.int .i64 (0)), (.int .i64 (0))]) := by kernel_rfl
@[simp] theorem zu8 : zX Tryz.prog 101 = some true := by simp [zX, Tryz.underlying101]
@[simp] theorem zu9 : zI Tryz.prog 101 = none := by simp [zI, Tryz.underlying101]
@[simp] theorem zva : zaJ Tryz.prog 101 = true := by kernel_rfl
@[simp] theorem zvb : zca Tryz.prog 101 = true := by kernel_rfl
@[simp] theorem ztH : z8 Tryz.prog 101 0 = some (52, 0) := by kernel_rfl
@[simp] theorem ztI : z8 Tryz.prog 101 1 = some (52, 2) := by kernel_rfl
@[simp] theorem zvc : zaZ Tryz.prog 101 = some [(52, 0), (52, 2)] := by kernel_rfl
@[simp] theorem zvd : Tryz.prog.eqGuardType Tryz.prog.depth 101 = false := by kernel_rfl
@[simp] theorem zve : tsz Tryz.prog 116 = some 1 := by kernel_rfl
@[simp] theorem zvf : zac Tryz.prog 116 = some 8 := by kernel_rfl
@[simp] theorem zvg : zad Tryz.prog 116 = some (.pointer none) := by kernel_rfl
@[simp] theorem zvh : zX Tryz.prog 116 = some false := by simp [zX, Tryz.underlying116]
@[simp] theorem zvi : zI Tryz.prog 116 = none := by simp [zI, Tryz.underlying116]
@[simp] theorem zvj : zfR Tryz.prog 116 = true := by kernel_rfl
@[simp] theorem zvk : tsz Tryz.prog 121 = some 3 := by kernel_rfl
@[simp] theorem zvl : zac Tryz.prog 121 = some 24 := by kernel_rfl
@[simp] theorem zvm : zad Tryz.prog 121 = some (.agg #[(.pointer none), (.pointer none), (.int .i64 (0))]) := by kernel_rfl
@[simp] theorem zvn : zX Tryz.prog 121 = some true := by simp [zX, Tryz.underlying121]
@[simp] theorem zvo : zI Tryz.prog 121 = none := by simp [zI, Tryz.underlying121]
@[simp] theorem zvp : zaJ Tryz.prog 121 = true := by kernel_rfl
@[simp] theorem zvq : zca Tryz.prog 121 = true := by kernel_rfl
@[simp] theorem ztJ : z8 Tryz.prog 121 0 = some (116, 0) := by kernel_rfl
@[simp] theorem ztK : z8 Tryz.prog 121 1 = some (116, 1) := by kernel_rfl
@[simp] theorem ztL : z8 Tryz.prog 121 2 = some (3, 2) := by kernel_rfl
@[simp] theorem zvr : zaZ Tryz.prog 121 = some [(116, 0), (116, 1), (3, 2)] := by kernel_rfl
@[simp] theorem zvs : Tryz.prog.eqGuardType Tryz.prog.depth 121 = false := by kernel_rfl
@[simp] theorem zvt : tsz Tryz.prog 125 = some 2 := by kernel_rfl
@[simp] theorem zvu : zac Tryz.prog 125 = some 16 := by kernel_rfl
@[simp] theorem zvv : zad Tryz.prog 125 = some (.agg #[(.int .u64 (0)), (.int .i64 (0))]) := by kernel_rfl
@[simp] theorem zvw : zX Tryz.prog 125 = some true := by simp [zX, Tryz.underlying125]
@[simp] theorem zvx : zI Tryz.prog 125 = none := by simp [zI, Tryz.underlying125]
@[simp] theorem zvy : zaJ Tryz.prog 125 = true := by kernel_rfl
@[simp] theorem zvz : zca Tryz.prog 125 = true := by kernel_rfl
@[simp] theorem ztM : z8 Tryz.prog 125 0 = some (40, 0) := by kernel_rfl
@[simp] theorem ztN : z8 Tryz.prog 125 1 = some (3, 1) := by kernel_rfl
@[simp] theorem zvA : zaZ Tryz.prog 125 = some [(40, 0), (3, 1)] := by kernel_rfl
@[simp] theorem zvB : Tryz.prog.eqGuardType Tryz.prog.depth 125 = false := by kernel_rfl
@[simp] theorem zvC : tsz Tryz.prog 129 = some 1 := by kernel_rfl
@[simp] theorem zvD : zac Tryz.prog 129 = some 24 := by kernel_rfl
@[simp] theorem zvE : zad Tryz.prog 129 = some (.slice none 0 0) := by kernel_rfl
@[simp] theorem zvF : zX Tryz.prog 129 = some false := by simp [zX, Tryz.underlying129]
@[simp] theorem zvG : zI Tryz.prog 129 = none := by simp [zI, Tryz.underlying129]
@[simp] theorem zqU : zaw Tryz.prog 129 = some 52 := by kernel_rfl
@[simp] theorem zvH : tsz Tryz.prog 131 = some 1 := by kernel_rfl
@[simp] theorem zvI : zac Tryz.prog 131 = some 8 := by kernel_rfl
@[simp] theorem zvJ : zad Tryz.prog 131 = some .nilFunc := by kernel_rfl
@[simp] theorem zvK : zX Tryz.prog 131 = some false := by simp [zX, Tryz.underlying131]
@[simp] theorem zvL : zI Tryz.prog 131 = none := by simp [zI, Tryz.underlying131]
@[simp] theorem zvM : tsz Tryz.prog 139 = some 1 := by kernel_rfl
@[simp] theorem zvN : zac Tryz.prog 139 = some 8 := by kernel_rfl
@[simp] theorem zvO : zad Tryz.prog 139 = some (.pointer none) := by kernel_rfl
@[simp] theorem zvP : zX Tryz.prog 139 = some false := by simp [zX, Tryz.underlying139]
@[simp] theorem zvQ : zI Tryz.prog 139 = none := by simp [zI, Tryz.underlying139]
@[simp] theorem zvR : zfR Tryz.prog 139 = true := by kernel_rfl
@[simp] theorem zvS : tsz Tryz.prog 141 = some 1 := by kernel_rfl
@[simp] theorem zvT : zac Tryz.prog 141 = some 8 := by kernel_rfl
@[simp] theorem zvU : zad Tryz.prog 141 = some (.agg #[(.pointer none)]) := by kernel_rfl
@[simp] theorem zvV : zX Tryz.prog 141 = some true := by simp [zX, Tryz.underlying141]
@[simp] theorem zvW : zI Tryz.prog 141 = none := by simp [zI, Tryz.underlying141]
@[simp] theorem zvX : zaJ Tryz.prog 141 = true := by kernel_rfl
@[simp] theorem zvY : zca Tryz.prog 141 = true := by kernel_rfl
@[simp] theorem ztO : z8 Tryz.prog 141 0 = some (139, 0) := by kernel_rfl
@[simp] theorem zvZ : zaZ Tryz.prog 141 = some [(139, 0)] := by kernel_rfl
@[simp] theorem zv0 : Tryz.prog.eqGuardType Tryz.prog.depth 141 = false := by kernel_rfl
@[simp] theorem zv1 : tsz Tryz.prog 149 = some 1 := by kernel_rfl
@[simp] theorem zv2 : zac Tryz.prog 149 = some 24 := by kernel_rfl
@[simp] theorem zv3 : zad Tryz.prog 149 = some (.slice none 0 0) := by kernel_rfl
@[simp] theorem zv4 : zX Tryz.prog 149 = some false := by simp [zX, Tryz.underlying149]
@[simp] theorem zv5 : zI Tryz.prog 149 = none := by simp [zI, Tryz.underlying149]
@[simp] theorem zqV : zaw Tryz.prog 149 = some 40 := by kernel_rfl
@[simp] theorem zv6 : tsz Tryz.prog 154 = some 6 := by kernel_rfl
@[simp] theorem zv7 : zac Tryz.prog 154 = some 48 := by kernel_rfl
@[simp] theorem zv8 : zad Tryz.prog 154 = some (.agg #[(.int .u64 (0)), (.int .i64 (0)), (.pointer none), (.pointer none), (.int .i64 (0)), (.int .i64 (0))]) := by kernel_rfl
@[simp] theorem zv9 : zX Tryz.prog 154 = some true := by simp [zX, Tryz.underlying154]
@[simp] theorem zwa : zI Tryz.prog 154 = none := by simp [zI, Tryz.underlying154]
@[simp] theorem zwb : zaJ Tryz.prog 154 = true := by kernel_rfl
@[simp] theorem zwc : zca Tryz.prog 154 = true := by kernel_rfl
@[simp] theorem ztP : z8 Tryz.prog 154 0 = some (125, 0) := by kernel_rfl
@[simp] theorem ztQ : z8 Tryz.prog 154 1 = some (139, 2) := by kernel_rfl
@[simp] theorem ztR : z8 Tryz.prog 154 2 = some (139, 3) := by kernel_rfl
@[simp] theorem ztS : z8 Tryz.prog 154 3 = some (3, 4) := by kernel_rfl
@[simp] theorem ztT : z8 Tryz.prog 154 4 = some (3, 5) := by kernel_rfl
@[simp] theorem zwd : zaZ Tryz.prog 154 = some [(125, 0), (139, 2), (139, 3), (3, 4), (3, 5)] := by kernel_rfl
@[simp] theorem zwe : Tryz.prog.eqGuardType Tryz.prog.depth 154 = false := by kernel_rfl
@[simp] theorem zwf : tsz Tryz.prog 155 = some 1 := by kernel_rfl
@[simp] theorem zwg : zac Tryz.prog 155 = some 8 := by kernel_rfl
@[simp] theorem zwh : zad Tryz.prog 155 = some (.map none) := by kernel_rfl
@[simp] theorem zwi : zX Tryz.prog 155 = some false := by simp [zX, Tryz.underlying155]
@[simp] theorem zwj : zI Tryz.prog 155 = none := by simp [zI, Tryz.underlying155]
@[simp] theorem zwk : zk2 Tryz.prog 155 = true := by kernel_rfl
@[simp] theorem zon : zdJ Tryz.prog 155 = some (52, 52) := by kernel_rfl
@[simp] theorem zwl : tsz Tryz.prog 161 = some 1 := by kernel_rfl
@[simp] theorem zwm : zac Tryz.prog 161 = some 8 := by kernel_rfl
@[simp] theorem zwn : zad Tryz.prog 161 = some (.int .u64 (0)) := by kernel_rfl
@[simp] theorem zwo : zX Tryz.prog 161 = some false := by simp [zX, Tryz.underlying161]
@[simp] theorem zwp : zI Tryz.prog 161 = none := by simp [zI, Tryz.underlying161]
@[simp] theorem zwq : zco Tryz.prog 161 = some .u64 := by kernel_rfl
@[simp] theorem zwr : zbQ Tryz.prog 161 = true := by kernel_rfl
@[simp] theorem zws : tsz Tryz.prog 181 = some 1 := by kernel_rfl
@[simp] theorem zwt : zac Tryz.prog 181 = some 8 := by kernel_rfl
@[simp] theorem zwu : zad Tryz.prog 181 = some (.int .u64 (0)) := by kernel_rfl
@[simp] theorem zwv : zX Tryz.prog 181 = some false := by simp [zX, Tryz.underlying181]
@[simp] theorem zww : zI Tryz.prog 181 = none := by simp [zI, Tryz.underlying181]
@[simp] theorem zwx : zco Tryz.prog 181 = some .u64 := by kernel_rfl
@[simp] theorem zwy : zbQ Tryz.prog 181 = true := by kernel_rfl
theorem znl : SlT Tryz.prog 22 1 8 := ⟨⟨3, _, zsk, ztE, ztF, ztG, rfl, by decide, by decide⟩⟩
theorem zyR : SlT Tryz.prog 23 4 32 := ⟨⟨101, _, zsl, zqR, zqS, zqT, rfl, by decide, by decide⟩⟩
theorem zpT : SlT Tryz.prog 26 7 48 := ⟨⟨79, _, zsm, zsC, zsD, zsE, rfl, by decide, by decide⟩⟩
theorem zf9 : SlT Tryz.prog 31 2 8 := ⟨⟨48, _, zsq, zsu, zsv, zsw, rfl, by decide, by decide⟩⟩
theorem zyS : SlT Tryz.prog 50 3 72 := ⟨⟨28, _, zsx, zsn, zso, zsp, rfl, by decide, by decide⟩⟩
theorem zqW : SlT Tryz.prog 129 2 16 := ⟨⟨52, _, zqU, zsy, zsz, zsA, rfl, by decide, by decide⟩⟩
theorem zqX : SlT Tryz.prog 149 1 8 := ⟨⟨40, _, zqV, zsr, zss, zst, rfl, by decide, by decide⟩⟩
theorem zdw : Tryz.prog.follows .mixedOrders = true := by kernel_rfl
end Go.Proofs.YtpboabpapgimoaaGreat.Av
namespace Go.Proofs.YtpboabpapgimoaaGreat.Av
set_option linter.unusedSimpArgs false
set_option linter.unusedVariables false
open Go
theorem Ext.setF {σ τ : St} {i : Id} {o : Ob} (h : Ext σ τ) (hi : σ.m i = none) : Ext σ (τ.set i o) := ⟨fun j p hj => by
    have hne : j ≠ i := fun e => by rw [e, hi] at hj; cases hj
    simp only [St.set, hne, false_and, if_false]
    exact h.m j p hj, h.nx⟩
theorem zjw {τ : St} {i : Id} {o p : Ob} (h : τ.m i = some p) : (τ.set i o).m i = some o := by simp [St.set, h]
theorem zlt {τ : St} {i j : Id} {o : Ob} (h : j ≠ i) : (τ.set i o).m j = τ.m j := by simp [St.set, h]
theorem zR {σ : St} {slot sz : Nat} {o : Ob} {j : Id} : (σ.new slot sz o).m j = if j = ⟨slot, σ.nx slot, sz⟩ then some o else σ.m j := rfl
theorem z0 {σ : St} {i j : Id} {o : Ob} : (σ.set i o).m j = if j = i ∧ (σ.m i).isSome = true then some o else σ.m j := rfl
theorem zk {σ : St} {slot sz s : Nat} {o : Ob} : (σ.new slot sz o).nx s = if s = slot then σ.nx s + 1 else σ.nx s := rfl
section
variable {P : Program} {N : Nat} {A : zD} {σ σ0 : St} {r : Option Nat} {K : Exit → zD → St → Prop}
def zfb (v : AV) (X Y : Prop) : Prop := ze9 v X Y
@[congr] theorem zrN {tk : Prop} (hx : (True ∧ True) = tk) {v v' : AV} {X Y : Prop} (h : v = v') : zfb v X Y = zfb v' X Y := by rw [h]
@[simp] theorem zuF {X Y : Prop} : zfb (.raw (.bool true)) X Y = X := by simp [zfb, ze9]
@[simp] theorem zuG {X Y : Prop} : zfb (.raw (.bool false)) X Y = Y := by simp [zfb, ze9]
theorem zf {c : Operand} {x y : Code} (h : zfb (zr A c) (AWP P r N x K A σ) (AWP P r N y K A σ)) : AWP P r N (.cond c x y) K A σ := zcq h
theorem zc {b : Bool} {X Y : Prop} (h1 : b = true → X) (h2 : b = false → Y) : zfb (.raw (.bool b)) X Y := ⟨h1, h2⟩
def znm (P : Program) (r : Option Nat) (N : Nat) (c : Code) (K : Exit → zD → St → Prop) (A : zD) (σ : St) : Prop := match c with
  | .skip => K .normal A σ
  | .exit n => K (.exit n) A σ
  | .ret => K .ret A σ
  | c => AWP P r N c K A σ
theorem zA {c : Code} (h : znm P r N c K A σ) : AWP P r N c K A σ := by
  cases c <;> first | exact zdK h | exact zfX h | exact zeC h | exact h
theorem zB : znm P r N .skip K A σ = K .normal A σ ∧ (∀ n, znm P r N (.exit n) K A σ = K (.exit n) A σ) ∧ znm P r N .ret K A σ = K .ret A σ := ⟨rfl, fun _ => rfl, rfl⟩
theorem dN {id : Nat} {ops : List Oper} (hc : zjt ops (fun _ => false) = true) (h : dops Tryz.prog N (ops.map (zch ops fun _ => false)) A σ (K .normal)) : AWP Tryz.prog r N (.region id ops.toArray true) K A σ := zbL _ zdw hc h
theorem dC {id : Nat} {ops : List Oper} (hc : zjt ops zho = true) (h : dops Tryz.prog N (ops.map (zch ops zho)) A σ (K .normal)) : AWP Tryz.prog r N (.region id ops.toArray true) K A σ := zbL _ zdw hc h
theorem uP {f : FuncId} {args : List AV} {rv : AV} {K : AV → St → Prop} (h : PCalls P f args rv) (k : K rv σ) : ACalls P f args σ K := h.use k
theorem uD {f : FuncId} {args : List AV} {rv : AV} {X : Prop} {m : z7} {K : AV → St → Prop} (h : PCalls P f args rv) (k : K rv σ) : (∃ r, RCalls P m f args r ∧ K r σ) ∨ X := .inl ⟨_, .inl h, k⟩
theorem nsE : (∀ {σ : St} {slot sz : Nat} {o : Ob} {j : Id}, (σ.new slot sz o).m j = if j = ⟨slot, σ.nx slot, sz⟩ then some o else σ.m j) ∧ (∀ {σ : St} {i j : Id} {o : Ob}, (σ.set i o).m j = if j = i ∧ (σ.m i).isSome = true then some o else σ.m j) ∧ (∀ {σ : St} {slot sz s : Nat} {o : Ob}, (σ.new slot sz o).nx s = if s = slot then σ.nx s + 1 else σ.nx s) := ⟨rfl, rfl, rfl⟩
end
structure Hd (H : Prop) : Prop where
  h : H
theorem gxA {G : Prop} (w : G := by (try ((first | with_reducible refine zo ?_ | with_reducible refine zt ?_ | with_reducible refine zu ?_); simp [-cellOK, FF])); repeat' (first | ((first | refine zf ?_ | refine zg ?_ | refine dN (by decide +kernel) ?_ | refine dC (by decide +kernel) ?_ | refine uP (by assumption) ?_ | refine .inl ⟨_, .inl (by assumption), ?_⟩ | (refine za ?_ ?_ <;> (intro hg; simp only [hg])) | fail) <;> simp [-cellOK, FF]) | refine ze ?_ | refine zd ?_ | (refine zA ?_; simp only [zB]; try simp) | (refine zm (by simp) ?_; simp) | (refine zan (by simp) (by simp [noIds]) (by repeat (first | assumption | exact Ext.refl _ | refine zS ?_ | refine Ext.setF ?_ (by first | assumption | (simp [zk, St.set, zb]; done) | exact zN (by assumption)))) ?_; simp [-cellOK, FF, nsE]) | (refine zc (fun hc => ?_) (fun hc => ?_) <;> try simp at hc) | fail)) : G := w
theorem gxB {G H : Prop} (k : H) (w : Hd H → G := by intro hH; (try ((first | with_reducible refine zo ?_ | with_reducible refine zt ?_ | with_reducible refine zu ?_); simp [-cellOK, FF])); (repeat' (first | ((first | refine zf ?_ | refine zg ?_ | refine dN (by decide +kernel) ?_ | refine dC (by decide +kernel) ?_ | refine uP (by assumption) ?_ | refine .inl ⟨_, .inl (by assumption), ?_⟩ | (refine za ?_ ?_ <;> (intro hg; simp only [hg])) | fail) <;> simp [-cellOK, FF]) | refine ze ?_ | refine zd ?_ | (refine zA ?_; simp only [zB]; try simp) | (refine zm (by simp) ?_; simp) | (refine zan (by simp) (by simp [noIds]) (by repeat (first | assumption | exact Ext.refl _ | refine zS ?_ | refine Ext.setF ?_ (by first | assumption | (simp [zk, St.set, zb]; done) | exact zN (by assumption)))) ?_; simp [-cellOK, FF, nsE]) | (refine zc (fun hc => ?_) (fun hc => ?_) <;> try simp at hc) | fail)); exact hH.h) : G := w ⟨k⟩
theorem gxC {G H : Prop} (k : H) (w : Hd H → G := by intro hH; (try ((first | with_reducible refine zo ?_ | with_reducible refine zt ?_ | with_reducible refine zu ?_); simp [-cellOK, FF])); (repeat' (first | ((first | refine zf ?_ | refine zg ?_ | refine dN (by decide +kernel) ?_ | refine dC (by decide +kernel) ?_ | refine uP (by assumption) ?_ | refine .inl ⟨_, .inl (by assumption), ?_⟩ | (refine za ?_ ?_ <;> (intro hg; simp only [hg])) | fail) <;> simp [-cellOK, FF]) | refine ze ?_ | refine zd ?_ | (refine zA ?_; simp only [zB]; try simp) | (refine zc (fun hc => ?_) (fun hc => ?_) <;> try simp at hc) | fail)); exact hH.h) : G := w ⟨k⟩
theorem goA {G : Prop} (w : G := by (try ((first | with_reducible refine zo ?_ | with_reducible refine zt ?_ | with_reducible refine zu ?_); simp [FF])); repeat' (first | ((first | refine zf ?_ | refine zg ?_ | refine dN (by decide +kernel) ?_ | (refine za ?_ ?_ <;> (intro hg; simp only [hg])) | fail) <;> simp [FF]) | refine ze ?_ | refine zd ?_ | (refine zA ?_; simp only [zB]; try simp) | ((first | refine zm (by simp) ?_ | refine zv (by simp) (by simp) (by simp (maxDischargeDepth := 30) [FF]) ?_ | fail); simp) | (refine zc (fun hc => ?_) (fun hc => ?_) <;> try simp at hc) | fail)) : G := w
theorem zx {G H : Prop} (k : H) (w : Hd H → G := by intro hH; (try ((first | with_reducible refine zo ?_ | with_reducible refine zt ?_ | with_reducible refine zu ?_); simp [FF])); (repeat' (first | ((first | refine zf ?_ | refine zg ?_ | refine dN (by decide +kernel) ?_ | (refine za ?_ ?_ <;> (intro hg; simp only [hg])) | fail) <;> simp [FF]) | refine ze ?_ | refine zd ?_ | (refine zA ?_; simp only [zB]; try simp) | ((first | refine zm (by simp) ?_ | refine zv (by simp) (by simp) (by simp (maxDischargeDepth := 30) [FF]) ?_ | fail); simp) | (refine zc (fun hc => ?_) (fun hc => ?_) <;> try simp at hc) | fail)); exact hH.h) : G := w ⟨k⟩
theorem goC {G H : Prop} (k : H) (w : Hd H → G := by intro hH; (try ((first | with_reducible refine zo ?_ | with_reducible refine zt ?_ | with_reducible refine zu ?_); simp [FF])); (repeat' (first | ((first | refine zf ?_ | refine zg ?_ | refine dN (by decide +kernel) ?_ | (refine za ?_ ?_ <;> (intro hg; simp only [hg])) | fail) <;> simp [FF]) | refine ze ?_ | refine zd ?_ | (refine zA ?_; simp only [zB]; try simp) | (refine zc (fun hc => ?_) (fun hc => ?_) <;> try simp at hc) | fail)); exact hH.h) : G := w ⟨k⟩
theorem goN {G : Prop} (w : G := by (try ((first | with_reducible refine zo ?_ | with_reducible refine zt ?_ | with_reducible refine zu ?_); simp [FF])); repeat' (first | ((first | refine zg ?_ | refine dN (by decide +kernel) ?_ | (refine za ?_ ?_ <;> (intro hg; simp only [hg])) | fail) <;> simp [FF]) | refine ze ?_ | refine zd ?_ | (refine zA ?_; simp only [zB]; try simp) | ((first | refine zm (by simp) ?_ | refine zv (by simp) (by simp) (by simp (maxDischargeDepth := 30) [FF]) ?_ | fail); simp) | (apply zds; focus (simp [FF]; done)) | (apply zdt; focus (simp [FF]; done)) | fail)) : G := w
theorem goM {G H : Prop} (k : H) (w : Hd H → G := by intro hH; (try ((first | with_reducible refine zo ?_ | with_reducible refine zt ?_ | with_reducible refine zu ?_); simp [FF])); (repeat' (first | ((first | refine zg ?_ | refine dN (by decide +kernel) ?_ | (refine za ?_ ?_ <;> (intro hg; simp only [hg])) | fail) <;> simp [FF]) | refine ze ?_ | refine zd ?_ | (refine zA ?_; simp only [zB]; try simp) | ((first | refine zm (by simp) ?_ | refine zv (by simp) (by simp) (by simp (maxDischargeDepth := 30) [FF]) ?_ | fail); simp) | (apply zds; focus (simp [FF]; done)) | (apply zdt; focus (simp [FF]; done)) | fail)); exact hH.h) : G := w ⟨k⟩
theorem zlu {G : Prop} (w : G := by (try ((first | with_reducible refine zo ?_ | with_reducible refine zt ?_ | with_reducible refine zu ?_); simp [-cellOK])); repeat' (first | ((first | refine zf ?_ | refine zg ?_ | refine dN (by decide +kernel) ?_ | refine dC (by decide +kernel) ?_ | refine uP (by assumption) ?_ | refine .inl ⟨_, .inl (by assumption), ?_⟩ | (refine za ?_ ?_ <;> (intro hg; simp only [hg])) | fail) <;> simp [-cellOK]) | refine ze ?_ | refine zd ?_ | (refine zA ?_; simp only [zB]; try simp) | (refine zm (by simp) ?_; simp) | (refine zan (by simp) (by simp [noIds]) (by repeat (first | assumption | exact Ext.refl _ | refine zS ?_ | refine Ext.setF ?_ (by first | assumption | (simp [zk, St.set, zb]; done) | exact zN (by assumption)))) ?_; simp [-cellOK, nsE]) | (refine zc (fun hc => ?_) (fun hc => ?_) <;> try simp at hc) | fail)) : G := w
theorem zpp {G H : Prop} (k : H) (w : Hd H → G := by intro hH; (try ((first | with_reducible refine zo ?_ | with_reducible refine zt ?_ | with_reducible refine zu ?_); simp [-cellOK])); (repeat' (first | ((first | refine zf ?_ | refine zg ?_ | refine dN (by decide +kernel) ?_ | refine dC (by decide +kernel) ?_ | refine uP (by assumption) ?_ | refine .inl ⟨_, .inl (by assumption), ?_⟩ | (refine za ?_ ?_ <;> (intro hg; simp only [hg])) | fail) <;> simp [-cellOK]) | refine ze ?_ | refine zd ?_ | (refine zA ?_; simp only [zB]; try simp) | (refine zm (by simp) ?_; simp) | (refine zan (by simp) (by simp [noIds]) (by repeat (first | assumption | exact Ext.refl _ | refine zS ?_ | refine Ext.setF ?_ (by first | assumption | (simp [zk, St.set, zb]; done) | exact zN (by assumption)))) ?_; simp [-cellOK, nsE]) | (refine zc (fun hc => ?_) (fun hc => ?_) <;> try simp at hc) | fail)); exact hH.h) : G := w ⟨k⟩
theorem zlv {G H : Prop} (k : H) (w : Hd H → G := by intro hH; (try ((first | with_reducible refine zo ?_ | with_reducible refine zt ?_ | with_reducible refine zu ?_); simp [-cellOK])); (repeat' (first | ((first | refine zf ?_ | refine zg ?_ | refine dN (by decide +kernel) ?_ | refine dC (by decide +kernel) ?_ | refine uP (by assumption) ?_ | refine .inl ⟨_, .inl (by assumption), ?_⟩ | (refine za ?_ ?_ <;> (intro hg; simp only [hg])) | fail) <;> simp [-cellOK]) | refine ze ?_ | refine zd ?_ | (refine zA ?_; simp only [zB]; try simp) | (refine zc (fun hc => ?_) (fun hc => ?_) <;> try simp at hc) | fail)); exact hH.h) : G := w ⟨k⟩
theorem zga {G : Prop} (w : G := by (try ((first | with_reducible refine zo ?_ | with_reducible refine zt ?_ | with_reducible refine zu ?_); simp)); repeat' (first | ((first | refine zf ?_ | refine zg ?_ | refine dN (by decide +kernel) ?_ | (refine za ?_ ?_ <;> (intro hg; simp only [hg])) | fail) <;> simp) | refine ze ?_ | refine zd ?_ | (refine zA ?_; simp only [zB]; try simp) | ((first | refine zm (by simp) ?_ | refine zv (by simp) (by simp) (by simp (maxDischargeDepth := 30)) ?_ | fail); simp) | (refine zc (fun hc => ?_) (fun hc => ?_) <;> try simp at hc) | fail)) : G := w
theorem zaR {G H : Prop} (k : H) (w : Hd H → G := by intro hH; (try ((first | with_reducible refine zo ?_ | with_reducible refine zt ?_ | with_reducible refine zu ?_); simp)); (repeat' (first | ((first | refine zf ?_ | refine zg ?_ | refine dN (by decide +kernel) ?_ | (refine za ?_ ?_ <;> (intro hg; simp only [hg])) | fail) <;> simp) | refine ze ?_ | refine zd ?_ | (refine zA ?_; simp only [zB]; try simp) | ((first | refine zm (by simp) ?_ | refine zv (by simp) (by simp) (by simp (maxDischargeDepth := 30)) ?_ | fail); simp) | (refine zc (fun hc => ?_) (fun hc => ?_) <;> try simp at hc) | fail)); exact hH.h) : G := w ⟨k⟩
theorem znn {G H : Prop} (k : H) (w : Hd H → G := by intro hH; (try ((first | with_reducible refine zo ?_ | with_reducible refine zt ?_ | with_reducible refine zu ?_); simp)); (repeat' (first | ((first | refine zf ?_ | refine zg ?_ | refine dN (by decide +kernel) ?_ | (refine za ?_ ?_ <;> (intro hg; simp only [hg])) | fail) <;> simp) | refine ze ?_ | refine zd ?_ | (refine zA ?_; simp only [zB]; try simp) | (refine zc (fun hc => ?_) (fun hc => ?_) <;> try simp at hc) | fail)); exact hH.h) : G := w ⟨k⟩
theorem goD {G H : Prop} (k : H) (w : Hd H → G := by intro hH; (try ((first | with_reducible refine zo ?_ | with_reducible refine zt ?_ | with_reducible refine zu ?_); simp)); exact hH.h) : G := w ⟨k⟩
theorem exA {σ τ : St} (w : Ext σ τ := by repeat (first | assumption | exact Ext.refl _ | refine zS ?_ | refine Ext.setF ?_ (by first | assumption | (simp [zk, St.set, zb]; done) | exact zN (by assumption)))) : Ext σ τ := w
theorem fI {a b : Prop} (h : a) (k : b) : a ∧ b := ⟨h, k⟩
end Go.Proofs.YtpboabpapgimoaaGreat.Av
namespace Go.Proofs.YtpboabpapgimoaaGreat.Av
open Go
set_option linter.unusedSimpArgs false
set_option linter.unusedVariables false
set_option maxRecDepth 100000
set_option maxHeartbeats 1000000
set_option pp.maxSteps 300
structure Pt where
  dev : Int
  port : Int
deriving DecidableEq
structure Lk where
  a : Pt
  b : Pt
deriving DecidableEq
structure Rg where
  lo : Int
  hi : Int
deriving DecidableEq
structure Ru where
  id : Int
  dev : Int
  prio : Int
  kind : Int
  r : Rg
  port : Int
deriving DecidableEq
structure Tp where
  ports : List Int
  links : List Lk
deriving DecidableEq
structure Nw where
  t : Tp
  rules : List Ru
deriving DecidableEq
def iAV (n : Int) : AV := .raw (.int .i64 n)
def uAV (n : Int) : AV := .raw (.int .u32 n)
def zag (p : Pt) : AV := .agg [.raw (.int .i64 p.dev), .raw (.int .i64 p.port)]
def zh4 (l : Lk) : AV := .agg [.raw (.int .i64 l.a.dev), .raw (.int .i64 l.a.port), .raw (.int .i64 l.b.dev), .raw (.int .i64 l.b.port)]
def zl (r : Rg) : AV := .agg [.raw (.int .u32 r.lo), .raw (.int .u32 r.hi)]
def zah (r : Ru) : AV := .agg [.raw (.int .i64 r.id), .raw (.int .i64 r.dev), .raw (.int .i64 r.prio), .raw (.int .i64 r.kind), .raw (.int .u32 r.r.lo), .raw (.int .u32 r.r.hi), .raw (.int .i64 r.port)]
def zp (l : List Int) (f : Bool) : AV := .sl 1 (l.map iAV) f
def zF (l : List Lk) (f : Bool) : AV := .sl 4 (l.map zh4) f
def zz (l : List Ru) (f : Bool) : AV := .sl 7 (l.map zah) f
structure Fl where
  p : Bool
  l : Bool
  r : Bool
def zbZ (t : Tp) (f : Fl) : AV := .agg [zp t.ports f.p, zF t.links f.l]
def zau (n : Nw) (f : Fl) : AV := .agg [zp n.t.ports f.p, zF n.t.links f.l, zz n.rules f.r]
def hasB (t : Tp) (p : Pt) : Bool := decide (0 ≤ p.dev) && match t.ports[p.dev.toNat]? with | some n => decide (0 ≤ p.port) && decide (p.port < n) | none => false
theorem zb7 (n b : Int) : PCalls Tryz.prog 107 [.raw (.int .i64 n), .raw (.int .i64 b)] (.raw (.bool (decide (0 ≤ n) && decide (n ≤ b)))) := by
  refine zE Tryz.func107 rfl (N := 12) rfl rfl (by simp) (by simp [noIds]) fun σ => ?_
  exact zga
def zeW (r : Ru) (d a : Int) : Bool := decide (r.dev = d) && (decide (r.r.lo ≤ a) && decide (a ≤ r.r.hi))
theorem zhF (r : Ru) (d a : Int) : PCalls Tryz.prog 118 [zah r, .raw (.int .i64 d), .raw (.int .u32 a)] (.raw (.bool (zeW r d a))) := by
  refine zE Tryz.func118 rfl (N := 25) rfl rfl (by simp) (by simp [noIds]) fun σ => ?_
  (try ((first | with_reducible refine zo ?_ | with_reducible refine zt ?_ | with_reducible refine zu ?_); simp [zah])); repeat' (first | ((first | refine zf ?_ | refine zg ?_ | refine dN (by decide +kernel) ?_ | (refine za ?_ ?_ <;> (intro hg; simp only [hg])) | fail) <;> simp [zah]) | refine ze ?_ | refine zd ?_ | (refine zA ?_; simp only [zB]; try simp) | ((first | refine zm (by simp) ?_ | refine zv (by simp) (by simp) (by simp (maxDischargeDepth := 30) [zah]) ?_ | fail); simp) | (refine zc (fun hc => ?_) (fun hc => ?_) <;> try simp at hc) | fail)
  all_goals (simp_all [zeW] <;> intros <;> omega)
theorem isNaN_calls (a : Int) : PCalls Tryz.prog 148 [.raw (.int .i64 a)] (.raw (.bool false)) := by
  refine zE Tryz.func148 rfl (N := 6) rfl rfl (by simp) (by simp [noIds]) fun σ => ?_
  exact zga
def cmpI (a b : Int) : Int := if a < b then -1 else if b < a then 1 else 0
theorem compare_calls (a b : Int) : PCalls Tryz.prog 146 [.raw (.int .i64 a), .raw (.int .i64 b)] (.raw (.int .i64 (cmpI a b))) := by
  refine zE Tryz.func146 rfl (N := 20) rfl rfl (by simp) (by simp [noIds]) fun σ => ?_
  refine zaR ?_
  refine PCalls.use (isNaN_calls a) ?_
  refine zaR ?_
  refine PCalls.use (isNaN_calls b) ?_
  (try ((first | with_reducible refine zo ?_ | with_reducible refine zt ?_ | with_reducible refine zu ?_); simp [cmpI])); repeat' (first | ((first | refine zf ?_ | refine zg ?_ | refine dN (by decide +kernel) ?_ | (refine za ?_ ?_ <;> (intro hg; simp only [hg])) | fail) <;> simp [cmpI]) | refine ze ?_ | refine zd ?_ | (refine zA ?_; simp only [zB]; try simp) | ((first | refine zm (by simp) ?_ | refine zv (by simp) (by simp) (by simp (maxDischargeDepth := 30) [cmpI]) ?_ | fail); simp) | (refine zc (fun hc => ?_) (fun hc => ?_) <;> try simp at hc) | fail)
  all_goals (unfold cmpI; (repeat' split) <;> omega)
end Go.Proofs.YtpboabpapgimoaaGreat.Av
namespace Go.Proofs.YtpboabpapgimoaaGreat.Av
open Go
set_option linter.unusedSimpArgs false
set_option linter.unusedVariables false
set_option maxRecDepth 100000
set_option maxHeartbeats 1000000
set_option pp.maxSteps 300
def idxOf {T : Type} (p : T → Bool) (z : List T) : Int := if z.any p then (z.findIdx p : Nat) else -1
theorem idxOf_here {T : Type} {p : T → Bool} {z : List T} {i : Nat} {x : T} (hx : z[i]? = some x) (hp : p x = true) (hn : ∀ j, j < i → ∀ y, z[j]? = some y → p y = false) : idxOf p z = i := by
  unfold idxOf
  obtain ⟨hi, he⟩ := List.getElem?_eq_some_iff.1 hx
  rw [if_pos (List.any_eq_true.2 ⟨x, List.mem_of_getElem? hx, hp⟩)]
  congr 1
  rw [List.findIdx_eq hi]
  refine ⟨by rw [he]; exact hp, fun j hj => ?_⟩
  exact hn j hj _ (List.getElem?_eq_getElem (by omega))
theorem idxOf_none {T : Type} {p : T → Bool} {z : List T} (hn : ∀ j, j < z.length → ∀ y, z[j]? = some y → p y = false) : idxOf p z = -1 ∧ z.any p = false := by
  have : z.any p = false := by
    rw [List.any_eq_false]
    intro x hx
    obtain ⟨j, hj⟩ := List.getElem?_of_mem hx
    simp [hn j (List.getElem?_eq_some_iff.1 hj).1 x hj]
  exact ⟨by unfold idxOf; rw [this]; rfl, this⟩
theorem idxOf_any {T : Type} (p : T → Bool) (z : List T) : decide (0 ≤ idxOf p z) = z.any p := by
  unfold idxOf
  cases z.any p <;> simp
theorem zJ (r : Ru) : (zah r).cells = [.raw (.int .i64 r.id), .raw (.int .i64 r.dev), .raw (.int .i64 r.prio), .raw (.int .i64 r.kind), .raw (.int .u32 r.r.lo), .raw (.int .u32 r.r.hi), .raw (.int .i64 r.port)] := rfl
theorem zjx (n : Int) : (iAV n).cells = [.raw (.int .i64 n)] := rfl
theorem zkB {g : FuncId} {caps : List AV} {p : Ru → Bool} (z : List Ru) (fz : Bool) (hl : z.length < 2 ^ 60) (hg : ∀ r ∈ z, PCalls Tryz.prog g (zah r :: caps) (.raw (.bool (p r)))) :
    PCalls Tryz.prog 144 [zz z fz, .fn (.func g) [] caps] (.raw (.int .i64 (idxOf p z))) := by
  refine zE Tryz.func144 rfl (N := 19) rfl rfl (by simp) (by simp [noIds]) fun σ => ?_
  have FF := zz.eq_1; refine zx ?_; clear FF
  refine zU (fun n A τ => τ = σ ∧ A 0 = zz z fz ∧ A 1 = .fn (.func g) [] caps ∧ A 7 = .raw (.int .i64 z.length) ∧ ∃ i : Nat, A 8 = .raw (.int .i64 i) ∧ i ≤ z.length ∧ n = z.length - i ∧ ∀ j, j < i → ∀ y, z[j]? = some y → p y = false) z.length ?_ ?_
  · exact ⟨rfl, by simp [zz], by simp, by simp, 0, by simp, by omega, by omega, fun j h => by omega⟩
  rintro n A τ ⟨rfl, a0, a1, a7, i, a8, hi, rfl, hn⟩ I1 hI1
  by_cases hlt : i < z.length
  · have hx : z[i]? = some z[i] := List.getElem?_eq_getElem hlt
    have w1 : IntKind.i64.wrap ((i : Int) + 1) = ((i + 1 : Nat) : Int) := by rw [zh (by omega) (by omega)]; omega
    have hr : AV.agg [.raw (.int .i64 z[i].id), .raw (.int .i64 z[i].dev), .raw (.int .i64 z[i].prio), .raw (.int .i64 z[i].kind), .raw (.int .u32 z[i].r.lo), .raw (.int .u32 z[i].r.hi), .raw (.int .i64 z[i].port)] = zah z[i] := rfl
    (try ((first | with_reducible refine zo ?_ | with_reducible refine zt ?_ | with_reducible refine zu ?_); simp [zz, a0, a1, a7, a8, hlt, hx, zJ, hr])); repeat' (first | ((first | refine zf ?_ | refine zg ?_ | refine dN (by decide +kernel) ?_ | (refine za ?_ ?_ <;> (intro hg; simp only [hg])) | fail) <;> simp [zz, a0, a1, a7, a8, hlt, hx, zJ, hr]) | refine ze ?_ | refine zd ?_ | (refine zA ?_; simp only [zB]; try simp) | ((first | refine zm (by simp) ?_ | refine zv (by simp) (by simp) (by simp (maxDischargeDepth := 30) [zz, a0, a1, a7, a8, hlt, hx, zJ, hr]) ?_ | fail); simp) | (refine zc (fun hc => ?_) (fun hc => ?_) <;> try simp at hc) | fail)
    refine PCalls.use (hg z[i] (List.getElem_mem _)) ?_
    cases hp : p z[i] with
    | true =>
      have FF := fI zz.eq_1 (fI @a0 (fI @a1 (fI @a7 (fI @a8 (fI @hlt (fI @hx (fI @zJ @hr))))))); refine zx ?_; clear FF
      exact (idxOf_here hx hp hn).symm
    | false =>
      have FF := fI zz.eq_1 (fI @a0 (fI @a1 (fI @a7 (fI @a8 (fI @hlt (fI @hx (fI @zJ @hr))))))); refine zx ?_; clear FF
      refine hI1 (z.length - (i + 1)) _ _ (by omega) ⟨rfl, by simp [a0], by simp [a1], by simp [a7], i + 1, by simp [w1], by omega, rfl, fun j hj y hy => ?_⟩
      by_cases e : j = i
      · subst e; rw [hx] at hy; injection hy with hy; subst hy; exact hp
      · exact hn j (by omega) y hy
  · have hi' : i = z.length := by omega
    subst hi'
    have w1 : IntKind.i64.wrap (-1) = -1 := zh (by omega) (by omega)
    have FF := fI zz.eq_1 (fI @a0 (fI @a1 (fI @a7 (fI @a8 @w1)))); refine zx ?_; clear FF
    exact (idxOf_none hn).1.symm
theorem zjy {g : FuncId} {caps : List AV} {p : Int → Bool} (z : List Int) (fz : Bool) (hl : z.length < 2 ^ 60) (hg : ∀ r ∈ z, PCalls Tryz.prog g (iAV r :: caps) (.raw (.bool (p r)))) :
    PCalls Tryz.prog 86 [zp z fz, .fn (.func g) [] caps] (.raw (.int .i64 (idxOf p z))) := by
  refine zE Tryz.func86 rfl (N := 19) rfl rfl (by simp) (by simp [noIds]) fun σ => ?_
  have FF := zp.eq_1; refine zx ?_; clear FF
  refine zU (fun n A τ => τ = σ ∧ A 0 = zp z fz ∧ A 1 = .fn (.func g) [] caps ∧ A 7 = .raw (.int .i64 z.length) ∧ ∃ i : Nat, A 8 = .raw (.int .i64 i) ∧ i ≤ z.length ∧ n = z.length - i ∧ ∀ j, j < i → ∀ y, z[j]? = some y → p y = false) z.length ?_ ?_
  · exact ⟨rfl, by simp [zp], by simp, by simp, 0, by simp, by omega, by omega, fun j h => by omega⟩
  rintro n A τ ⟨rfl, a0, a1, a7, i, a8, hi, rfl, hn⟩ I1 hI1
  by_cases hlt : i < z.length
  · have hx : z[i]? = some z[i] := List.getElem?_eq_getElem hlt
    have w1 : IntKind.i64.wrap ((i : Int) + 1) = ((i + 1 : Nat) : Int) := by rw [zh (by omega) (by omega)]; omega
    have hr : AV.raw (.int .i64 z[i]) = iAV z[i] := rfl
    have FF := fI zp.eq_1 (fI @a0 (fI @a1 (fI @a7 (fI @a8 (fI @hlt (fI @hx (fI @zjx @hr))))))); refine zx ?_; clear FF
    refine PCalls.use (hg z[i] (List.getElem_mem _)) ?_
    cases hp : p z[i] with
    | true =>
      have FF := fI zp.eq_1 (fI @a0 (fI @a1 (fI @a7 (fI @a8 (fI @hlt (fI @hx (fI @zjx @hr))))))); refine zx ?_; clear FF
      exact (idxOf_here hx hp hn).symm
    | false =>
      have FF := fI zp.eq_1 (fI @a0 (fI @a1 (fI @a7 (fI @a8 (fI @hlt (fI @hx (fI @zjx @hr))))))); refine zx ?_; clear FF
      refine hI1 (z.length - (i + 1)) _ _ (by omega) ⟨rfl, by simp [a0], by simp [a1], by simp [a7], i + 1, by simp [w1], by omega, rfl, fun j hj y hy => ?_⟩
      by_cases e : j = i
      · subst e; rw [hx] at hy; injection hy with hy; subst hy; exact hp
      · exact hn j (by omega) y hy
  · have hi' : i = z.length := by omega
    subst hi'
    have w1 : IntKind.i64.wrap (-1) = -1 := zh (by omega) (by omega)
    have FF := fI zp.eq_1 (fI @a0 (fI @a1 (fI @a7 (fI @a8 @w1)))); refine zx ?_; clear FF
    exact (idxOf_none hn).1.symm
theorem zhs {g : FuncId} {caps : List AV} {p : Int → Bool} (z : List Int) (fz : Bool) (hl : z.length < 2 ^ 60) (hg : ∀ r ∈ z, PCalls Tryz.prog g (iAV r :: caps) (.raw (.bool (p r)))) :
    PCalls Tryz.prog 58 [zp z fz, .fn (.func g) [] caps] (.raw (.bool (z.any p))) := by
  refine zE Tryz.func58 rfl (N := 9) rfl rfl (by simp) (by simp [noIds]) fun σ => ?_
  refine zaR ?_
  refine PCalls.use (zjy z fz hl hg) ?_
  have := idxOf_any p z
  refine zaR ?_
  simpa using this
end Go.Proofs.YtpboabpapgimoaaGreat.Av
namespace Go.Proofs.YtpboabpapgimoaaGreat.Av
open Go
set_option linter.unusedSimpArgs false
set_option linter.unusedVariables false
set_option maxRecDepth 100000
set_option maxHeartbeats 2000000
set_option pp.maxSteps 300
end Go.Proofs.YtpboabpapgimoaaGreat.Av
namespace Go.Proofs.YtpboabpapgimoaaGreat.Av
open Go
set_option linter.unusedSimpArgs false
set_option linter.unusedVariables false
set_option maxRecDepth 100000
set_option maxHeartbeats 2000000
set_option pp.maxSteps 300
def ptV (p : Pt) : Value := .agg #[.int .i64 p.dev, .int .i64 p.port]
def enc (m : List (Pt × Pt)) : List (Value × AV) := m.map fun e => (ptV e.1, zag e.2)
def upd (m : List (Pt × Pt)) (k v : Pt) : List (Pt × Pt) := m.filter (fun e => decide (k ≠ e.1)) ++ [(k, v)]
theorem zoo (k q : Pt) : za6 Tryz.prog 4 52 (zag k) (zY (ptV q)) = some (decide (k = q)) := by
  have : decide (k = q) = (decide (k.dev = q.dev) && decide (k.port = q.port)) := by
    cases k; cases q; simp
  rw [this]
  simp [za6, zag, ptV, zc5, zbD, zfx, zay]
theorem zh5 (k : Pt) : ∀ m : List (Pt × Pt), zbz Tryz.prog 52 (zag k) (enc m) = some (enc (m.filter fun e => decide (k = e.1)), enc (m.filter fun e => decide (k ≠ e.1)))
  | [] => rfl
  | e :: m => by
    have ih := zh5 k m
    simp only [enc, List.map_cons] at ih ⊢
    simp only [zbz, zoo]
    by_cases h : k = e.1
    · simp [h] at ih ⊢; rw [ih]
    · simp [h] at ih ⊢; rw [ih]
def zd5 (m : List (Pt × Pt)) : Prop := (m.map (·.1)).Nodup
theorem zmQ {m : List (Pt × Pt)} (h : zd5 m) (k : Pt) : (m.filter fun e => decide (k = e.1)) = [] ∨ ∃ v, (m.filter fun e => decide (k = e.1)) = [(k, v)] := by
  induction m with
  | nil => exact .inl rfl
  | cons e m ih =>
    have h' := List.nodup_cons.1 (show (e.1 :: m.map (·.1)).Nodup from h)
    by_cases hk : k = e.1
    · right
      refine ⟨e.2, ?_⟩
      have : (m.filter fun e => decide (k = e.1)) = [] := by
        rw [List.filter_eq_nil_iff]
        intro x hx hkx
        simp only [decide_eq_true_eq] at hkx
        exact h'.1 (by rw [← hk, hkx]; exact List.mem_map.2 ⟨x, hx, rfl⟩)
      rw [List.filter_cons_of_pos (by simp [hk]), this, hk]
    · rw [List.filter_cons_of_neg (by simpa using hk)]
      exact ih h'.2
theorem zh6 {m : List (Pt × Pt)} (h : zd5 m) (k v : Pt) : zd5 (upd m k v) := by
  unfold zd5 upd at *
  rw [List.map_append, List.nodup_append]
  refine ⟨h.sublist (List.Sublist.map _ List.filter_sublist), by simp, fun a ha b hb e => ?_⟩
  simp only [List.map_cons, List.map_nil, List.mem_singleton] at hb
  subst hb; subst e
  obtain ⟨x, hx, rfl⟩ := List.mem_map.1 ha
  simpa using (List.mem_filter.1 hx).2
theorem zp5 (k : Pt) : Instr.sameBits 10000 (ptV k) (ptV k) = true := by
  have : (10000 : Nat) = 9999 + 1 := rfl
  rw [this]
  simp [ptV, Instr.sameBits]
theorem zlx (k : Pt) : zfy Tryz.prog 52 (zag k) = true := by simp [zfy, zag, zbD]
theorem zpU {m : z7} {i : Id} {L : List (Pt × Pt)} (hm : m i = some (.map (enc L))) (hk : zd5 L) (k v : Pt) : zaV Tryz.prog m 155 (.mp i) (zag k) (zag v) = some (.wrm i (enc (upd L k v))) := by
  have hkv : zio (zag k) = some (ptV k) := rfl
  unfold zaV
  simp only [zon, hkv, hm, zlx, zpS, and_self, if_true, zh5]
  rcases zmQ hk k with h | ⟨w, h⟩
  · rw [h]
    simp [enc, upd]
  · rw [h]
    simp [enc, upd, zp5]
theorem zqY {m : z7} {i : Id} {L : List (Pt × Pt)} (hm : m i = some (.map (enc L))) (hk : zd5 L) (k : Pt) :
    zbe Tryz.prog m 155 (.mp i) (zag k) true = some (match L.find? (fun e => decide (k = e.1)) with | some e => .tup [zag e.2, .raw (.bool true)] | none => .tup [zag ⟨0, 0⟩, .raw (.bool false)]) := by
  unfold zbe
  simp only [zon, hm, zlx, zpS, and_self, if_true, zh5]
  have hf : L.find? (fun e => decide (k = e.1)) = (L.filter fun e => decide (k = e.1)).head? := by simp
  rw [hf]
  rcases zmQ hk k with h | ⟨w, h⟩
  · rw [h]; simp [enc, zag, zay]
  · rw [h]; simp [enc]
def zbU (L : List Lk) : List (Pt × Pt) := L.foldl (fun m l => upd (upd m l.a l.b) l.b l.a) []
theorem zgb (L : List Lk) : zd5 (zbU L) := by
  have : ∀ (L : List Lk) m, zd5 m → zd5 (L.foldl (fun m l => upd (upd m l.a l.b) l.b l.a) m) := by
    intro L
    induction L with
    | nil => exact fun m h => h
    | cons l L ih => exact fun m h => ih _ (zh6 (zh6 h _ _) _ _)
  exact this L [] (by simp [zd5])
theorem zno {L : List Lk} {k : Nat} {l : Lk} (h : L[k]? = some l) : zbU (L.take (k + 1)) = upd (upd (zbU (L.take k)) l.a l.b) l.b l.a := by
  rw [List.take_add_one, h]
  simp [zbU, List.foldl_append]
theorem zop (m : List (Pt × Pt)) : zcI ((enc m).map (·.2)) = true := by
  induction m with
  | nil => rfl
  | cons e m ih => simp only [enc, List.map_cons, zcI] at ih ⊢; rw [ih]; rfl
theorem zdf (l : Lk) : (zh4 l).cells = [.raw (.int .i64 l.a.dev), .raw (.int .i64 l.a.port), .raw (.int .i64 l.b.dev), .raw (.int .i64 l.b.port)] := rfl
theorem zjz (d p : Int) : AV.agg [.raw (.int .i64 d), .raw (.int .i64 p)] = zag ⟨d, p⟩ := rfl
theorem zly (t : Tp) (f : Fl) (hl : t.links.length < 2 ^ 42) : MCalls Tryz.prog 106 [zbZ t f] 0 (.map (enc (zbU t.links))) .mp := by
  refine znk (zop _) fun σ => ?_
  refine zaL Tryz.func106 rfl (N := 26) rfl rfl (by simp) ?_
  have FF := fI zbZ.eq_1 (fI zF.eq_1 zp.eq_1); refine zx ?_; clear FF
  refine zU (fun n A τ => Ext σ τ ∧ A 3 = .mp ⟨6, σ.nx 6, 0⟩ ∧ A 8 = zF t.links f.l ∧ A 9 = .raw (.int .i64 t.links.length) ∧ ∃ k : Nat, A 10 = .raw (.int .i64 k) ∧ k ≤ t.links.length ∧ τ.m ⟨6, σ.nx 6, 0⟩ = some (.map (enc (zbU (t.links.take k)))) ∧ n = t.links.length - k) t.links.length ?_ ?_
  · exact ⟨by simp (maxDischargeDepth := 30), by simp [St.new], by simp [zF], by simp, 0, by simp, by omega, by simp [St.new, zbU, enc], by omega⟩
  rintro n A τ ⟨hE, a3, a8, a9, k, a10, hk, hm, rfl⟩ I1 hI1
  have f6 : σ.m ⟨6, σ.nx 6, 0⟩ = none := zb _ _ _
  by_cases hlt : k < t.links.length
  · have hx : t.links[k]? = some t.links[k] := List.getElem?_eq_getElem hlt
    have w1 : IntKind.i64.wrap ((k : Int) + 1) = ((k + 1 : Nat) : Int) := by rw [zh (by omega) (by omega)]; omega
    have hj := zno hx
    have fa : AV.agg [.raw (.int .i64 t.links[k].a.dev), .raw (.int .i64 t.links[k].a.port)] = zag t.links[k].a := rfl
    have fb : AV.agg [.raw (.int .i64 t.links[k].b.dev), .raw (.int .i64 t.links[k].b.port)] = zag t.links[k].b := rfl
    have hu1 : ∀ m : z7, m ⟨6, σ.nx 6, 0⟩ = some (.map (enc (zbU (t.links.take k)))) → zaV Tryz.prog m 155 (.mp ⟨6, σ.nx 6, 0⟩) (zag t.links[k].a) (zag t.links[k].b) = some (.wrm ⟨6, σ.nx 6, 0⟩ (enc (upd (zbU (t.links.take k)) t.links[k].a t.links[k].b))) := fun m h => zpU h (zgb _) _ _
    have hu2 : ∀ m : z7, m ⟨6, σ.nx 6, 0⟩ = some (.map (enc (upd (zbU (t.links.take k)) t.links[k].a t.links[k].b))) → zaV Tryz.prog m 155 (.mp ⟨6, σ.nx 6, 0⟩) (zag t.links[k].b) (zag t.links[k].a) = some (.wrm ⟨6, σ.nx 6, 0⟩ (enc (zbU (t.links.take (k + 1))))) := fun m h => by
      rw [hj]; exact zpU h (zh6 (zgb _) _ _) _ _
    clear hj
    (try ((first | with_reducible refine zo ?_ | with_reducible refine zt ?_ | with_reducible refine zu ?_); simp [a3, a8, a9, a10, hlt, hx, hm, zF, zdf, fa, fb, hu1, hu2, w1])); repeat' (first | ((first | refine zf ?_ | refine zg ?_ | refine dN (by decide +kernel) ?_ | (refine za ?_ ?_ <;> (intro hg; simp only [hg])) | fail) <;> simp [a3, a8, a9, a10, hlt, hx, hm, zF, zdf, fa, fb, hu1, hu2, w1]) | refine ze ?_ | refine zd ?_ | (refine zA ?_; simp only [zB]; try simp) | ((first | refine zm (by simp) ?_ | refine zv (by simp) (by simp) (by simp (maxDischargeDepth := 30) [a3, a8, a9, a10, hlt, hx, hm, zF, zdf, fa, fb, hu1, hu2, w1]) ?_ | fail); simp) | (refine zc (fun hc => ?_) (fun hc => ?_) <;> try simp at hc) | fail)
    exact hI1 (t.links.length - (k + 1)) _ _ (by omega) ⟨Ext.setF (Ext.setF (by simp [hE]) f6) f6, by simp [a3], by simp [a8, zF], by simp [a9], k + 1, by simp, by omega, by simp [St.set, St.new, hm], rfl⟩
  · have : k = t.links.length := by omega
    subst this
    rw [List.take_length] at hm
    have FF := fI @a3 (fI @a8 (fI @a9 @a10)); refine goC ?_; clear FF
    exact zT (.inr rfl) (by simp) ⟨_, rfl, hm, f6, hE⟩
def zcb (t : Tp) (p : Pt) : Option Pt := ((zbU t.links).find? fun e => decide (p = e.1)).map (·.2)
theorem ziY (t : Tp) (f : Fl) (p : Pt) (hl : t.links.length < 2 ^ 42) :
    PCalls Tryz.prog 80 [zbZ t f, zag p] (.tup [zag ((zcb t p).getD ⟨0, 0⟩), .raw (.bool (zcb t p).isSome)]) := by
  have hj := zly t f hl
  refine zE Tryz.func80 rfl (N := 17) rfl rfl (by simp) (by simp [noIds, zag]) fun σ => ?_
  have hpc : ∀ q : Pt, (zag q).cells = [.raw (.int .i64 q.dev), .raw (.int .i64 q.port)] := fun q => rfl
  have htc : (zbZ t f).cells = [zp t.ports f.p, zF t.links f.l] := rfl
  have hfo : ∀ q : Pt, AV.agg [.raw (.int .i64 q.dev), .raw (.int .i64 q.port)] = zag q := fun q => rfl
  have hft : AV.agg [zp t.ports f.p, zF t.links f.l] = zbZ t f := rfl
  have ho1 : cellOK (zp t.ports f.p) = true := rfl
  have ho2 : cellOK (zF t.links f.l) = true := rfl
  simp only [cellOK] at ho1 ho2
  have hlk : ∀ m : z7, ∀ i, m i = some (.map (enc (zbU t.links))) → zbe Tryz.prog m 155 (.mp i) (zag p) true = some (.tup [zag ((zcb t p).getD ⟨0, 0⟩), .raw (.bool (zcb t p).isSome)]) := fun m i h => by
    rw [zqY h (zgb _)]
    unfold zcb
    cases (zbU t.links).find? fun e => decide (p = e.1) <;> rfl
  obtain ⟨q, hq⟩ : ∃ q, (zcb t p).getD ⟨0, 0⟩ = q := ⟨_, rfl⟩
  obtain ⟨b, hb⟩ : ∃ b, (zcb t p).isSome = b := ⟨_, rfl⟩
  rw [hq, hb] at hlk ⊢
  have FF := fI @hpc (fI @htc (fI @hfo (fI @hft (fI @ho1 @ho2)))); refine zx ?_; clear FF
  refine zbL (fun o => o.dst == some 10) zdw (by decide +kernel) ?_
  have FF := fI @hpc (fI @htc (fI @hfo (fI @hft (fI @ho1 @ho2)))); refine zx ?_; clear FF
  refine .inr ⟨_, _, _, hj, ?_⟩
  have hpp : ∀ q : Pt, setPart (AV.agg [.raw (.int .i64 0), .raw (.int .i64 0)]) 0 [.raw (.int .i64 q.dev), .raw (.int .i64 q.port)] = zag q := fun q => rfl
  have hpq : ∀ q : Pt, setPart (zag ⟨0, 0⟩) 0 [.raw (.int .i64 q.dev), .raw (.int .i64 q.port)] = zag q := fun q => rfl
  have FF := fI @hpc (fI @htc (fI @hfo (fI @hft (fI @ho1 (fI @ho2 (fI @hlk (fI @hpp @hpq))))))); refine goC ?_; clear FF
  refine zv (.inr rfl) rfl (Ext.setF (by simp (maxDischargeDepth := 30)) ?_) ?_
  · have := zb σ 4 2
    simpa [St.new] using this
  · simp [St.set, St.new, hfo, hpc]
end Go.Proofs.YtpboabpapgimoaaGreat.Av
namespace Go.Proofs.YtpboabpapgimoaaGreat.Av
open Go
set_option linter.unusedSimpArgs false
set_option linter.unusedVariables false
set_option maxRecDepth 100000
set_option maxHeartbeats 2000000
set_option pp.maxSteps 300
def zjA (t : Tp) (l : Lk) : Bool := !hasB t l.a || (!hasB t l.b || decide (l.a = l.b))
theorem zcL (t : Tp) (f : Fl) : (zbZ t f).cells = [zp t.ports f.p, zF t.links f.l] := rfl
theorem zfD (t : Tp) (f : Fl) : AV.agg [zp t.ports f.p, zF t.links f.l] = zbZ t f := rfl
theorem zcA (r : Ru) : AV.agg [.raw (.int .i64 r.dev), .raw (.int .i64 r.port)] = zag ⟨r.dev, r.port⟩ := rfl
def zgc (t : Tp) (l : List Ru) : Bool := !(l.any fun r => !hasB t ⟨r.dev, r.port⟩)
def zh7 (t : Tp) : Bool := t.ports.any fun n => decide (n < 1) || decide (4 < n)
def ziZ (t : Tp) : Bool := !decide (t.ports.length = 0) && (!decide (8 < t.ports.length) && (!decide (16 < t.links.length) && (!zh7 t && (!t.links.any (zjA t) && decide ((zbU t.links).length = 2 * t.links.length)))))
end Go.Proofs.YtpboabpapgimoaaGreat.Av
namespace Go.Proofs.YtpboabpapgimoaaGreat.Av
open Go
set_option linter.unusedSimpArgs false
set_option linter.unusedVariables false
set_option maxRecDepth 100000
set_option maxHeartbeats 2000000
set_option pp.maxSteps 300
theorem zdg {P : Program} {op : BinOp} {t : TypeId} {a b : Value} : zcE P op t (.raw a) (.raw b) = zgE P op t (.raw a) (.raw b) := rfl
end Go.Proofs.YtpboabpapgimoaaGreat.Av
namespace Go.Proofs.YtpboabpapgimoaaGreat.Av
open Go
set_option linter.unusedSimpArgs false
set_option linter.unusedVariables false
set_option maxRecDepth 100000
set_option maxHeartbeats 2000000
set_option pp.maxSteps 300
theorem refHas_calls (t : Tp) (f : Fl) (p : Pt) (hl : t.ports.length < 2 ^ 60) : PCalls Tryz.prog 84 [zbZ t f, zag p] (.raw (.bool (hasB t p))) := by
  refine zE Tryz.func84 rfl (N := 32) rfl rfl (by simp) (by simp [noIds]) fun σ => ?_
  by_cases h1 : 0 ≤ p.dev
  · obtain ⟨k, hk⟩ : ∃ k : Nat, p.dev = k := ⟨p.dev.toNat, by omega⟩
    by_cases h2 : k < t.ports.length
    · have hx : t.ports[k]? = some t.ports[k] := List.getElem?_eq_getElem h2
      (try ((first | with_reducible refine zo ?_ | with_reducible refine zt ?_ | with_reducible refine zu ?_); simp [zbZ, zag, zp, zF, iAV, hk, h2, hx])); repeat' (first | ((first | refine zf ?_ | refine zg ?_ | refine dN (by decide +kernel) ?_ | (refine za ?_ ?_ <;> (intro hg; simp only [hg])) | fail) <;> simp [zbZ, zag, zp, zF, iAV, hk, h2, hx]) | refine ze ?_ | refine zd ?_ | (refine zA ?_; simp only [zB]; try simp) | ((first | refine zm (by simp) ?_ | refine zv (by simp) (by simp) (by simp (maxDischargeDepth := 30) [zbZ, zag, zp, zF, iAV, hk, h2, hx]) ?_ | fail); simp) | (refine zc (fun hc => ?_) (fun hc => ?_) <;> try simp at hc) | fail)
      all_goals (simp_all [hasB] <;> intros <;> omega)
    · have hx : t.ports[k]? = none := List.getElem?_eq_none (by omega)
      have FF := fI zbZ.eq_1 (fI zag.eq_1 (fI zp.eq_1 (fI zF.eq_1 (fI iAV.eq_1 (fI @hk (fI @h2 @hx)))))); refine zx ?_; clear FF
      all_goals (simp_all [hasB] <;> intros <;> omega)
  · have FF := fI zbZ.eq_1 (fI zag.eq_1 (fI zp.eq_1 (fI zF.eq_1 (fI iAV.eq_1 @h1)))); refine zx ?_; clear FF
    all_goals (simp_all [hasB] <;> intros <;> omega)
theorem zkC (t : Tp) (f : Fl) (l : List Ru) (g : Bool) (hl : t.ports.length < 2 ^ 60) (hl2 : l.length < 2 ^ 60) : PCalls Tryz.prog 57 [zbZ t f, zz l g] (.raw (.bool (zgc t l))) := by
  refine zE Tryz.func57 rfl (N := 28) rfl rfl (by simp) (by simp [noIds]) fun σ => ?_
  have ho1 : cellOK (zp t.ports f.p) = true := rfl
  have ho2 : cellOK (zF t.links f.l) = true := rfl
  simp only [cellOK] at ho1 ho2
  have FF := fI @zcL (fI @ho1 @ho2); refine zx ?_; clear FF
  refine zU (fun n A τ => τ = σ.new 2 2 (.buf [zbZ t f]) ∧ A 1 = zz l g ∧ A 2 = .rp ⟨2, σ.nx 2, 2⟩ 0 0 ∧ ∃ i : Nat, A 5 = .raw (.int .i64 i) ∧ i ≤ l.length ∧ n = l.length - i ∧ ∀ r ∈ l.take i, hasB t ⟨r.dev, r.port⟩ = true) l.length ?_ ?_
  · exact ⟨rfl, by simp, by simp, 0, by simp, by omega, by omega, by simp⟩
  rintro n A τ ⟨rfl, a1, a2, i, a5, hi, rfl, hok⟩ I1 hI1
  by_cases hlt : i < l.length
  · have hx : l[i]? = some l[i] := List.getElem?_eq_getElem hlt
    have w1 : IntKind.i64.wrap ((i : Int) + 1) = ((i + 1 : Nat) : Int) := by rw [zh (by omega) (by omega)]; omega
    obtain ⟨b, hb⟩ : ∃ b, hasB t ⟨l[i].dev, l[i].port⟩ = b := ⟨_, rfl⟩
    have hc := hb ▸ refHas_calls t f ⟨l[i].dev, l[i].port⟩ hl
    (try ((first | with_reducible refine zo ?_ | with_reducible refine zt ?_ | with_reducible refine zu ?_); simp [zz, a1, a2, a5, hlt, hx, zcL, zfD, zJ, zcA, ho1, ho2, w1])); repeat' (first | ((first | refine zf ?_ | refine zg ?_ | refine dN (by decide +kernel) ?_ | (refine za ?_ ?_ <;> (intro hg; simp only [hg])) | fail) <;> simp [zz, a1, a2, a5, hlt, hx, zcL, zfD, zJ, zcA, ho1, ho2, w1]) | refine ze ?_ | refine zd ?_ | (refine zA ?_; simp only [zB]; try simp) | ((first | refine zm (by simp) ?_ | refine zv (by simp) (by simp) (by simp (maxDischargeDepth := 30) [zz, a1, a2, a5, hlt, hx, zcL, zfD, zJ, zcA, ho1, ho2, w1]) ?_ | fail); simp) | (refine zc (fun hc => ?_) (fun hc => ?_) <;> try simp at hc) | fail)
    refine PCalls.use hc ?_
    cases b with
    | true =>
      have FF := fI zz.eq_1 (fI @a1 (fI @a2 (fI @a5 (fI @hlt (fI @hx (fI @zcL (fI @zfD (fI @zJ (fI @zcA (fI @ho1 (fI @ho2 @w1))))))))))); refine zx ?_; clear FF
      refine hI1 (l.length - (i + 1)) _ _ (by omega) ⟨by simp, by simp [a1, zz], by simp [a2], i + 1, by simp [w1], by omega, rfl, fun r hr => ?_⟩
      rw [List.take_add_one, hx] at hr
      rcases List.mem_append.1 hr with hr | hr
      · exact hok r hr
      · simp at hr; subst hr; exact hb
    | false =>
      have hf : zgc t l = false := by
        unfold zgc
        rw [List.any_eq_true.2 ⟨l[i], List.getElem_mem _, by simp [hb]⟩]; rfl
      have FF := fI zz.eq_1 (fI @a1 (fI @a2 (fI @a5 (fI @hlt (fI @hx (fI @zcL (fI @zfD (fI @zJ (fI @zcA (fI @ho1 (fI @ho2 @w1))))))))))); refine zx ?_; clear FF
      exact hf
  · have : i = l.length := by omega
    subst this
    rw [List.take_length] at hok
    have hf : zgc t l = true := by
      unfold zgc
      rw [List.any_eq_false.2 (fun r hr => by simp [hok r hr])]; rfl
    have FF := fI zz.eq_1 (fI @a1 (fI @a2 @a5)); refine zx ?_; clear FF
    exact hf
end Go.Proofs.YtpboabpapgimoaaGreat.Av
namespace Go.Proofs.YtpboabpapgimoaaGreat.Av
open Go
set_option linter.unusedSimpArgs false
set_option linter.unusedVariables false
set_option maxRecDepth 100000
set_option maxHeartbeats 2000000
set_option pp.maxSteps 2500
def zlz : List Lk → Pt → Option Pt
  | [], _ => none
  | l :: ls, p => if l.a = p then some l.b else if l.b = p then some l.a else zlz ls p
end Go.Proofs.YtpboabpapgimoaaGreat.Av
namespace Go.Proofs.YtpboabpapgimoaaGreat.Av
open Go
set_option linter.unusedSimpArgs false
set_option linter.unusedVariables false
set_option maxRecDepth 100000
set_option maxHeartbeats 2000000
set_option pp.maxSteps 600
structure Tk where
  path : List Int
  out : Int
  last : Pt
deriving DecidableEq
def zdL (t : Tk) (f : Bool) : AV := .agg [zp t.path f, .raw (.int .i64 t.out), .raw (.int .i64 t.last.dev), .raw (.int .i64 t.last.port)]
end Go.Proofs.YtpboabpapgimoaaGreat.Av
namespace Go.Proofs.YtpboabpapgimoaaGreat.Av
open Go
set_option linter.unusedSimpArgs false
set_option linter.unusedVariables false
set_option maxRecDepth 100000
set_option maxHeartbeats 1000000
set_option pp.maxSteps 300
theorem zpq (a b : Int) (f : Bool) : PCalls Tryz.prog 145 [zp [a, b] f] (.raw (.int .i64 (if a = 0 then b else a))) := by
  refine zE Tryz.func145 rfl (N := 18) rfl rfl (by simp) (by simp [noIds]) fun σ => ?_
  have FF := fI zp.eq_1 iAV.eq_1; refine zx ?_; clear FF
  refine zU (fun n A τ => τ = σ ∧ A 3 = .raw (.int .i64 0) ∧ A 6 = zp [a, b] f ∧ A 7 = .raw (.int .i64 2) ∧ ∃ i : Nat, A 8 = .raw (.int .i64 i) ∧ i ≤ 2 ∧ n = 2 - i ∧ (0 < i → a = 0) ∧ (1 < i → b = 0)) 2 ?_ ?_
  · exact ⟨by simp, by simp, by simp [zp, iAV], by simp, 0, by simp, by omega, by omega, fun h => by omega, fun h => by omega⟩
  rintro n A τ ⟨rfl, a3, a6, a7, i, a8, hi, rfl, h0, h1⟩ I1 hI1
  by_cases hlt : i < 2
  · rcases (show i = 0 ∨ i = 1 by omega) with rfl | rfl
    · have w1 : IntKind.i64.wrap 1 = 1 := zh (by omega) (by omega)
      (try ((first | with_reducible refine zo ?_ | with_reducible refine zt ?_ | with_reducible refine zu ?_); simp [a3, a6, a7, a8, zp, iAV, w1])); repeat' (first | ((first | refine zf ?_ | refine zg ?_ | refine dN (by decide +kernel) ?_ | (refine za ?_ ?_ <;> (intro hg; simp only [hg])) | fail) <;> simp [a3, a6, a7, a8, zp, iAV, w1]) | refine ze ?_ | refine zd ?_ | (refine zA ?_; simp only [zB]; try simp) | ((first | refine zm (by simp) ?_ | refine zv (by simp) (by simp) (by simp (maxDischargeDepth := 30) [a3, a6, a7, a8, zp, iAV, w1]) ?_ | fail); simp) | (refine zc (fun hc => ?_) (fun hc => ?_) <;> try simp at hc) | fail)
      · simp_all
      · exact hI1 1 _ _ (by omega) ⟨by simp, by simp [a3], by simp [a6, zp, iAV], by simp [a7], 1, by simp, by omega, by omega, fun _ => by simpa using hc, fun h => by omega⟩
    · have ha := h0 (by omega)
      have w1 : IntKind.i64.wrap 2 = 2 := zh (by omega) (by omega)
      (try ((first | with_reducible refine zo ?_ | with_reducible refine zt ?_ | with_reducible refine zu ?_); simp [a3, a6, a7, a8, zp, iAV, w1])); repeat' (first | ((first | refine zf ?_ | refine zg ?_ | refine dN (by decide +kernel) ?_ | (refine za ?_ ?_ <;> (intro hg; simp only [hg])) | fail) <;> simp [a3, a6, a7, a8, zp, iAV, w1]) | refine ze ?_ | refine zd ?_ | (refine zA ?_; simp only [zB]; try simp) | ((first | refine zm (by simp) ?_ | refine zv (by simp) (by simp) (by simp (maxDischargeDepth := 30) [a3, a6, a7, a8, zp, iAV, w1]) ?_ | fail); simp) | (refine zc (fun hc => ?_) (fun hc => ?_) <;> try simp at hc) | fail)
      · simp_all
      · exact hI1 0 _ _ (by omega) ⟨by simp, by simp [a3], by simp [a6, zp, iAV], by simp [a7], 2, by simp, by omega, by omega, fun _ => ha, fun _ => by simpa using hc⟩
  · have : i = 2 := by omega
    subst this
    have ha := h0 (by omega)
    have hb := h1 (by omega)
    subst ha; subst hb
    have FF := fI @a3 (fI @a6 (fI @a7 (fI @a8 (fI zp.eq_1 iAV.eq_1)))); exact goA
def zd6 (r : Ru) : Bool := decide (1 ≤ r.id) && decide (r.id ≤ 1048576) && (decide (0 ≤ r.dev) && decide (r.dev ≤ 7)) && (decide (0 ≤ r.prio) && decide (r.prio ≤ 1024)) && (decide (0 ≤ r.kind) && decide (r.kind ≤ 3)) &&
  (decide (0 ≤ r.port) && decide (r.port ≤ 3)) && (decide (r.kind = 0) || decide (r.port = 0)) && decide (r.r.lo ≤ r.r.hi)
theorem zgV (r : Ru) (hr : -9223372036854775808 ≤ r.id) (hr2 : r.id < 9223372036854775808) : PCalls Tryz.prog 85 [zah r] (.raw (.bool (zd6 r))) := by
  obtain ⟨b1, h1⟩ : ∃ b, (decide (0 ≤ r.id - 1) && decide (r.id - 1 ≤ 1048575)) = b := ⟨_, rfl⟩
  obtain ⟨b2, h2⟩ : ∃ b, (decide (0 ≤ r.dev) && decide (r.dev ≤ 7)) = b := ⟨_, rfl⟩
  obtain ⟨b3, h3⟩ : ∃ b, (decide (0 ≤ r.prio) && decide (r.prio ≤ 1024)) = b := ⟨_, rfl⟩
  obtain ⟨b4, h4⟩ : ∃ b, (decide (0 ≤ r.kind) && decide (r.kind ≤ 3)) = b := ⟨_, rfl⟩
  obtain ⟨b5, h5⟩ : ∃ b, (decide (0 ≤ r.port) && decide (r.port ≤ 3)) = b := ⟨_, rfl⟩
  obtain ⟨b6, h6⟩ : ∃ b, decide (r.kind = 0) = b := ⟨_, rfl⟩
  obtain ⟨b7, h7⟩ : ∃ b, decide (r.port = 0) = b := ⟨_, rfl⟩
  obtain ⟨b8, h8⟩ : ∃ b, decide (r.r.lo ≤ r.r.hi) = b := ⟨_, rfl⟩
  obtain ⟨X, w⟩ : ∃ X, IntKind.i64.wrap (r.id - 1) = X := ⟨_, rfl⟩
  have hX : (decide (0 ≤ X) && decide (X ≤ 1048575)) = b1 := by
    by_cases q : r.id = -9223372036854775808
    · have e : X = 9223372036854775807 := by rw [← w, q]; decide
      rw [← h1, e, q]; decide
    · rw [← w, zh (by omega) (by omega)]; exact h1
  have c1 := hX ▸ zb7 X 1048575
  have c2 := h2 ▸ zb7 r.dev 7
  have c3 := h3 ▸ zb7 r.prio 1024
  have c4 := h4 ▸ zb7 r.kind 3
  have c5 := h5 ▸ zb7 r.port 3
  have e : zd6 r = (b1 && b2 && b3 && b4 && b5 && (b6 || b7) && b8) := by
    unfold zd6; rw [← h1, h2, h3, h4, h5, h6, h7, h8]
    rw [show decide (0 ≤ r.id - 1) = decide (1 ≤ r.id) by (congr 1; exact propext (by omega)), show decide (r.id - 1 ≤ 1048575) = decide (r.id ≤ 1048576) by (congr 1; exact propext (by omega))]
  rw [e]
  clear e
  refine zE Tryz.func85 rfl (N := 52) rfl rfl (by simp) (by simp [noIds]) fun σ => ?_
  have FF := fI zah.eq_1 (fI @h6 (fI @h7 (fI @h8 @w))); refine zx ?_; clear FF
  repeat' (first | refine PCalls.use c1 ?_ | refine PCalls.use c2 ?_ | refine PCalls.use c3 ?_ | refine PCalls.use c4 ?_ | refine PCalls.use c5 ?_); all_goals (try ((first | with_reducible refine zo ?_ | with_reducible refine zt ?_ | with_reducible refine zu ?_); simp [zah, h6, h7, h8, w])); repeat' (first | ((first | refine zf ?_ | refine zg ?_ | refine dN (by decide +kernel) ?_ | (refine za ?_ ?_ <;> (intro hg; simp only [hg])) | fail) <;> simp [zah, h6, h7, h8, w]) | refine ze ?_ | refine zd ?_ | (refine zA ?_; simp only [zB]; try simp) | ((first | refine zm (by simp) ?_ | refine zv (by simp) (by simp) (by simp (maxDischargeDepth := 30) [zah, h6, h7, h8, w]) ?_ | fail); simp) | (refine zc (fun hc => ?_) (fun hc => ?_) <;> try simp at hc) | fail)
def zgW (x y : Ru) : Int := if cmpI y.prio x.prio = 0 then cmpI x.id y.id else cmpI y.prio x.prio
theorem zmq (x y : Ru) : PCalls Tryz.prog 137 [zah x, zah y] (.raw (.int .i64 (zgW x y))) := by
  refine zE Tryz.func137 rfl (N := 17) rfl rfl (by simp) (by simp [noIds]) fun σ => ?_
  have FF := zah.eq_1; refine zx ?_; clear FF
  refine zbL (fun o => o.dst == some 9 || o.dst == some 14 || o.dst == some 16) zdw (by decide +kernel) ?_
  have FF := zah.eq_1; refine zx ?_; clear FF
  refine .inl ⟨_, .inl (compare_calls _ _), ?_⟩
  have FF := zah.eq_1; refine zx ?_; clear FF
  refine .inl ⟨_, .inl (compare_calls _ _), ?_⟩
  have FF := zah.eq_1; refine zx ?_; clear FF
  refine .inl ⟨_, .inr ⟨[zp [cmpI y.prio x.prio, cmpI x.id y.id] false], ?_, zpq _ _ _, rfl⟩, ?_⟩
  · exact ⟨_, _, rfl, .inr ⟨[.raw (.int .i64 (cmpI y.prio x.prio)), .raw (.int .i64 (cmpI x.id y.id))], by simp [St.new], by simp, by simp [zp, iAV]⟩, rfl⟩
  unfold zgW
  simp
  refine zeC ?_
  refine zv (.inr rfl) rfl (by simp (maxDischargeDepth := 30)) ?_
  simp
end Go.Proofs.YtpboabpapgimoaaGreat.Av
namespace Go.Proofs.YtpboabpapgimoaaGreat.Av
open Go
set_option linter.unusedSimpArgs false
set_option linter.unusedVariables false
set_option maxRecDepth 100000
set_option maxHeartbeats 2000000
set_option pp.maxSteps 300
theorem znp {P : Program} {f : FuncId} {sz : Nat} {fl : Bool} {σ : St} {K : AV → St → Prop} (h : ∀ b cap, ACalls P f [.raw (.slice b 0 cap)] σ K) : ACalls P f [.sl sz [] fl] σ K := by
  refine ⟨(h none 0).1, fun S vs hS hl => ?_⟩
  simp only [LRel, VRel] at hl
  obtain ⟨v, us, rfl, ⟨base, cap, rfl, _⟩, rfl⟩ := hl
  exact (h base cap).2 S _ hS ⟨_, _, rfl, rfl, rfl⟩
theorem zsF : ∀ z : List Ru, zae (zG (z.map zah)) = true := fun z => by
  induction z with
  | nil => rfl
  | cons r z ih => simp [zG, zah, zae, cellOK] at ih ⊢; try exact ih
theorem zkD (l : List Ru) (f : Bool) {σ : St} {K : AV → St → Prop} (hl : l.length < 2932031007403) (h : ∀ v τ, OwnL σ τ 7 v (l.map zah) → Ext σ τ → K v τ) : ACalls Tryz.prog 134 [zz l f] σ K := by
  cases l with
  | nil =>
    simp only [zz, List.map_nil]
    refine znp fun b cap => ?_
    refine zaL Tryz.func134 rfl (N := 8) rfl rfl (by simp) ?_
    cases b with
    | none =>
      refine znn ?_
      exact zT (.inr rfl) (by simp) (h _ _ OwnL.nil (Ext.refl _))
    | some b =>
      (try ((first | with_reducible refine zo ?_ | with_reducible refine zt ?_ | with_reducible refine zu ?_); simp [-zC])); repeat' (first | ((first | refine zf ?_ | refine zg ?_ | refine dN (by decide +kernel) ?_ | (refine za ?_ ?_ <;> (intro hg; simp only [hg])) | fail) <;> simp [-zC]) | refine ze ?_ | refine zd ?_ | (refine zA ?_; simp only [zB]; try simp) | (refine zc (fun hc => ?_) (fun hc => ?_) <;> try simp at hc) | fail)
      refine za2 zpT (σ0 := σ) (es := []) (OwnL.of rfl (by simp) (zb _ _ _) rfl) (Ext.new _ _ _ _) (ys := []) (by simp) (.inl rfl) rfl (by simp) ?_
      intro v1 τ1 hO1 hE1 _ _
      rw [List.nil_append] at hO1
      (try ((first | with_reducible refine zo ?_ | with_reducible refine zt ?_ | with_reducible refine zu ?_); simp [-zC])); repeat' (first | ((first | refine zf ?_ | refine zg ?_ | refine dN (by decide +kernel) ?_ | (refine za ?_ ?_ <;> (intro hg; simp only [hg])) | fail) <;> simp [-zC]) | refine ze ?_ | refine zd ?_ | (refine zA ?_; simp only [zB]; try simp) | (refine zc (fun hc => ?_) (fun hc => ?_) <;> try simp at hc) | fail)
      exact zT (.inr rfl) (by simp) (h _ _ hO1 hE1)
  | cons r l =>
    refine zaL Tryz.func134 rfl (N := 8) rfl rfl (by simp) ?_
    (try ((first | with_reducible refine zo ?_ | with_reducible refine zt ?_ | with_reducible refine zu ?_); simp [zz, -zC])); repeat' (first | ((first | refine zf ?_ | refine zg ?_ | refine dN (by decide +kernel) ?_ | (refine za ?_ ?_ <;> (intro hg; simp only [hg])) | fail) <;> simp [zz, -zC]) | refine ze ?_ | refine zd ?_ | (refine zA ?_; simp only [zB]; try simp) | (refine zc (fun hc => ?_) (fun hc => ?_) <;> try simp at hc) | fail)
    refine za2 zpT (σ0 := σ) (es := []) (OwnL.of rfl (by simp) (zb _ _ _) rfl) (Ext.new _ _ _ _) (ys := (r :: l).map zah) (by simp) (.inr rfl) (zsF _) (by simp at hl ⊢; omega) ?_
    intro v1 τ1 hO1 hE1 _ _
    rw [List.nil_append] at hO1
    (try ((first | with_reducible refine zo ?_ | with_reducible refine zt ?_ | with_reducible refine zu ?_); simp [-zC])); repeat' (first | ((first | refine zf ?_ | refine zg ?_ | refine dN (by decide +kernel) ?_ | (refine za ?_ ?_ <;> (intro hg; simp only [hg])) | fail) <;> simp [-zC]) | refine ze ?_ | refine zd ?_ | (refine zA ?_; simp only [zB]; try simp) | (refine zc (fun hc => ?_) (fun hc => ?_) <;> try simp at hc) | fail)
    exact zT (.inr rfl) (by simp) (h _ _ hO1 hE1)
def zck : List Ru → Ru
  | [] => ⟨0, 0, 0, 0, ⟨0, 0⟩, 0⟩
  | r :: l => l.foldl (fun m x => if zgW x m < 0 then x else m) r
theorem zkd {z : List Ru} {k : Nat} {x : Ru} (h1 : 1 ≤ k) (hx : z[k]? = some x) : zck (z.take (k + 1)) = if zgW x (zck (z.take k)) < 0 then x else zck (z.take k) := by
  rw [List.take_add_one, hx]
  cases z with
  | nil => simp at hx
  | cons r l =>
    obtain ⟨j, rfl⟩ : ∃ j, k = j + 1 := ⟨k - 1, by omega⟩
    simp [zck, List.foldl_append]
    rfl
theorem zap (x : Ru) : AV.agg [.raw (.int .i64 x.id), .raw (.int .i64 x.dev), .raw (.int .i64 x.prio), .raw (.int .i64 x.kind), .raw (.int .u32 x.r.lo), .raw (.int .u32 x.r.hi), .raw (.int .i64 x.port)] = zah x := rfl
theorem zdM (a b : Ru) : setPart (zah a) 0 [.raw (.int .i64 b.id), .raw (.int .i64 b.dev), .raw (.int .i64 b.prio), .raw (.int .i64 b.kind), .raw (.int .u32 b.r.lo), .raw (.int .u32 b.r.hi), .raw (.int .i64 b.port)] = zah b := rfl
theorem zbV (a : Ru) : zae (zah a).cells = true := rfl
theorem zkE (z : List Ru) (hne : z ≠ []) (f : Bool) (hl : z.length < 2932031007403) : PCalls Tryz.prog 136 [zz z f, .fn (.func 137) [] []] (zah (zck z)) := by
  refine zE Tryz.func136 rfl (N := 33) rfl rfl (by simp) (by simp [noIds, zah]) fun σ => ?_
  have hpos : 0 < z.length := List.length_pos_iff.2 hne
  have hx0 : z[0]? = some z[0] := List.getElem?_eq_getElem hpos
  have hlt1 : ¬ ((z.length : Int) < 1) := by omega
  (try ((first | with_reducible refine zo ?_ | with_reducible refine zt ?_ | with_reducible refine zu ?_); simp [zz, zJ, hx0, hlt1, hpos])); repeat' (first | ((first | refine zf ?_ | refine zg ?_ | refine dN (by decide +kernel) ?_ | (refine za ?_ ?_ <;> (intro hg; simp only [hg])) | fail) <;> simp [zz, zJ, hx0, hlt1, hpos]) | refine ze ?_ | refine zd ?_ | (refine zA ?_; simp only [zB]; try simp) | ((first | refine zm (by simp) ?_ | refine zv (by simp) (by simp) (by simp (maxDischargeDepth := 30) [zz, zJ, hx0, hlt1, hpos]) ?_ | fail); simp) | (refine zc (fun hc => ?_) (fun hc => ?_) <;> try simp at hc) | fail)
  refine zU (fun n A τ => A 0 = zz z f ∧ A 1 = .fn (.func 137) [] [] ∧ A 4 = .rp ⟨4, σ.nx 4, 7⟩ 0 0 ∧ A 5 = .rp ⟨5, σ.nx 5, 7⟩ 0 0 ∧ (∃ y, τ.m ⟨4, σ.nx 4, 7⟩ = some (.buf [zah y])) ∧ Ext σ τ ∧
    ∃ (k : Nat), A 6 = .raw (.int .i64 k) ∧ 1 ≤ k ∧ k ≤ z.length ∧ τ.m ⟨5, σ.nx 5, 7⟩ = some (.buf [zah (zck (z.take k))]) ∧ n = z.length - k) (z.length - 1) ?_ ?_
  · refine ⟨by simp [zz], by simp, by simp, by simp [St.new], ⟨⟨0, 0, 0, 0, ⟨0, 0⟩, 0⟩, ?_⟩, ?_, 1, by simp, by omega, by omega, ?_, ?_⟩
    · simp [St.new, St.set, zah]
    · refine Ext.setF (by simp (maxDischargeDepth := 30)) ?_
      have := zb σ 5 7
      simpa [St.new] using this
    · have e : z.take 1 = [z[0]] := by
        cases z with
        | nil => exact absurd rfl hne
        | cons r l => rfl
      rw [e]
      simp [St.new, St.set, zck, zah]
    · rfl
  rintro n A τ ⟨a0, a1, a4, a5, ⟨y, m4⟩, hE, k, a6, h1, hk, m5, rfl⟩ I1 hI1
  have f4 : σ.m ⟨4, σ.nx 4, 7⟩ = none := zb _ _ _
  have f5 : σ.m ⟨5, σ.nx 5, 7⟩ = none := zb _ _ _
  by_cases hlt : k < z.length
  · have hx : z[k]? = some z[k] := List.getElem?_eq_getElem hlt
    have w1 : IntKind.i64.wrap ((k : Int) + 1) = ((k + 1 : Nat) : Int) := by rw [zh (by omega) (by omega)]; omega
    (try ((first | with_reducible refine zo ?_ | with_reducible refine zt ?_ | with_reducible refine zu ?_); simp [zz, a0, a1, a4, a5, a6, hlt, hx, m4, m5, zJ, zap])); repeat' (first | ((first | refine zf ?_ | refine zg ?_ | refine dN (by decide +kernel) ?_ | (refine za ?_ ?_ <;> (intro hg; simp only [hg])) | fail) <;> simp [zz, a0, a1, a4, a5, a6, hlt, hx, m4, m5, zJ, zap]) | refine ze ?_ | refine zd ?_ | (refine zA ?_; simp only [zB]; try simp) | ((first | refine zm (by simp) ?_ | refine zv (by simp) (by simp) (by simp (maxDischargeDepth := 30) [zz, a0, a1, a4, a5, a6, hlt, hx, m4, m5, zJ, zap]) ?_ | fail); simp) | (refine zc (fun hc => ?_) (fun hc => ?_) <;> try simp at hc) | fail)
    refine PCalls.use (zmq _ _) ?_
    by_cases hs : zgW z[k] (zck (z.take k)) < 0
    · (try ((first | with_reducible refine zo ?_ | with_reducible refine zt ?_ | with_reducible refine zu ?_); simp [zz, a0, a1, a4, a5, a6, hlt, hx, m4, m5, zJ, zap, zdM, hs, w1])); repeat' (first | ((first | refine zf ?_ | refine zg ?_ | refine dN (by decide +kernel) ?_ | (refine za ?_ ?_ <;> (intro hg; simp only [hg])) | fail) <;> simp [zz, a0, a1, a4, a5, a6, hlt, hx, m4, m5, zJ, zap, zdM, hs, w1]) | refine ze ?_ | refine zd ?_ | (refine zA ?_; simp only [zB]; try simp) | ((first | refine zm (by simp) ?_ | refine zv (by simp) (by simp) (by simp (maxDischargeDepth := 30) [zz, a0, a1, a4, a5, a6, hlt, hx, m4, m5, zJ, zap, zdM, hs, w1]) ?_ | fail); simp) | (refine zc (fun hc => ?_) (fun hc => ?_) <;> try simp at hc) | fail)
      exact hI1 (z.length - (k + 1)) _ _ (by omega) ⟨by simp [a0], by simp [a1], by simp [a4], by simp [a5], ⟨y, by rw [zlt (by simp)]; exact m4⟩, hE.setF f5, k + 1, by simp, by omega, by omega, by rw [zjw m5, zkd h1 hx, if_pos hs], rfl⟩
    · have FF := fI zz.eq_1 (fI @a0 (fI @a1 (fI @a4 (fI @a5 (fI @a6 (fI @hlt (fI @hx (fI @m4 (fI @m5 (fI @zJ (fI @zap (fI @zdM (fI @hs @w1))))))))))))); refine zx ?_; clear FF
      exact hI1 (z.length - (k + 1)) _ _ (by omega) ⟨by simp [a0], by simp [a1], by simp [a4], by simp [a5], ⟨y, m4⟩, hE, k + 1, by simp, by omega, by omega, by rw [m5, zkd h1 hx, if_neg hs], rfl⟩
  · have : k = z.length := by omega
    subst this
    rw [List.take_length] at m5
    have FF := fI zz.eq_1 (fI @a0 (fI @a1 (fI @a4 (fI @a5 (fI @a6 (fI @m4 (fI @m5 (fI @zJ (fI @zap @zdM))))))))); refine goC ?_; clear FF
    refine zv (.inr rfl) rfl (hE.setF f4) ?_
    simp [a4, m4, St.set, zJ]
    exact zap _
theorem ACalls.args {P : Program} {f : FuncId} {as_ bs : List AV} {σ : St} {K : AV → St → Prop} (hw : ∀ S vs, LRel S as_ vs → LRel S bs vs) (h : ACalls P f bs σ K) : ACalls P f as_ σ K :=
  ⟨h.1, fun S vs hS hl => h.2 S vs hS (hw S vs hl)⟩
def OwnP (σ0 τ : St) (n : Nat) (v : AV) (es : List AV) : Prop :=
  (es = [] ∧ v = .sl 0 [] true) ∨ ∃ j rest, v = .rs j 0 es.length ∧ j.sz = n ∧ τ.m j = some (.buf (es ++ rest)) ∧ σ0.m j = none
theorem OwnL.toP {σ0 τ : St} {n : Nat} {v : AV} {es : List AV} (h : OwnL σ0 τ n v es) : OwnP σ0 τ n v es := by
  rcases h with h | ⟨j, h1, h2, h3, h4⟩
  · exact .inl h
  · exact .inr ⟨j, [], h1, h2, by rw [List.append_nil]; exact h3, h4⟩
theorem OwnP.ext {σ0 τ ρ : St} {n : Nat} {v : AV} {es : List AV} (h : OwnP σ0 τ n v es) (k : Ext τ ρ) : OwnP σ0 ρ n v es := by
  rcases h with h | ⟨j, r, h1, h2, h3, h4⟩
  · exact .inl h
  · exact .inr ⟨j, r, h1, h2, k.m _ _ h3, h4⟩
theorem PCalls.useP {P : Program} {f : FuncId} {σ0 σ : St} {n : Nat} {a v r : AV} {es : List AV} {K : AV → St → Prop} (h : PCalls P f [.sl n es false, a] r) (hr : r.plain = true) (hO : OwnP σ0 σ n v es) (k : K r σ) : ACalls P f [v, a] σ K := by
  rcases hO with ⟨rfl, rfl⟩ | ⟨j, rest, rfl, hj, hm, hn⟩
  · refine ACalls.args (bs := [.sl n [] false, a]) (fun S vs hl => ?_) (h.use k)
    simp only [LRel] at hl ⊢
    obtain ⟨w, ws, e2, h2, v, us, e, h1, h3⟩ := hl
    exact ⟨w, ws, e2, za7 _ _ h2, v, us, e, h1, h3⟩
  · refine RCalls.use (.inr ⟨[.sl n es false, a], ?_, h, hr⟩) k
    simp only [zcS]
    exact ⟨_, _, rfl, .inr ⟨es ++ rest, hm, by simp, by simp [hj]⟩, _, _, rfl, .inl rfl, rfl⟩
theorem zlA {g : FuncId} {caps : List AV} {p : Ru → Bool} (l : List Ru) {σ0 σ : St} {v : AV} {K : AV → St → Prop} (hO : OwnL σ0 σ 7 v (l.map zah)) (hE : Ext σ0 σ) (hl : l.length < 2932031007403)
    (hg : ∀ r ∈ l, PCalls Tryz.prog g (zah r :: caps) (.raw (.bool (p r)))) (h : ∀ v' τ, OwnP σ0 τ 7 v' ((l.filter fun r => !p r).map zah) → Ext σ0 τ → K v' τ) : ACalls Tryz.prog 133 [v, .fn (.func g) [] caps] σ K := by
  refine zaL Tryz.func133 rfl (N := 42) rfl rfl (by simp) ?_
  refine zaR ?_
  refine PCalls.useP (zkB l false (by omega) hg) rfl hO.toP ?_
  cases ha : l.any p with
  | false =>
    have hi : idxOf p l = -1 := by unfold idxOf; rw [ha]; rfl
    have hfl : (l.filter fun r => !p r) = l := by
      rw [List.filter_eq_self]
      intro r hr
      rw [List.any_eq_false] at ha
      simpa using ha r hr
    have w1 : IntKind.i64.wrap (-1) = -1 := zh (by omega) (by omega)
    rw [hfl] at h
    have FF := fI @hi @w1; refine goC ?_; clear FF
    exact zT (.inr rfl) (by simp) (h _ _ hO.toP hE)
  | true =>
    have hi : idxOf p l = (l.findIdx p : Nat) := by unfold idxOf; rw [ha]; rfl
    have hlt0 : l.findIdx p < l.length := List.findIdx_lt_length.2 (by simpa using ha)
    obtain ⟨i0, hi0⟩ : ∃ i0, l.findIdx p = i0 := ⟨_, rfl⟩
    rw [hi0] at hi hlt0
    have hne : ¬ ((i0 : Int) = -1) := by omega
    have w0 : IntKind.i64.wrap ((i0 : Int) + 1) = ((i0 + 1 : Nat) : Int) := by rw [zh (by omega) (by omega)]; omega
    have w1 : IntKind.i64.wrap (-1) = -1 := zh (by omega) (by omega)
    rcases hO with ⟨he, _⟩ | ⟨j, hv, hj, hm, hn⟩
    · have : l = [] := by simpa using he
      subst this
      simp at ha
    rw [List.length_map] at hv
    subst hv
    have FF := fI @hi (fI @w1 (fI @hne @w0)); refine zx ?_; clear FF
    have hfirst : ∀ r ∈ l.take i0, p r = false := fun r hr => by
      obtain ⟨q, hq⟩ := List.getElem?_of_mem hr
      obtain ⟨hq1, hq2⟩ := List.getElem?_eq_some_iff.1 hq
      rw [List.length_take] at hq1
      rw [List.getElem_take] at hq2
      have := List.not_of_lt_findIdx (p := p) (xs := l) (i := q) (by omega)
      rw [hq2] at this
      simpa using this
    have hp0 : p l[i0] = true := by
      have := List.findIdx_getElem (p := p) (xs := l) (w := by omega)
      simpa only [hi0] using this
    have htk : ∀ k, (hk : k < l.length) → (l.take (k + 1)).filter (fun r => !p r) = (l.take k).filter (fun r => !p r) ++ if p l[k] = true then [] else [l[k]] := fun k hk => by
      rw [List.take_add_one, List.getElem?_eq_getElem hk, List.filter_append]
      congr 1
      cases hb : p l[k] <;> simp [hb]
    refine zU (fun n A τ => A 0 = .rs j 0 l.length ∧ A 1 = .fn (.func g) [] caps ∧ Ext σ0 τ ∧ ∃ (k : Nat) (q : List Ru), A 6 = .raw (.int .i64 k) ∧ A 5 = .raw (.int .i64 (((l.take k).filter fun r => !p r).length : Nat)) ∧ k ≤ l.length ∧
      ((l.take k).filter fun r => !p r).length < k ∧ q.length = l.length ∧ q.take ((l.take k).filter fun r => !p r).length = (l.take k).filter (fun r => !p r) ∧ q.drop k = l.drop k ∧ τ.m j = some (.buf (q.map zah)) ∧ n = l.length - k) (l.length - (i0 + 1)) ?_ ?_
    · have e1 : (l.take (i0 + 1)).filter (fun r => !p r) = l.take i0 := by
        rw [htk i0 hlt0, if_pos hp0, List.append_nil, List.filter_eq_self]
        intro r hr; simp [hfirst r hr]
      refine ⟨by simp, by simp, hE, i0 + 1, l, by simp, ?_, by omega, ?_, rfl, ?_, rfl, hm, rfl⟩
      · rw [e1, List.length_take, Nat.min_eq_left (by omega)]; simp
      · rw [e1, List.length_take, Nat.min_eq_left (by omega)]; omega
      · rw [e1, List.length_take, Nat.min_eq_left (by omega)]
    rintro n A τ ⟨a0, a1, hE, k, q, a6, a5, hk, hik, hq, hq1, hq2, hmq, rfl⟩ I1 hI1
    obtain ⟨i, hii⟩ : ∃ i, ((l.take k).filter fun r => !p r).length = i := ⟨_, rfl⟩
    rw [hii] at a5 hik hq1
    by_cases hlt : k < l.length
    · have hx : q[k]? = some l[k] := by
        have := congrArg (·[0]?) hq2
        simpa [List.getElem?_drop, List.getElem?_eq_getElem hlt] using this
      have hxi : q[i]? = some q[i] := List.getElem?_eq_getElem (by omega)
      have w2 : IntKind.i64.wrap ((k : Int) + 1) = ((k + 1 : Nat) : Int) := by rw [zh (by omega) (by omega)]; omega
      have w3 : IntKind.i64.wrap ((i : Int) + 1) = ((i + 1 : Nat) : Int) := by rw [zh (by omega) (by omega)]; omega
      have hjf : j ≠ ⟨7, τ.nx 7, 7⟩ := fun e => by rw [e, zb] at hmq; cases hmq
      have hil : i < l.length := by omega
      have FF := fI @a0 (fI @a1 (fI @a6 (fI @a5 (fI @hlt (fI @hx (fI @hmq (fI @hj (fI @hjf (fI @zJ (fI @zap (fI @w2 @w3))))))))))); refine zx ?_; clear FF
      refine PCalls.use (hg l[k] (List.getElem_mem _)) ?_
      cases hpk : p l[k] with
      | true =>
        have FF := fI @a0 (fI @a1 (fI @a6 (fI @a5 (fI @hlt (fI @hx (fI @hmq (fI @hj (fI @hjf (fI @zJ (fI @zap (fI @w2 @w3))))))))))); refine zx ?_; clear FF
        have e := htk k hlt
        rw [if_pos hpk, List.append_nil] at e
        refine hI1 (l.length - (k + 1)) _ _ (by omega) ⟨by simp [a0], by simp [a1], by simp [hE], k + 1, q, by simp, by rw [e, hii]; simp [a5], by omega, by rw [e, hii]; omega, hq, by rw [e, hii]; exact hq1, ?_, by simp [St.set, St.new, hjf, hmq], rfl⟩
        have := congrArg (List.drop 1) hq2
        simpa [List.drop_drop, Nat.add_comm] using this
      | false =>
        have hsp : setPart (zah q[i]) 0 (zah l[k]).cells = zah l[k] := rfl
        rw [zJ] at hsp
        have FF := fI @a0 (fI @a1 (fI @a6 (fI @a5 (fI @hlt (fI @hil (fI @hx (fI @hxi (fI @hmq (fI @hj (fI @hjf (fI @zJ (fI @zap (fI @hsp (fI @w2 @w3)))))))))))))); refine zx ?_; clear FF
        have e := htk k hlt
        rw [if_neg (by simp [hpk])] at e
        have el : (((l.take k).filter fun r => !p r) ++ [l[k]]).length = i + 1 := by rw [List.length_append, hii]; rfl
        refine hI1 (l.length - (k + 1)) _ _ (by omega) ⟨by simp [a0], by simp [a1], Ext.setF (by simp [hE]) hn, k + 1, q.set i l[k], by simp, by rw [e, el]; simp, by omega, by rw [e, el]; omega, by simpa using hq, ?_, ?_, by simp [St.set, St.new, hjf, hmq, List.map_set], rfl⟩
        · rw [e, el, ← hq1, List.take_succ_eq_append_getElem (by simp; omega)]
          simp
          rw [List.take_set, List.set_eq_of_length_le (by simp; omega)]
        · have := congrArg (List.drop 1) hq2
          rw [List.drop_set_of_lt (by omega)]
          simpa [List.drop_drop, Nat.add_comm] using this
    · have : k = l.length := by omega
      subst this
      rw [List.take_length] at *
      have hil : i ≤ l.length := by omega
      obtain ⟨m, hm'⟩ : ∃ m, l.length - i = m + 1 := ⟨l.length - i - 1, by omega⟩
      have ecut : zcO j 0 i l.length = .rs j i (m + 1) := by unfold zcO; rw [if_pos (.inr (by omega)), hm', Nat.zero_add]
      obtain ⟨rest, hcl⟩ : ∃ rest, zda Tryz.prog τ.m 26 (.rs j i (m + 1)) = some (.wrv j ((l.filter fun r => !p r).map zah ++ rest) (.tup [])) := by
        have hle : i + (m + 1) ≤ q.length := by omega
        refine ⟨List.replicate (m + 1) (zah ⟨0, 0, 0, 0, ⟨0, 0⟩, 0⟩) ++ (q.map zah).drop (i + (m + 1)), ?_⟩
        rw [← hq1, List.map_take]
        simp [zda, hmq, hj, zae, cellOK, hle, zah]
      have FF := fI @a0 (fI @a1 (fI @a6 (fI @a5 (fI @hj (fI @hil (fI @ecut @hcl)))))); refine goC ?_; clear FF
      have ec0 : zcO j 0 0 i = .rs j 0 ((l.filter fun r => !p r).map zah).length := by
        unfold zcO; rw [if_pos (.inl rfl), List.length_map, hii]; simp
      exact zT (.inr rfl) (x := zcO j 0 0 i) (by simp) (by
        rw [ec0]
        exact h _ _ (.inr ⟨j, rest, rfl, hj, zjw hmq, hn⟩) (Ext.setF hE hn))
end Go.Proofs.YtpboabpapgimoaaGreat.Av
namespace Go.Proofs.YtpboabpapgimoaaGreat.Av
open Go
set_option linter.unusedSimpArgs false
set_option linter.unusedVariables false
set_option maxRecDepth 100000
set_option maxHeartbeats 2000000
set_option pp.maxSteps 300
theorem zjB {g : FuncId} {caps : List AV} {p : Ru → Bool} (r : Ru) (hg : PCalls Tryz.prog g (zah r :: caps) (.raw (.bool (p r)))) : PCalls Tryz.prog 135 [zah r, .pp [.fn (.func g) [] caps] 0] (.raw (.bool (!p r))) := by
  refine zE Tryz.func135 rfl (N := 8) rfl rfl (by simp) (by simp [noIds]) fun σ => ?_
  have FF := fI @zJ @zbV; refine zx ?_; clear FF
  rw [zap]
  refine PCalls.use hg ?_
  exact zga
theorem zhG {g : FuncId} {caps : List AV} {p : Ru → Bool} (l : List Ru) (f : Bool) (hl : l.length < 2932031007403) (hg : ∀ r ∈ l, PCalls Tryz.prog g (zah r :: caps) (.raw (.bool (p r)))) :
    PCalls Tryz.prog 116 [zz l f, .fn (.func g) [] caps] (.tup [zah (zck (l.filter p)), .raw (.bool (l.any p))]) := by
  refine zE Tryz.func116 rfl (N := 16) rfl rfl (by simp) (by simp [noIds, zah]) fun σ => ?_
  repeat (refine ze ?_)
  refine zg ?_
  simp
  refine zai ⟨3, σ.nx 3, 1⟩ ?_
  generalize hτ : St.del _ _ = τ
  generalize hA : (fun t => zw _ _ _) = A
  have a0 : A 0 = zz l f := by rw [← hA]; simp [zz]
  have a3 : A 3 = .pp [.fn (.func g) [] caps] 0 := by rw [← hA, ← hτ]; simp [zw, St.new, St.del]
  have a4 : A 4 = .rp ⟨4, σ.nx 4, 7⟩ 0 0 := by rw [← hA, ← hτ]; simp [zw, St.new, St.del]
  have m4 : τ.m ⟨4, σ.nx 4, 7⟩ = some (.buf [zah ⟨0, 0, 0, 0, ⟨0, 0⟩, 0⟩]) := by rw [← hτ]; simp [St.new, St.del, zah]
  have hE : Ext σ τ := by
    rw [← hτ]
    refine ⟨fun i o h => ?_, fun s => ?_⟩
    · rw [zL (fun e => by rw [e, zb] at h; cases h)]
      exact zat _ _ (zat _ _ h)
    · exact Nat.le_trans (St.new_le σ 3 1 (.buf [.fn (.func g) [] caps]) s) (St.new_le (σ.new 3 1 (.buf [.fn (.func g) [] caps])) 4 7 (.buf [zah ⟨0, 0, 0, 0, ⟨0, 0⟩, 0⟩]) s)
  clear hτ hA
  have f4 : σ.m ⟨4, σ.nx 4, 7⟩ = none := zb _ _ _
  have FF := fI @a0 (fI @a3 (fI @a4 @m4)); refine zx ?_; clear FF
  refine zkD l f hl fun v τ1 hO hE1 => ?_
  have FF := fI @a0 (fI @a3 @a4); refine zx ?_; clear FF
  refine zlA (σ0 := τ) l hO hE1 hl (fun r hr => zjB r (hg r hr)) fun v' τ2 hP hE2 => ?_
  have hfl : (l.filter fun r => !(!p r)) = l.filter p := by simp
  rw [hfl] at hP
  have m4' : τ2.m ⟨4, σ.nx 4, 7⟩ = some (.buf [zah ⟨0, 0, 0, 0, ⟨0, 0⟩, 0⟩]) := hE2.m _ _ m4
  have hE3 : Ext σ τ2 := hE.trans hE2
  cases ha : l.any p with
  | false =>
    have hnil : l.filter p = [] := by
      rw [List.filter_eq_nil_iff]
      intro r hr
      rw [List.any_eq_false] at ha
      exact ha r hr
    rw [hnil] at hP ⊢
    have hlen : ∃ z, (v' = .sl 0 [] true ∨ v' = .rs z 0 0) := by
      rcases hP with ⟨_, h⟩ | ⟨z, rest, h, _⟩
      · exact ⟨⟨0, 0, 0⟩, .inl h⟩
      · exact ⟨z, .inr h⟩
    have hz : setPart (zah ⟨0, 0, 0, 0, ⟨0, 0⟩, 0⟩) 0 [.raw (.int .i64 0), .raw (.int .i64 0), .raw (.int .i64 0), .raw (.int .i64 0), .raw (.int .u32 0), .raw (.int .u32 0), .raw (.int .i64 0)] = zah ⟨0, 0, 0, 0, ⟨0, 0⟩, 0⟩ := rfl
    obtain ⟨z, rfl | rfl⟩ := hlen
    · have FF := fI @a0 (fI @a3 (fI @a4 @m4')); refine goC ?_; clear FF
      exact zv (.inr rfl) rfl (hE3.setF f4) (by simp [a4, m4', St.set, zck, hz, zJ]; rfl)
    · have FF := fI @a0 (fI @a3 (fI @a4 @m4')); refine goC ?_; clear FF
      exact zv (.inr rfl) rfl (hE3.setF f4) (by simp [a4, m4', St.set, zck, hz, zJ]; rfl)
  | true =>
    have hne : l.filter p ≠ [] := by
      intro e
      rw [List.filter_eq_nil_iff] at e
      obtain ⟨r, hr, h⟩ := List.any_eq_true.1 ha
      exact e r hr h
    have hlf : (l.filter p).length ≤ l.length := List.length_filter_le _ _
    have hmin := zkE (l.filter p) hne false (by omega)
    have hpos : 0 < (l.filter p).length := List.length_pos_iff.2 hne
    have hP' := hP
    rcases hP with ⟨h, _⟩ | ⟨z, rest, rfl, hz7, hz, hzn⟩
    · exact absurd (by simpa using h) hne
    rw [List.length_map] at hP' ⊢
    have hl0 : ¬ ((l.filter p).length = 0) := by omega
    have FF := fI @a0 (fI @a3 (fI @a4 (fI @m4' @hl0))); refine zx ?_; clear FF
    refine PCalls.useP hmin rfl hP' ?_
    have FF := fI @a0 (fI @a3 (fI @a4 (fI @m4' (fI @zJ @zdM)))); refine goC ?_; clear FF
    exact zv (.inr rfl) rfl (hE3.setF f4) (by simp [a4, m4', St.set, zJ]; exact zap _)
def zdN (d a : Int) (r : Ru) : Bool := decide (1 < r.kind) && zeW r d a
def zdO (d a : Int) (r : Ru) : Bool := decide (r.kind ≤ 1) && zeW r d a
theorem znq (r : Ru) (d a : Int) : PCalls Tryz.prog 117 [zah r, .pp [.raw (.int .i64 d)] 0, .pp [.raw (.int .u32 a)] 0] (.raw (.bool (zdN d a r))) := by
  refine zE Tryz.func117 rfl (N := 14) rfl rfl (by simp) (by simp [noIds]) fun σ => ?_
  obtain ⟨b, hb⟩ : ∃ b, decide (1 < r.kind) = b := ⟨_, rfl⟩
  unfold zdN
  rw [hb]
  have FF := fI @zJ (fI @zbV (fI @hb @zap)); refine zx ?_; clear FF
  refine PCalls.use (zhF r d a) ?_
  exact zga
theorem znr (r : Ru) (d a : Int) : PCalls Tryz.prog 119 [zah r, .pp [.raw (.int .i64 d)] 0, .pp [.raw (.int .u32 a)] 0] (.raw (.bool (zdO d a r))) := by
  refine zE Tryz.func119 rfl (N := 14) rfl rfl (by simp) (by simp [noIds]) fun σ => ?_
  obtain ⟨b, hb⟩ : ∃ b, decide (r.kind ≤ 1) = b := ⟨_, rfl⟩
  unfold zdO
  rw [hb]
  have FF := fI @zJ (fI @zbV (fI @hb @zap)); refine zx ?_; clear FF
  refine PCalls.use (zhF r d a) ?_
  exact zga
end Go.Proofs.YtpboabpapgimoaaGreat.Av
namespace Go.Proofs.YtpboabpapgimoaaGreat.Av
open Go
set_option linter.unusedSimpArgs false
set_option linter.unusedVariables false
set_option maxRecDepth 100000
set_option maxHeartbeats 4000000
set_option pp.maxSteps 300
def zh8 (d a : Int) (acl : Bool) (r : Ru) : Bool := decide (r.dev = d) && (!decide (a < r.r.lo) && (!decide (r.r.hi < a) && ((decide (r.kind = 2) || decide (r.kind = 3)) == acl)))
def zuH (x m : Ru) : Bool := decide (m.prio < x.prio) || (decide (x.prio = m.prio) && decide (x.id < m.id))
end Go.Proofs.YtpboabpapgimoaaGreat.Av
namespace Go.Proofs.YtpboabpapgimoaaGreat.Av
open Go
set_option linter.unusedSimpArgs false
set_option linter.unusedVariables false
set_option maxRecDepth 100000
set_option maxHeartbeats 2000000
set_option pp.maxSteps 300
def zns (l : List Ru) (d a : Int) : Bool := l.any (zh8 d a true) && decide ((zck (l.filter (zh8 d a true))).kind = 3)
theorem zmr (z : List Int) (fz : Bool) (v : Int) (hl : z.length < 2 ^ 60) : PCalls Tryz.prog 71 [zp z fz, .raw (.int .i64 v)] (.raw (.int .i64 (idxOf (fun x => decide (v = x)) z))) := by
  refine zE Tryz.func71 rfl (N := 19) rfl rfl (by simp) (by simp [noIds]) fun σ => ?_
  have FF := zp.eq_1; refine zx ?_; clear FF
  refine zU (fun n A τ => τ = σ ∧ A 0 = zp z fz ∧ A 1 = .raw (.int .i64 v) ∧ A 7 = .raw (.int .i64 z.length) ∧ ∃ i : Nat, A 8 = .raw (.int .i64 i) ∧ i ≤ z.length ∧ n = z.length - i ∧ ∀ j, j < i → ∀ y, z[j]? = some y → decide (v = y) = false) z.length ?_ ?_
  · exact ⟨rfl, by simp [zp], by simp, by simp, 0, by simp, by omega, by omega, fun j h => by omega⟩
  rintro n A τ ⟨rfl, a0, a1, a7, i, a8, hi, rfl, hn⟩ I1 hI1
  by_cases hlt : i < z.length
  · have hx : z[i]? = some z[i] := List.getElem?_eq_getElem hlt
    have w1 : IntKind.i64.wrap ((i : Int) + 1) = ((i + 1 : Nat) : Int) := by rw [zh (by omega) (by omega)]; omega
    by_cases hp : v = z[i]
    · have FF := fI zp.eq_1 (fI iAV.eq_1 (fI @a0 (fI @a1 (fI @a7 (fI @a8 (fI @hlt (fI @hx @hp))))))); refine zx ?_; clear FF
      exact (idxOf_here hx (by simpa using hp) hn).symm
    · (try ((first | with_reducible refine zo ?_ | with_reducible refine zt ?_ | with_reducible refine zu ?_); simp [zp, iAV, a0, a1, a7, a8, hlt, hx, hp])); repeat' (first | ((first | refine zf ?_ | refine zg ?_ | refine dN (by decide +kernel) ?_ | (refine za ?_ ?_ <;> (intro hg; simp only [hg])) | fail) <;> simp [zp, iAV, a0, a1, a7, a8, hlt, hx, hp]) | refine ze ?_ | refine zd ?_ | (refine zA ?_; simp only [zB]; try simp) | ((first | refine zm (by simp) ?_ | refine zv (by simp) (by simp) (by simp (maxDischargeDepth := 30) [zp, iAV, a0, a1, a7, a8, hlt, hx, hp]) ?_ | fail); simp) | (refine zc (fun hc => ?_) (fun hc => ?_) <;> try simp at hc) | fail)
      refine hI1 (z.length - (i + 1)) _ _ (by omega) ⟨rfl, by simp [a0, zp], by simp [a1], by simp [a7], i + 1, by simp [w1], by omega, rfl, fun j hj y hy => ?_⟩
      by_cases e : j = i
      · subst e; rw [hx] at hy; injection hy with hy; subst hy; simpa using hp
      · exact hn j (by omega) y hy
  · have hi' : i = z.length := by omega
    subst hi'
    have w1 : IntKind.i64.wrap (-1) = -1 := zh (by omega) (by omega)
    have FF := fI zp.eq_1 (fI @a0 (fI @a1 (fI @a7 (fI @a8 @w1)))); refine zx ?_; clear FF
    exact (idxOf_none hn).1.symm
theorem zfE (z : List Int) (fz : Bool) (v : Int) (hl : z.length < 2 ^ 60) : PCalls Tryz.prog 39 [zp z fz, .raw (.int .i64 v)] (.raw (.bool (z.any fun x => decide (v = x)))) := by
  refine zE Tryz.func39 rfl (N := 9) rfl rfl (by simp) (by simp [noIds]) fun σ => ?_
  refine zaR ?_
  refine PCalls.use (zmr z fz v hl) ?_
  have := idxOf_any (fun x => decide (v = x)) z
  refine zaR ?_
  simpa using this
end Go.Proofs.YtpboabpapgimoaaGreat.Av
namespace Go.Proofs.YtpboabpapgimoaaGreat.Av
set_option linter.unusedSimpArgs false
set_option linter.unusedVariables false
inductive Tr where
  | nil
  | node (l : Tr) (k v : Int) (r : Tr)
namespace Tr
def ht : Tr → Int
  | nil => 0
  | node l _ _ r => 1 + max l.ht r.ht
def sz : Tr → Int
  | nil => 0
  | node l _ _ r => 1 + l.sz + r.sz
def toL : Tr → List (Int × Int)
  | nil => []
  | node l k v r => l.toL ++ (k, v) :: r.toL
theorem ht_nn : ∀ t : Tr, 0 ≤ t.ht
  | nil => by simp [ht]
  | node l k v r => by have := ht_nn l; have := ht_nn r; simp only [ht]; omega
theorem sz_nn : ∀ t : Tr, 0 ≤ t.sz
  | nil => by simp [sz]
  | node l k v r => by have := sz_nn l; have := sz_nn r; simp only [sz]; omega
theorem ht_le : ∀ t : Tr, t.ht ≤ t.sz
  | nil => by simp [ht, sz]
  | node l k v r => by have := ht_le l; have := ht_le r; have := sz_nn l; have := sz_nn r; simp only [ht, sz]; omega
theorem sz_toL : ∀ t : Tr, t.sz = t.toL.length
  | nil => by simp [sz, toL]
  | node l k v r => by have := sz_toL l; have := sz_toL r; simp only [sz, toL, List.length_append, List.length_cons]; omega
def left : Tr → Tr
  | nil => nil
  | node l _ _ _ => l
def right : Tr → Tr
  | nil => nil
  | node _ _ _ r => r
def even (l : Tr) (k v : Int) (r : Tr) : Tr :=
  if r.ht + 1 < l.ht then
    match l with
    | nil => nil
    | node ll lk lv lr => if lr.ht ≤ ll.ht then node ll lk lv (node lr k v r) else match lr with
      | nil => nil
      | node a mk mv b => node (node ll lk lv a) mk mv (node b k v r)
  else if l.ht + 1 < r.ht then
    match r with
    | nil => nil
    | node rl rk rv rr => if rl.ht ≤ rr.ht then node (node l k v rl) rk rv rr else match rl with
      | nil => nil
      | node a mk mv b => node (node l k v a) mk mv (node b rk rv rr)
  else node l k v r
theorem zcs (l : Tr) (k v : Int) (r : Tr) : (even l k v r).toL = l.toL ++ (k, v) :: r.toL := by
  unfold even
  split
  · rename_i h
    cases l with
    | nil => have := ht_nn r; simp only [ht] at h; omega
    | node ll lk lv lr =>
      simp only []
      split
      · simp [toL]
      · rename_i h2
        cases lr with
        | nil => have := ht_nn ll; simp only [ht] at h2; omega
        | node a mk mv b => simp [toL]
  · split
    · rename_i h
      cases r with
      | nil => have := ht_nn l; simp only [ht] at h; omega
      | node rl rk rv rr =>
        simp only []
        split
        · simp [toL]
        · rename_i h2
          cases rl with
          | nil => have := ht_nn rr; simp only [ht] at h2; omega
          | node a mk mv b => simp [toL]
    · simp [toL]
theorem even_sz (l : Tr) (k v : Int) (r : Tr) : (even l k v r).sz = 1 + l.sz + r.sz := by
  rw [sz_toL, zcs, sz_toL l, sz_toL r]
  simp only [List.length_append, List.length_cons]
  omega
def with_ : Tr → Int → Int → Tr
  | nil, k, v => node nil k v nil
  | node l k' v' r, k, v => if k < k' then even (l.with_ k v) k' v' r else if k' < k then even l k' v' (r.with_ k v) else node l k v r
def get : Tr → Int → Option Int
  | nil, _ => none
  | node l k' v' r, k => if k < k' then l.get k else if k' < k then r.get k else some v'
def least : Tr → (Int × Int) × Tr
  | nil => ((0, 0), nil)
  | node nil k v r => ((k, v), r)
  | node (node a b c d) k v r => ((node a b c d).least.1, even (node a b c d).least.2 k v r)
def without : Tr → Int → Tr
  | nil, _ => nil
  | node l k' v' r, k => if k < k' then even (l.without k) k' v' r else if k' < k then even l k' v' (r.without k) else match r with
    | nil => l
    | node a b c d => even l (node a b c d).least.1.1 (node a b c d).least.1.2 (node a b c d).least.2
def under : Tr → Int → Int
  | nil, _ => 0
  | node l k' _ r, k => if k' < k then 1 + l.sz + r.under k else l.under k
def at_ : Tr → Int → Option (Int × Int)
  | nil, _ => none
  | node l k v r, i => if i < l.sz then l.at_ i else if l.sz < i then r.at_ (i - (1 + l.sz)) else some (k, v)
def join (l : Tr) (k v : Int) (r : Tr) : Tr :=
  if r.ht + 1 < l.ht then
    match l with
    | nil => nil
    | node ll lk lv lr => even ll lk lv (join lr k v r)
  else if l.ht + 1 < r.ht then
    match r with
    | nil => nil
    | node rl rk rv rr => even (join l k v rl) rk rv rr
  else node l k v r
termination_by SizeOf.sizeOf l + SizeOf.sizeOf r
def cut : Tr → Int → Tr × Tr
  | nil, _ => (nil, nil)
  | node l k v r, b => if k < b then (join l k v (r.cut b).1, (r.cut b).2) else ((l.cut b).1, join (l.cut b).2 k v r)
theorem join_toL (l : Tr) (k v : Int) (r : Tr) : (join l k v r).toL = l.toL ++ (k, v) :: r.toL := by
  fun_induction join l k v r with
  | case1 r h => have := ht_nn r; simp only [ht] at h; omega
  | case2 r ll lk lv lr h ih => rw [zcs, ih]; simp [toL]
  | case3 l h1 h => have := ht_nn l; simp only [ht] at h; omega
  | case4 l rl rk rv rr h1 h ih => rw [zcs, ih]; simp [toL]
  | case5 l r h1 h2 => simp [toL]
def Srt (l : List (Int × Int)) : Prop := l.Pairwise fun a b => a.1 < b.1
def Lt (b : Int) (l : List (Int × Int)) : Prop := ∀ e ∈ l, e.1 < b
def Gt (b : Int) (l : List (Int × Int)) : Prop := ∀ e ∈ l, b < e.1
theorem zgd {l : Tr} {k v : Int} {r : Tr} : Srt (node l k v r).toL ↔ Srt l.toL ∧ Srt r.toL ∧ Lt k l.toL ∧ Gt k r.toL := by
  simp only [Srt, toL, Lt, Gt]
  rw [List.pairwise_append, List.pairwise_cons]
  constructor
  · rintro ⟨h1, ⟨h2, h3⟩, h4⟩
    exact ⟨h1, h3, fun e he => h4 e he (k, v) (by simp), fun e he => h2 e he⟩
  · rintro ⟨h1, h2, h3, h4⟩
    refine ⟨h1, ⟨fun e he => h4 e he, h2⟩, fun a ha b hb => ?_⟩
    rcases List.mem_cons.1 hb with rfl | hb
    · exact h3 a ha
    · have := h3 a ha; have := h4 b hb; omega
def put (l : List (Int × Int)) (k v : Int) : List (Int × Int) := l.filter (fun e => decide (e.1 < k)) ++ (k, v) :: l.filter (fun e => decide (k < e.1))
theorem zbw {p : Int × Int → Bool} {l : List (Int × Int)} (h : ∀ e ∈ l, p e = true) : l.filter p = l := List.filter_eq_self.2 h
theorem zdh {p : Int × Int → Bool} {l : List (Int × Int)} (h : ∀ e ∈ l, p e = false) : l.filter p = [] := List.filter_eq_nil_iff.2 fun e he => by simp [h e he]
theorem with_toL : ∀ (t : Tr) (k v : Int), Srt t.toL → (t.with_ k v).toL = put t.toL k v
  | nil, k, v, _ => by simp [with_, toL, put]
  | node l k' v' r, k, v, h => by
    obtain ⟨h1, h2, h3, h4⟩ := zgd.1 h
    simp only [with_]
    split
    · rename_i hk
      rw [zcs, with_toL l k v h1]
      simp only [put, toL, List.filter_append, List.filter_cons]
      have e1 : r.toL.filter (fun e => decide (e.1 < k)) = [] := zdh fun e he => by have := h4 e he; simp; omega
      have e2 : r.toL.filter (fun e => decide (k < e.1)) = r.toL := zbw fun e he => by have := h4 e he; simp; omega
      have e3 : ¬ k' < k := by omega
      simp [e1, e2, hk, e3]
    · split
      · rename_i hk0 hk
        rw [zcs, with_toL r k v h2]
        simp only [put, toL, List.filter_append, List.filter_cons]
        have e1 : l.toL.filter (fun e => decide (k < e.1)) = [] := zdh fun e he => by have := h3 e he; simp; omega
        have e2 : l.toL.filter (fun e => decide (e.1 < k)) = l.toL := zbw fun e he => by have := h3 e he; simp; omega
        simp [e1, e2, hk, hk0]
      · have : k = k' := by omega
        subst this
        simp only [put, toL, List.filter_append, List.filter_cons]
        have e1 : l.toL.filter (fun e => decide (k < e.1)) = [] := zdh fun e he => by have := h3 e he; simp; omega
        have e2 : l.toL.filter (fun e => decide (e.1 < k)) = l.toL := zbw fun e he => by have := h3 e he; simp; omega
        have e3 : r.toL.filter (fun e => decide (e.1 < k)) = [] := zdh fun e he => by have := h4 e he; simp; omega
        have e4 : r.toL.filter (fun e => decide (k < e.1)) = r.toL := zbw fun e he => by have := h4 e he; simp; omega
        simp [e1, e2, e3, e4]
theorem put_srt {l : List (Int × Int)} (h : Srt l) (k v : Int) : Srt (put l k v) := by
  unfold Srt put
  rw [List.pairwise_append, List.pairwise_cons]
  refine ⟨h.filter _, ⟨fun e he => by simpa using (List.mem_filter.1 he).2, h.filter _⟩, fun a ha b hb => ?_⟩
  have h1 := (List.mem_filter.1 ha).2
  simp only [decide_eq_true_eq] at h1
  rcases List.mem_cons.1 hb with rfl | hb
  · exact h1
  · have h2 := (List.mem_filter.1 hb).2
    simp only [decide_eq_true_eq] at h2
    omega
theorem get_eq : ∀ (t : Tr) (k : Int), Srt t.toL → t.get k = (t.toL.find? fun e => decide (e.1 = k)).map (·.2)
  | nil, k, _ => by simp [get, toL]
  | node l k' v' r, k, h => by
    obtain ⟨h1, h2, h3, h4⟩ := zgd.1 h
    simp only [get, toL, List.find?_append, List.find?_cons]
    split
    · rename_i hk
      have e1 : r.toL.find? (fun e => decide (e.1 = k)) = none := List.find?_eq_none.2 fun e he => by have := h4 e he; simp; omega
      have e2 : decide (k' = k) = false := by simp; omega
      rw [get_eq l k h1, e1, e2]; simp
    · split
      · rename_i hk0 hk
        have e1 : l.toL.find? (fun e => decide (e.1 = k)) = none := List.find?_eq_none.2 fun e he => by have := h3 e he; simp; omega
        have e2 : decide (k' = k) = false := by simp; omega
        rw [get_eq r k h2, e1, e2]; simp
      · have : k' = k := by omega
        subst this
        have e1 : l.toL.find? (fun e => decide (e.1 = k')) = none := List.find?_eq_none.2 fun e he => by have := h3 e he; simp; omega
        rw [e1]; simp
theorem get_none {t : Tr} (h : Srt t.toL) (k : Int) : t.get k = none ↔ k ∉ t.toL.map (·.1) := by
  rw [get_eq t k h]
  simp only [Option.map_eq_none_iff, List.find?_eq_none, decide_eq_true_eq, List.mem_map, not_exists, not_and]
theorem get_with {t : Tr} (h : Srt t.toL) (k v k2 : Int) : (t.with_ k v).get k2 = if k2 = k then some v else t.get k2 := by
  have hs : Srt (t.with_ k v).toL := by rw [with_toL t k v h]; exact put_srt h k v
  rw [get_eq _ _ hs, with_toL t k v h, get_eq _ _ h]
  simp only [put, List.find?_append, List.find?_cons]
  by_cases e : k2 = k
  · subst e
    have e1 : (t.toL.filter fun e => decide (e.1 < k2)).find? (fun e => decide (e.1 = k2)) = none := List.find?_eq_none.2 fun e he => by have := (List.mem_filter.1 he).2; simp at this ⊢; omega
    rw [e1]; simp
  · rw [if_neg e]
    have e2 : decide (k = k2) = false := by simp; omega
    rw [e2]
    simp only [Bool.false_eq_true, if_false, List.find?_filter]
    congr 1
    have : ∀ l : List (Int × Int), Srt l → (l.find? fun a => decide (a.1 < k) && decide (a.1 = k2)).or (l.find? fun a => decide (k < a.1) && decide (a.1 = k2)) = l.find? fun a => decide (a.1 = k2) := by
      intro l hl
      induction l with
      | nil => rfl
      | cons a l ih =>
        have hl' := List.pairwise_cons.1 hl
        simp only [List.find?_cons]
        by_cases q : a.1 = k2
        · by_cases q2 : a.1 < k
          · simp [q, q2]; rw [q] at q2; simp [q2]
          · have q3 : k < a.1 := by omega
            have q4 : l.find? (fun a => decide (a.1 < k) && decide (a.1 = k2)) = none := List.find?_eq_none.2 fun e he => by have := hl'.1 e he; simp; omega
            rw [q4]
            simp [q, q2]
            rw [q] at q2 q3; simp [q2, q3]
        · simp [q]; exact ih hl'.2
    simp only [Bool.decide_and, Bool.decide_eq_true]
    exact this _ h
theorem at_eq : ∀ (t : Tr) (i : Int), 0 ≤ i → t.at_ i = t.toL[i.toNat]?
  | nil, i, _ => by simp [at_, toL]
  | node l k v r, i, hi => by
    simp only [at_, toL]
    have hz := sz_toL l
    split
    · rename_i h
      rw [at_eq l i hi, List.getElem?_append_left (by omega)]
    · split
      · rename_i h0 h
        rw [at_eq r _ (by omega), List.getElem?_append_right (by omega)]
        have : i.toNat - l.toL.length = (i - (1 + l.sz)).toNat + 1 := by omega
        rw [this, List.getElem?_cons_succ]
      · have : i.toNat = l.toL.length := by omega
        rw [this, List.getElem?_append_right (by omega)]
        simp
theorem zjC : ∀ (t : Tr) (b : Int), Srt t.toL → (t.cut b).1.toL = t.toL.filter (fun e => decide (e.1 < b)) ∧ (t.cut b).2.toL = t.toL.filter (fun e => decide (b ≤ e.1))
  | nil, b, _ => by simp [cut, toL]
  | node l k v r, b, h => by
    obtain ⟨h1, h2, h3, h4⟩ := zgd.1 h
    simp only [cut, toL, List.filter_append, List.filter_cons]
    split
    · rename_i hk
      obtain ⟨i1, i2⟩ := zjC r b h2
      simp only [join_toL, i1, i2]
      have e1 : l.toL.filter (fun e => decide (e.1 < b)) = l.toL := zbw fun e he => by have := h3 e he; simp; omega
      have e2 : l.toL.filter (fun e => decide (b ≤ e.1)) = [] := zdh fun e he => by have := h3 e he; simp; omega
      have e3 : ¬ b ≤ k := by omega
      simp [e1, e2, e3, hk]
    · rename_i hk
      obtain ⟨i1, i2⟩ := zjC l b h1
      simp only [join_toL, i1, i2]
      have e1 : r.toL.filter (fun e => decide (b ≤ e.1)) = r.toL := zbw fun e he => by have := h4 e he; simp; omega
      have e2 : r.toL.filter (fun e => decide (e.1 < b)) = [] := zdh fun e he => by have := h4 e he; simp; omega
      have e3 : b ≤ k := by omega
      simp [e1, e2, e3, hk]
theorem cut_len (t : Tr) (b : Int) (h : Srt t.toL) : (t.cut b).1.sz = (t.toL.countP fun e => decide (e.1 < b) : Nat) := by
  rw [sz_toL, (zjC t b h).1, List.countP_eq_length_filter]
theorem least_toL : ∀ (t : Tr), t ≠ nil → t.toL = t.least.1 :: t.least.2.toL
  | nil, h => absurd rfl h
  | node nil k v r, _ => by simp [least, toL]
  | node (node a b c d) k v r, _ => by
    have := least_toL (node a b c d) (by simp)
    simp only [least, zcs]
    rw [toL, this]; simp
theorem without_toL : ∀ (t : Tr) (k : Int), Srt t.toL → (t.without k).toL = t.toL.filter fun e => !decide (e.1 = k)
  | nil, k, _ => by simp [without, toL]
  | node l k' v' r, k, h => by
    obtain ⟨h1, h2, h3, h4⟩ := zgd.1 h
    simp only [without]
    split
    · rename_i hk
      rw [zcs, without_toL l k h1]
      simp only [toL, List.filter_append, List.filter_cons]
      have e1 : r.toL.filter (fun e => !decide (e.1 = k)) = r.toL := zbw fun e he => by have := h4 e he; simp; omega
      have e2 : ¬ k' = k := by omega
      simp [e1, e2]
    · split
      · rename_i hk0 hk
        rw [zcs, without_toL r k h2]
        simp only [toL, List.filter_append, List.filter_cons]
        have e1 : l.toL.filter (fun e => !decide (e.1 = k)) = l.toL := zbw fun e he => by have := h3 e he; simp; omega
        have e2 : ¬ k' = k := by omega
        simp [e1, e2]
      · have : k' = k := by omega
        subst this
        have e1 : l.toL.filter (fun e => !decide (e.1 = k')) = l.toL := zbw fun e he => by have := h3 e he; simp; omega
        have e2 : r.toL.filter (fun e => !decide (e.1 = k')) = r.toL := zbw fun e he => by have := h4 e he; simp; omega
        cases r with
        | nil =>
          simp only [toL, List.filter_append, List.filter_cons]
          simp [e1]
        | node a b c d =>
          simp only [zcs]
          have h5 := least_toL (node a b c d) (by simp)
          rw [toL, List.filter_append, List.filter_cons, e1, e2]
          simp only [decide_true, Bool.not_true, Bool.false_eq_true, if_false]
          rw [h5]
end Tr
end Go.Proofs.YtpboabpapgimoaaGreat.Av
namespace Go.Proofs.YtpboabpapgimoaaGreat.Av
open Go
set_option linter.unusedSimpArgs false
set_option linter.unusedVariables false
set_option maxRecDepth 100000
set_option maxHeartbeats 2000000
set_option pp.maxSteps 300
def zfF (l : List Ru) (d a : Int) : Bool := l.any (zdN d a) && decide ((zck (l.filter (zdN d a))).kind = 3)
theorem zlB (l : List Ru) (f : Bool) (d a : Int) (hl : l.length < 2932031007403) : PCalls Tryz.prog 104 [zz l f, .raw (.int .i64 d), .raw (.int .u32 a)] (.raw (.bool (zfF l d a))) := by
  have hf := zhG (g := 117) (caps := [.pp [.raw (.int .i64 d)] 0, .pp [.raw (.int .u32 a)] 0]) l f hl (fun r _ => znq r d a)
  obtain ⟨b, hb⟩ : ∃ b, l.any (zdN d a) = b := ⟨_, rfl⟩
  obtain ⟨m, hmm⟩ : ∃ m, zck (l.filter (zdN d a)) = m := ⟨_, rfl⟩
  unfold zfF
  rw [hb, hmm] at hf ⊢
  refine zE Tryz.func104 rfl (N := 21) rfl rfl (by simp) (by simp [noIds]) fun σ => ?_
  repeat (refine ze ?_)
  refine zg ?_
  simp
  refine zai ⟨4, σ.nx 4, 1⟩ ?_
  refine zai ⟨5, σ.nx 5, 1⟩ ?_
  generalize hτ : St.del _ _ = τ
  generalize hA : (fun t => zw _ _ _) = A
  have a0 : A 0 = zz l f := by rw [← hA]; simp [zz]
  have a4 : A 4 = .pp [.raw (.int .i64 d)] 0 := by rw [← hA, ← hτ]; simp [zw, St.new, St.del]
  have a5 : A 5 = .pp [.raw (.int .u32 a)] 0 := by rw [← hA, ← hτ]; simp [zw, St.new, St.del]
  have hE : Ext σ τ := by
    rw [← hτ]
    refine ⟨fun i o h => ?_, fun s => ?_⟩
    · rw [zL (fun e => by rw [e, zb] at h; cases h), zL (fun e => by rw [e, zb] at h; cases h)]
      exact zat _ _ (zat _ _ h)
    · exact Nat.le_trans (St.new_le σ 4 1 (.buf [.raw (.int .i64 d)]) s) (St.new_le (σ.new 4 1 (.buf [.raw (.int .i64 d)])) 5 1 (.buf [.raw (.int .u32 a)]) s)
  clear hτ hA
  have FF := fI @a0 (fI @a4 @a5); refine zx ?_; clear FF
  refine PCalls.use hf ?_
  have FF := fI @a0 (fI @a4 (fI @a5 (fI @zJ (fI @zbV @hE)))); exact goA
def zej (l : List Ru) (d a : Int) : Ru := zck (l.filter (zdO d a))
def zgX (l : List Ru) (d a : Int) : Bool := l.any (zdO d a)
theorem zms (l : List Ru) (f : Bool) (d a : Int) (hl : l.length < 2932031007403) : PCalls Tryz.prog 105 [zz l f, .raw (.int .i64 d), .raw (.int .u32 a)] (.tup [zah (zej l d a), .raw (.bool (zgX l d a))]) := by
  have hf := zhG (g := 119) (caps := [.pp [.raw (.int .i64 d)] 0, .pp [.raw (.int .u32 a)] 0]) l f hl (fun r _ => znr r d a)
  unfold zej zgX
  obtain ⟨b, hb⟩ : ∃ b, l.any (zdO d a) = b := ⟨_, rfl⟩
  obtain ⟨m, hmm⟩ : ∃ m, zck (l.filter (zdO d a)) = m := ⟨_, rfl⟩
  rw [hb, hmm] at hf ⊢
  refine zE Tryz.func105 rfl (N := 13) rfl rfl (by simp) (by simp [noIds, zah]) fun σ => ?_
  repeat (refine ze ?_)
  refine zg ?_
  simp
  refine zai ⟨4, σ.nx 4, 1⟩ ?_
  refine zai ⟨5, σ.nx 5, 1⟩ ?_
  generalize hτ : St.del _ _ = τ
  generalize hA : (fun t => zw _ _ _) = A
  have a0 : A 0 = zz l f := by rw [← hA]; simp [zz]
  have a4 : A 4 = .pp [.raw (.int .i64 d)] 0 := by rw [← hA, ← hτ]; simp [zw, St.new, St.del]
  have a5 : A 5 = .pp [.raw (.int .u32 a)] 0 := by rw [← hA, ← hτ]; simp [zw, St.new, St.del]
  have a6 : A 6 = .rp ⟨6, σ.nx 6, 7⟩ 0 0 := by rw [← hA, ← hτ]; simp [zw, St.new, St.del]
  have m6 : τ.m ⟨6, σ.nx 6, 7⟩ = some (.buf [zah ⟨0, 0, 0, 0, ⟨0, 0⟩, 0⟩]) := by rw [← hτ]; simp [St.new, St.del, zah]
  have hE : Ext σ τ := by
    rw [← hτ]
    refine ⟨fun i o h => ?_, fun s => ?_⟩
    · rw [zL (fun e => by rw [e, zb] at h; cases h), zL (fun e => by rw [e, zb] at h; cases h)]
      exact zat _ _ (zat _ _ (zat _ _ h))
    · exact Nat.le_trans (Nat.le_trans (St.new_le σ 4 1 (.buf [.raw (.int .i64 d)]) s) (St.new_le (σ.new 4 1 (.buf [.raw (.int .i64 d)])) 5 1 (.buf [.raw (.int .u32 a)]) s)) (St.new_le ((σ.new 4 1 (.buf [.raw (.int .i64 d)])).new 5 1 (.buf [.raw (.int .u32 a)])) 6 7 (.buf [zah ⟨0, 0, 0, 0, ⟨0, 0⟩, 0⟩]) s)
  clear hτ hA
  have f6 : σ.m ⟨6, σ.nx 6, 7⟩ = none := zb _ _ _
  have FF := fI @a0 (fI @a4 (fI @a5 (fI @a6 @m6))); refine zx ?_; clear FF
  refine PCalls.use hf ?_
  have FF := fI @a0 (fI @a4 (fI @a5 (fI @a6 (fI @m6 (fI @zJ @zdM))))); refine goC ?_; clear FF
  exact zv (.inr rfl) rfl (hE.setF f6) (by simp [a6, m6, St.set, zJ]; exact zap _)
def zdi (last : Int) : List Ru → Bool
  | [] => true
  | r :: l => zd6 r && decide (last < r.id) && zdi r.id l
def zh9 (l : List Ru) : Bool := zdi 0 l && decide (l.length ≤ 40)
end Go.Proofs.YtpboabpapgimoaaGreat.Av
namespace Go.Proofs.YtpboabpapgimoaaGreat.Av
open Go
set_option linter.unusedSimpArgs false
set_option linter.unusedVariables false
set_option maxRecDepth 100000
set_option maxHeartbeats 2000000
set_option pp.maxSteps 300
def zao (n : Nw) (d a : Int) : Int × Pt :=
  if zfF n.rules d a = true then (2, ⟨0, 0⟩) else if zgX n.rules d a = false then (0, ⟨0, 0⟩) else if (zej n.rules d a).kind = 1 then (1, ⟨0, 0⟩)
  else if (zcb n.t ⟨d, (zej n.rules d a).port⟩).isSome = true then (4, ⟨d, (zej n.rules d a).port⟩) else (3, ⟨d, (zej n.rules d a).port⟩)
theorem zs (n : Nw) (f : Fl) : (zau n f).cells = [zp n.t.ports f.p, zF n.t.links f.l, zz n.rules f.r] := rfl
theorem znt (n : Nw) (f : Fl) (d a : Int) (hl : n.t.links.length < 2 ^ 42) (hl2 : n.rules.length < 2932031007403) :
    PCalls Tryz.prog 79 [zau n f, .raw (.int .i64 d), .raw (.int .u32 a)] (.tup [.raw (.int .i64 (zao n d a).1), zag (zao n d a).2]) := by
  have hd := zlB n.rules f.r d a hl2
  have hm := zms n.rules f.r d a hl2
  have hn := fun p => ziY n.t f p hl
  unfold zao
  obtain ⟨b1, h1⟩ : ∃ b, zfF n.rules d a = b := ⟨_, rfl⟩
  obtain ⟨b2, h2⟩ : ∃ b, zgX n.rules d a = b := ⟨_, rfl⟩
  obtain ⟨r, hr⟩ : ∃ r, zej n.rules d a = r := ⟨_, rfl⟩
  rw [h1] at hd
  rw [h2, hr] at hm
  rw [h1, h2, hr]
  clear h1 h2 hr
  have hn := hn ⟨d, r.port⟩
  obtain ⟨b3, h3⟩ : ∃ b, (zcb n.t ⟨d, r.port⟩).isSome = b := ⟨_, rfl⟩
  obtain ⟨q, hq⟩ : ∃ q, (zcb n.t ⟨d, r.port⟩).getD ⟨0, 0⟩ = q := ⟨_, rfl⟩
  rw [h3, hq] at hn
  rw [h3]
  refine zE Tryz.func79 rfl (N := 50) rfl rfl (by simp) (by simp [noIds, zag]) fun σ => ?_
  have ho1 : cellOK (zp n.t.ports f.p) = true := rfl
  have ho2 : cellOK (zF n.t.links f.l) = true := rfl
  have ho3 : cellOK (zz n.rules f.r) = true := rfl
  simp only [cellOK] at ho1 ho2 ho3
  have hpf : ∀ x y : Int, AV.agg [.raw (.int .i64 x), .raw (.int .i64 y)] = zag ⟨x, y⟩ := fun _ _ => rfl
  have hpc : ∀ q : Pt, (zag q).cells = [.raw (.int .i64 q.dev), .raw (.int .i64 q.port)] := fun q => rfl
  have hps : ∀ (q : Pt) (x y : Int), setPart (zag q) 0 [.raw (.int .i64 x), .raw (.int .i64 y)] = zag ⟨x, y⟩ := fun _ _ _ => rfl
  have f7 : σ.m ⟨7, σ.nx 7, 2⟩ = none := zb _ _ _
  have hnf : AV.agg [zp n.t.ports f.p, zF n.t.links f.l] = zbZ n.t f := rfl
  have FF := fI @zs (fI @ho1 (fI @ho2 (fI @ho3 (fI @hpf (fI @hpc @hps))))); refine zx ?_; clear FF
  refine PCalls.use hd ?_
  cases b1 with
  | true =>
    have FF := fI @zs (fI @ho1 (fI @ho2 (fI @ho3 (fI @hpf (fI @hpc @hps))))); refine goC ?_; clear FF
    refine zv (.inr rfl) rfl (by repeat (first | exact Ext.refl _ | refine zS ?_ | refine Ext.setF ?_ (by simp [zk, St.set, zb]))) ?_
    simp [St.set, St.new, hpc, hpf, hps]
  | false =>
    have FF := fI @zs (fI @ho1 (fI @ho2 (fI @ho3 (fI @hpf (fI @hpc @hps))))); refine zx ?_; clear FF
    refine PCalls.use hm ?_
    cases b2 with
    | false =>
      have FF := fI @zs (fI @ho1 (fI @ho2 (fI @ho3 (fI @hpf (fI @hpc (fI @hps (fI @zJ (fI @zbV @zap)))))))); refine goC ?_; clear FF
      refine zv (.inr rfl) rfl (by repeat (first | exact Ext.refl _ | refine zS ?_ | refine Ext.setF ?_ (by simp [zk, St.set, zb]))) ?_
      simp [St.set, St.new, hpc, hpf, hps]
    | true =>
      by_cases hk : r.kind = 1
      · have FF := fI @zs (fI @ho1 (fI @ho2 (fI @ho3 (fI @hpf (fI @hpc (fI @hps (fI @zJ (fI @zbV (fI @zap @hk))))))))); refine goC ?_; clear FF
        refine zv (.inr rfl) rfl (by repeat (first | exact Ext.refl _ | refine zS ?_ | refine Ext.setF ?_ (by simp [zk, St.set, zb]))) ?_
        simp [St.set, St.new, hpc, hpf, hps, hk]
      · have FF := fI @zs (fI @ho1 (fI @ho2 (fI @ho3 (fI @hpf (fI @hpc (fI @hps (fI @zJ (fI @zbV (fI @zap (fI @hk (fI @hnf (fI @zR (fI @z0 @zk))))))))))))); refine zx ?_; clear FF
        refine PCalls.use hn ?_
        cases b3 with
        | true =>
          have FF := fI @zs (fI @ho1 (fI @ho2 (fI @ho3 (fI @hpf (fI @hpc (fI @hps (fI @zJ (fI @zbV (fI @zap (fI @hk (fI @hnf (fI @zR (fI @z0 @zk))))))))))))); refine goC ?_; clear FF
          refine zv (.inr rfl) rfl (by repeat (first | exact Ext.refl _ | refine zS ?_ | refine Ext.setF ?_ (by simp [zk, St.set, zb]))) ?_
          simp [St.set, St.new, hpc, hpf, hps, hk]
        | false =>
          have FF := fI @zs (fI @ho1 (fI @ho2 (fI @ho3 (fI @hpf (fI @hpc (fI @hps (fI @zJ (fI @zbV (fI @zap (fI @hk (fI @hnf (fI @zR (fI @z0 @zk))))))))))))); refine goC ?_; clear FF
          refine zv (.inr rfl) rfl (by repeat (first | exact Ext.refl _ | refine zS ?_ | refine Ext.setF ?_ (by simp [zk, St.set, zb]))) ?_
          simp [St.set, St.new, hpc, hpf, hps, hk]
end Go.Proofs.YtpboabpapgimoaaGreat.Av
namespace Go.Proofs.YtpboabpapgimoaaGreat.Av
open Go
set_option linter.unusedSimpArgs false
set_option linter.unusedVariables false
set_option maxRecDepth 100000
set_option maxHeartbeats 2000000
set_option pp.maxSteps 600
def Tr.av : Tr → AV
  | .nil => .raw (.pointer none)
  | .node l k v r => .pp [.raw (.int .u64 k), .raw (.int .i64 v), l.av, r.av, .raw (.int .i64 (Tr.node l k v r).ht), .raw (.int .i64 (Tr.node l k v r).sz)] 0
def zc8 (k v : Int) : AV := .agg [.raw (.int .u64 k), .raw (.int .i64 v)]
@[simp] theorem zqZ : Tr.nil.av = .raw (.pointer none) := rfl
theorem zaX (l : Tr) (k v : Int) (r : Tr) : (Tr.node l k v r).av = .pp [.raw (.int .u64 k), .raw (.int .i64 v), l.av, r.av, .raw (.int .i64 (Tr.node l k v r).ht), .raw (.int .i64 (Tr.node l k v r).sz)] 0 := rfl
@[simp] theorem zoq (K : Id → Prop) : ∀ t : Tr, t.av.ids K
  | .nil => by simp [Tr.av, AV.ids]
  | .node l k v r => by simp only [Tr.av, AV.ids, zV, zoq K l, zoq K r, and_self]
@[simp] theorem ztU (t : Tr) : t.av.cells = [t.av] := by cases t <;> rfl
@[simp] theorem ztV (t : Tr) : cellOK t.av = true := by cases t <;> rfl
theorem znu (t : Tr) (off : Nat) (x : AV) : setPart t.av off [x] = x := by cases t <;> rfl
theorem zbx (t : Tr) : PCalls Tryz.prog 130 [t.av] (.raw (.int .i64 t.ht)) := by
  refine zE Tryz.func130 rfl (N := 9) rfl rfl (by simp) (by simp [noIds]) fun σ => ?_
  cases t with
  | nil => (try ((first | with_reducible refine zo ?_ | with_reducible refine zt ?_ | with_reducible refine zu ?_); simp [-cellOK, Tr.ht])); repeat' (first | ((first | refine zf ?_ | refine zg ?_ | refine dN (by decide +kernel) ?_ | refine dC (by decide +kernel) ?_ | (refine za ?_ ?_ <;> (intro hg; simp only [hg])) | fail) <;> simp [-cellOK, Tr.ht]) | refine ze ?_ | refine zd ?_ | (refine zA ?_; simp only [zB]; try simp) | (refine zm (by simp) ?_; simp) | (refine zan (by simp) (by simp [noIds]) (by repeat (first | assumption | exact Ext.refl _ | refine zS ?_ | refine Ext.setF ?_ (by first | assumption | (simp [zk, St.set, zb]; done) | exact zN (by assumption)))) ?_; simp [-cellOK, Tr.ht, nsE]) | (refine zc (fun hc => ?_) (fun hc => ?_) <;> try simp at hc) | fail)
  | node l k v r =>
    obtain ⟨h, hh⟩ : ∃ h, (Tr.node l k v r).ht = h := ⟨_, rfl⟩
    rw [hh]
    have FF := fI @zaX @hh; exact gxA
theorem zcV (t : Tr) : PCalls Tryz.prog 103 [t.av] (.raw (.int .i64 t.sz)) := by
  refine zE Tryz.func103 rfl (N := 9) rfl rfl (by simp) (by simp [noIds]) fun σ => ?_
  cases t with
  | nil => (try ((first | with_reducible refine zo ?_ | with_reducible refine zt ?_ | with_reducible refine zu ?_); simp [-cellOK, Tr.sz])); repeat' (first | ((first | refine zf ?_ | refine zg ?_ | refine dN (by decide +kernel) ?_ | refine dC (by decide +kernel) ?_ | (refine za ?_ ?_ <;> (intro hg; simp only [hg])) | fail) <;> simp [-cellOK, Tr.sz]) | refine ze ?_ | refine zd ?_ | (refine zA ?_; simp only [zB]; try simp) | (refine zm (by simp) ?_; simp) | (refine zan (by simp) (by simp [noIds]) (by repeat (first | assumption | exact Ext.refl _ | refine zS ?_ | refine Ext.setF ?_ (by first | assumption | (simp [zk, St.set, zb]; done) | exact zN (by assumption)))) ?_; simp [-cellOK, Tr.sz, nsE]) | (refine zc (fun hc => ?_) (fun hc => ?_) <;> try simp at hc) | fail)
  | node l k v r =>
    obtain ⟨h, hh⟩ : ∃ h, (Tr.node l k v r).sz = h := ⟨_, rfl⟩
    rw [hh]
    have FF := fI @zaX @hh; exact gxA
@[simp] theorem zab (k v : Int) : (zc8 k v).cells = [.raw (.int .u64 k), .raw (.int .i64 v)] := rfl
@[simp] theorem zwz (K : Id → Prop) (k v : Int) : (zc8 k v).ids K := by simp [zc8]
theorem zdP {α : Type} {K : Id → Prop} {f : α → AV} (h : ∀ x, (f x).ids K) : ∀ l : List α, zV K (l.map f)
  | [] => by simp
  | a :: l => by simp only [List.map_cons, zV]; exact ⟨h a, zdP h l⟩
@[simp] theorem zsG (K : Id → Prop) (n : Int) : (iAV n).ids K := by simp [iAV]
@[simp] theorem zq0 (K : Id → Prop) (p : Lk) : (zh4 p).ids K := by simp [zh4]
@[simp] theorem zq1 (K : Id → Prop) (p : Rg) : (zl p).ids K := by simp [zl]
@[simp] theorem zq2 (K : Id → Prop) (p : Ru) : (zah p).ids K := by simp [zah]
@[simp] theorem ztW (K : Id → Prop) (l : List Int) (f : Bool) : (zp l f).ids K := by simp only [zp, AV.ids]; exact zdP (zsG K) l
@[simp] theorem ztb (K : Id → Prop) (l : List Lk) (f : Bool) : (zF l f).ids K := by simp only [zF, AV.ids]; exact zdP (zq0 K) l
@[simp] theorem ztc (K : Id → Prop) (l : List Ru) (f : Bool) : (zz l f).ids K := by simp only [zz, AV.ids]; exact zdP (zq2 K) l
@[simp] theorem zwA (K : Id → Prop) (n : Nw) (f : Fl) : (zau n f).ids K := by simp [zau]
@[simp] theorem zuI (l : List Int) (f : Bool) : cellOK (zp l f) = true := rfl
@[simp] theorem ztX (l : List Lk) (f : Bool) : cellOK (zF l f) = true := rfl
@[simp] theorem ztY (l : List Ru) (f : Bool) : cellOK (zz l f) = true := rfl
theorem zaf (k v : Int) : AV.agg [.raw (.int .u64 k), .raw (.int .i64 v)] = zc8 k v := rfl
theorem zbB (k v : Int) : Av.setPart (zc8 0 0) 0 [.raw (.int .u64 k), .raw (.int .i64 v)] = zc8 k v := rfl
theorem za3 (l : Tr) (k v : Int) (r : Tr) (h : l.sz + r.sz < 2 ^ 60) : PCalls Tryz.prog 112 [l.av, zc8 k v, r.av] (Tr.node l k v r).av := by
  have z1 := l.ht_nn
  have z2 := r.ht_nn
  have z3 := l.sz_nn
  have z4 := r.sz_nn
  have z5 := l.ht_le
  have z6 := r.ht_le
  have e1 : IntKind.i64.wrap (1 + (if l.ht < r.ht then r.ht else l.ht)) = (Tr.node l k v r).ht := by
    rw [zh (by split <;> omega) (by split <;> omega)]; simp only [Tr.ht]; split <;> omega
  have e2 : IntKind.i64.wrap (1 + l.sz) = 1 + l.sz := zh (by omega) (by omega)
  have e3 : IntKind.i64.wrap (1 + l.sz + r.sz) = (Tr.node l k v r).sz := by
    rw [zh (by omega) (by omega)]; rfl
  obtain ⟨H, hH⟩ : ∃ h, (Tr.node l k v r).ht = h := ⟨_, rfl⟩
  obtain ⟨Z, hZ⟩ : ∃ h, (Tr.node l k v r).sz = h := ⟨_, rfl⟩
  have hh1 := zbx l
  have hh2 := zbx r
  have hs1 := zcV l
  have hs2 := zcV r
  rw [zaX, hH, hZ]
  rw [hH] at e1
  rw [hZ] at e3
  refine zE Tryz.func112 rfl (N := 24) rfl rfl (by simp) (by simp [noIds]) fun σ => ?_
  have FF := fI @zab (fI @zaf (fI @znu (fI @e1 (fI @e2 @e3)))); refine gxC ?_; clear FF
  refine zbg (x := .rp ⟨23, σ.nx 23, 6⟩ 0 0) (.inr rfl) exA ?_ ?_
  · simp [zk]
  · simp [zZ, zw, zb, zR, zk]
end Go.Proofs.YtpboabpapgimoaaGreat.Av
namespace Go.Proofs.YtpboabpapgimoaaGreat.Av
open Go
set_option linter.unusedSimpArgs false
set_option linter.unusedVariables false
set_option maxRecDepth 100000
set_option maxHeartbeats 4000000
set_option pp.maxSteps 600
theorem zb8 (l : Tr) (k v : Int) (r : Tr) (h : l.sz + r.sz < 2 ^ 50) : PCalls Tryz.prog 113 [l.av, zc8 k v, r.av] (Tr.even l k v r).av := by
  have z1 := l.ht_nn
  have z2 := r.ht_nn
  have z3 := l.sz_nn
  have z4 := r.sz_nn
  have z5 := l.ht_le
  have z6 := r.ht_le
  have w1 : IntKind.i64.wrap (r.ht + 1) = r.ht + 1 := zh (by omega) (by omega)
  have w2 : IntKind.i64.wrap (l.ht + 1) = l.ht + 1 := zh (by omega) (by omega)
  have hl := zbx l
  have hr := zbx r
  by_cases h1 : r.ht + 1 < l.ht
  · cases l with
    | nil => simp only [Tr.ht] at h1; omega
    | node ll lk lv lr =>
      have y1 := ll.sz_nn
      have y2 := lr.sz_nn
      have y3 := ll.ht_nn
      have y4 := lr.ht_nn
      have hz : (Tr.node ll lk lv lr).sz = 1 + ll.sz + lr.sz := rfl
      have g1 := zbx ll
      have g2 := zbx lr
      rw [zaX] at hl ⊢
      obtain ⟨H, hH⟩ : ∃ H, (Tr.node ll lk lv lr).ht = H := ⟨_, rfl⟩
      obtain ⟨Z, hZ⟩ : ∃ Z, (Tr.node ll lk lv lr).sz = Z := ⟨_, rfl⟩
      by_cases h2 : lr.ht ≤ ll.ht
      · have m1 := za3 lr k v r (by omega)
        have m2 := za3 ll lk lv (.node lr k v r) (by simp only [Tr.sz]; omega)
        have e : Tr.even (.node ll lk lv lr) k v r = .node ll lk lv (.node lr k v r) := by simp only [Tr.even, if_pos h1, if_pos h2]
        rw [e]
        rw [hH] at h1 hl w2 ⊢
        rw [hZ] at hl
        refine zE Tryz.func113 rfl (N := 139) rfl rfl (by simp) (by simp [noIds]) fun σ => ?_
        rw [hZ]
        generalize Tr.node ll lk lv (.node lr k v r) = T at m2 ⊢
        generalize Tr.node lr k v r = U at m1 m2
        have FF := fI @zab (fI @zaf (fI @h1 (fI @h2 (fI @w1 @w2)))); exact gxA
      · cases lr with
        | nil => simp only [Tr.ht] at h2; omega
        | node a mk mv b =>
          have x1 := a.sz_nn
          have x2 := b.sz_nn
          have hz2 : (Tr.node a mk mv b).sz = 1 + a.sz + b.sz := rfl
          have m1 := za3 ll lk lv a (by omega)
          have m2 := za3 b k v r (by omega)
          have m3 := za3 (.node ll lk lv a) mk mv (.node b k v r) (by simp only [Tr.sz]; omega)
          have e : Tr.even (.node ll lk lv (.node a mk mv b)) k v r = .node (.node ll lk lv a) mk mv (.node b k v r) := by simp only [Tr.even, if_pos h1, if_neg h2]
          rw [e]
          have hm := zaX a mk mv b
          obtain ⟨H2, hH2⟩ : ∃ H, (Tr.node a mk mv b).ht = H := ⟨_, rfl⟩
          obtain ⟨Z2, hZ2⟩ : ∃ Z, (Tr.node a mk mv b).sz = Z := ⟨_, rfl⟩
          rw [hH, hZ] at hl ⊢
          rw [hH] at h1 w2
          rw [hH2] at h2
          rw [hH2, hZ2] at hm
          rw [hH2, hm] at g2
          rw [hm] at hl ⊢
          refine zE Tryz.func113 rfl (N := 139) rfl rfl (by simp) (by simp [noIds]) fun σ => ?_
          generalize Tr.node (.node ll lk lv a) mk mv (.node b k v r) = T at m3 ⊢
          generalize Tr.node ll lk lv a = U at m1 m3
          generalize Tr.node b k v r = V at m2 m3
          have FF := fI @zab (fI @zaf (fI @h1 (fI @h2 (fI @w1 @w2)))); exact gxA
  · by_cases h3 : l.ht + 1 < r.ht
    · cases r with
      | nil => simp only [Tr.ht] at h3; omega
      | node rl rk rv rr =>
        have y1 := rl.sz_nn
        have y2 := rr.sz_nn
        have y3 := rl.ht_nn
        have y4 := rr.ht_nn
        have hz : (Tr.node rl rk rv rr).sz = 1 + rl.sz + rr.sz := rfl
        have g1 := zbx rl
        have g2 := zbx rr
        rw [zaX] at hr ⊢
        obtain ⟨H, hH⟩ : ∃ H, (Tr.node rl rk rv rr).ht = H := ⟨_, rfl⟩
        obtain ⟨Z, hZ⟩ : ∃ Z, (Tr.node rl rk rv rr).sz = Z := ⟨_, rfl⟩
        by_cases h2 : rl.ht ≤ rr.ht
        · have m1 := za3 l k v rl (by omega)
          have m2 := za3 (.node l k v rl) rk rv rr (by simp only [Tr.sz]; omega)
          have e : Tr.even l k v (.node rl rk rv rr) = .node (.node l k v rl) rk rv rr := by simp only [Tr.even, if_neg h1, if_pos h3, if_pos h2]
          rw [e]
          rw [hH] at h1 h3 w1
          rw [hH, hZ] at hr ⊢
          refine zE Tryz.func113 rfl (N := 139) rfl rfl (by simp) (by simp [noIds]) fun σ => ?_
          generalize Tr.node (.node l k v rl) rk rv rr = T at m2 ⊢
          generalize Tr.node l k v rl = U at m1 m2
          have FF := fI @zab (fI @zaf (fI @h1 (fI @h2 (fI @h3 (fI @w1 @w2))))); exact gxA
        · cases rl with
          | nil => simp only [Tr.ht] at h2; omega
          | node a mk mv b =>
            have x1 := a.sz_nn
            have x2 := b.sz_nn
            have hz2 : (Tr.node a mk mv b).sz = 1 + a.sz + b.sz := rfl
            have m1 := za3 l k v a (by omega)
            have m2 := za3 b rk rv rr (by omega)
            have m3 := za3 (.node l k v a) mk mv (.node b rk rv rr) (by simp only [Tr.sz]; omega)
            have e : Tr.even l k v (.node (.node a mk mv b) rk rv rr) = .node (.node l k v a) mk mv (.node b rk rv rr) := by simp only [Tr.even, if_neg h1, if_pos h3, if_neg h2]
            rw [e]
            have hm := zaX a mk mv b
            obtain ⟨H2, hH2⟩ : ∃ H, (Tr.node a mk mv b).ht = H := ⟨_, rfl⟩
            obtain ⟨Z2, hZ2⟩ : ∃ Z, (Tr.node a mk mv b).sz = Z := ⟨_, rfl⟩
            rw [hH, hZ] at hr ⊢
            rw [hH] at h1 h3 w1
            rw [hH2] at h2
            rw [hH2, hZ2] at hm
            rw [hH2, hm] at g1
            rw [hm] at hr ⊢
            refine zE Tryz.func113 rfl (N := 139) rfl rfl (by simp) (by simp [noIds]) fun σ => ?_
            generalize Tr.node (.node l k v a) mk mv (.node b rk rv rr) = T at m3 ⊢
            generalize Tr.node l k v a = U at m1 m3
            generalize Tr.node b rk rv rr = V at m2 m3
            have FF := fI @zab (fI @zaf (fI @h1 (fI @h2 (fI @h3 (fI @w1 @w2))))); exact gxA
    · have m1 := za3 l k v r (by omega)
      have e : Tr.even l k v r = .node l k v r := by simp only [Tr.even, if_neg h1, if_neg h3]
      rw [e]
      refine zE Tryz.func113 rfl (N := 139) rfl rfl (by simp) (by simp [noIds]) fun σ => ?_
      generalize Tr.node l k v r = T at m1 ⊢
      have FF := fI @zab (fI @zaf (fI @h1 (fI @h3 (fI @w1 @w2)))); exact gxA
def trP (t : Tr) : AV := .pp [t.av] 0
@[simp] theorem zuJ (K : Id → Prop) (t : Tr) : (trP t).ids K := by simp [trP, AV.ids]
@[simp] theorem ztd (t : Tr) : (trP t).cells = [trP t] := rfl
@[simp] theorem zwB (t : Tr) : cellOK (trP t) = true := rfl
@[simp] theorem zte (t : Tr) : (trP t).flat1 = true := rfl
@[simp] theorem zsH (m m' : z7) (t : Tr) : zw m' m (trP t) = trP t := rfl
theorem zb9 (t : Tr) : PCalls Tryz.prog 97 [trP t] t.av := by
  refine zE Tryz.func97 rfl (N := 9) rfl rfl (by simp) (by simp [noIds]) fun σ => ?_
  have FF := trP.eq_1; exact gxA
theorem zcB (t : Tr) : PCalls Tryz.prog 96 [trP t] (.raw (.int .i64 t.sz)) := by
  refine zE Tryz.func96 rfl (N := 6) rfl rfl (by simp) (by simp [noIds]) fun σ => ?_
  have C0 := zb9 t; have C1 := zcV t; exact zlu
theorem zmt : PCalls Tryz.prog 72 [] (trP .nil) := by
  refine zE Tryz.func72 rfl (N := 3) rfl rfl (by simp) (by simp [noIds]) fun σ => ?_
  refine zlv ?_
  refine zbg (x := .rp ⟨2, σ.nx 2, 1⟩ 0 0) (.inr rfl) exA ?_ ?_
  · simp [zk]
  · simp [zZ, zw, zb, zR, zk, trP]
theorem zfl (t : Tr) (k : Int) : PCalls Tryz.prog 95 [trP t, .raw (.int .u64 k)] (.tup [.raw (.int .i64 ((t.get k).getD 0)), .raw (.bool (t.get k).isSome)]) := by
  refine zE Tryz.func95 rfl (N := 42) rfl rfl (by simp) (by simp [noIds]) fun σ => ?_
  obtain ⟨g, hg⟩ : ∃ g, t.get k = g := ⟨_, rfl⟩
  rw [hg]
  have C0 := zb9 t; refine zpp ?_
  refine zU (fun n A τ => τ = σ ∧ A 1 = .raw (.int .u64 k) ∧ A 6 = .raw (.int .i64 0) ∧ ∃ u : Tr, A 7 = u.av ∧ n = u.sz.toNat ∧ u.get k = g) t.sz.toNat ?_ ?_
  · exact ⟨rfl, by simp, by simp, t, by simp, rfl, hg⟩
  rintro n A τ ⟨rfl, a1, a6, u, a7, rfl, hu⟩ I1 hI1
  cases u with
  | nil =>
    have : g = none := by rw [← hu]; rfl
    subst this
    have FF := fI @a1 (fI @a6 @a7); exact gxA
  | node l k' v' r =>
    have y1 := l.sz_nn
    have y2 := r.sz_nn
    have hz : (Tr.node l k' v' r).sz = 1 + l.sz + r.sz := rfl
    rw [zaX] at a7
    simp only [Tr.get] at hu
    by_cases h1 : k < k'
    · rw [if_pos h1] at hu
      have FF := fI @a1 (fI @a6 (fI @a7 @h1)); refine gxB ?_; clear FF
      exact hI1 _ _ _ (by omega) ⟨rfl, by simp [a1], by simp [a6], l, by simp, rfl, hu⟩
    · rw [if_neg h1] at hu
      by_cases h2 : k' < k
      · rw [if_pos h2] at hu
        have FF := fI @a1 (fI @a6 (fI @a7 (fI @h1 @h2))); refine gxB ?_; clear FF
        exact hI1 _ _ _ (by omega) ⟨rfl, by simp [a1], by simp [a6], r, by simp, rfl, hu⟩
      · rw [if_neg h2] at hu
        subst hu
        have FF := fI @a1 (fI @a6 (fI @a7 (fI @h1 @h2))); exact gxA
theorem Tr.with_sz (t : Tr) (k v : Int) : (t.with_ k v).sz ≤ t.sz + 1 := by
  induction t with
  | nil => simp [Tr.with_, Tr.sz]
  | node l k' v' r ihl ihr =>
    simp only [Tr.with_]
    split
    · rw [Tr.even_sz]; simp only [Tr.sz]; omega
    · split
      · rw [Tr.even_sz]; simp only [Tr.sz]; omega
      · simp only [Tr.sz]; omega
theorem zeX (k v : Int) : ∀ t : Tr, t.sz < 2 ^ 48 → PCalls Tryz.prog 98 [t.av, zc8 k v] (t.with_ k v).av
  | .nil, _ => by
    have m := za3 .nil k v .nil (by simp [Tr.sz])
    rw [zqZ] at m
    have e : Tr.with_ .nil k v = .node .nil k v .nil := rfl
    rw [e]
    refine zE Tryz.func98 rfl (N := 68) rfl rfl (by simp) (by simp [noIds]) fun σ => ?_
    generalize Tr.node .nil k v .nil = T at m ⊢
    have FF := fI @zab @zaf; exact gxA
  | .node l k' v' r, h => by
    have y1 := l.sz_nn
    have y2 := r.sz_nn
    have hz : (Tr.node l k' v' r).sz = 1 + l.sz + r.sz := rfl
    have q1 := l.with_sz k v
    have q2 := r.with_sz k v
    rw [zaX]
    obtain ⟨H, hH⟩ : ∃ H, (Tr.node l k' v' r).ht = H := ⟨_, rfl⟩
    obtain ⟨Z, hZ⟩ : ∃ Z, (Tr.node l k' v' r).sz = Z := ⟨_, rfl⟩
    rw [hH, hZ]
    by_cases h1 : k < k'
    · have e : Tr.with_ (.node l k' v' r) k v = Tr.even (l.with_ k v) k' v' r := by simp only [Tr.with_, if_pos h1]
      have i1 := zeX k v l (by omega)
      have m := zb8 (l.with_ k v) k' v' r (by omega)
      rw [e]
      refine zE Tryz.func98 rfl (N := 68) rfl rfl (by simp) (by simp [noIds]) fun σ => ?_
      generalize Tr.even (l.with_ k v) k' v' r = T at m ⊢
      generalize l.with_ k v = U at i1 m
      have FF := fI @zab (fI @zaf @h1); exact gxA
    · by_cases h2 : k' < k
      · have e : Tr.with_ (.node l k' v' r) k v = Tr.even l k' v' (r.with_ k v) := by simp only [Tr.with_, if_neg h1, if_pos h2]
        have i1 := zeX k v r (by omega)
        have m := zb8 l k' v' (r.with_ k v) (by omega)
        rw [e]
        refine zE Tryz.func98 rfl (N := 68) rfl rfl (by simp) (by simp [noIds]) fun σ => ?_
        generalize Tr.even l k' v' (r.with_ k v) = T at m ⊢
        generalize r.with_ k v = U at i1 m
        have FF := fI @zab (fI @zaf (fI @h1 @h2)); exact gxA
      · have e : Tr.with_ (.node l k' v' r) k v = .node l k v r := by simp only [Tr.with_, if_neg h1, if_neg h2]
        have m := za3 l k v r (by omega)
        rw [e]
        refine zE Tryz.func98 rfl (N := 68) rfl rfl (by simp) (by simp [noIds]) fun σ => ?_
        generalize Tr.node l k v r = T at m ⊢
        have FF := fI @zab (fI @zaf (fI @h1 @h2)); exact gxA
theorem zhH (t : Tr) (k v : Int) (h : t.sz < 2 ^ 48) (hf : t.get k = none → t.sz < 1024) : PCalls Tryz.prog 73 [trP t, .raw (.int .u64 k), .raw (.int .i64 v)] (.tup [trP (t.with_ k v), .raw (.int .i64 0)]) := by
  have hg := zfl t k
  have hw := zeX k v t h
  generalize t.with_ k v = U at hw ⊢
  refine zE Tryz.func73 rfl (N := 31) rfl rfl (by simp) (by simp [noIds]) fun σ => ?_
  cases hq : t.get k with
  | none =>
    have hlt := hf hq
    have hle : ¬ (1024 : Int) ≤ t.sz := by omega
    rw [hq] at hg
    have C1 := zcB t; have C2 := zb9 t; have FF := fI @zaf @hle; refine gxC ?_; clear FF
    refine zbg (x := .tup [.rp ⟨30, σ.nx 30, 1⟩ 0 0, .raw (.int .i64 0)]) (.inr rfl) exA ?_ ?_
    · simp [zk]
    · simp [zZ, zw, zb, zR, zk, trP]
  | some x =>
    rw [hq] at hg
    have C1 := zcB t; have C2 := zb9 t; have FF := @zaf; refine gxC ?_; clear FF
    refine zbg (x := .tup [.rp ⟨30, σ.nx 30, 1⟩ 0 0, .raw (.int .i64 0)]) (.inr rfl) exA ?_ ?_
    · simp [zk]
    · simp [zZ, zw, zb, zR, zk, trP]
end Go.Proofs.YtpboabpapgimoaaGreat.Av
namespace Go.Proofs.YtpboabpapgimoaaGreat.Av
open Go
set_option linter.unusedSimpArgs false
set_option linter.unusedVariables false
set_option maxRecDepth 100000
set_option maxHeartbeats 4000000
set_option pp.maxSteps 600
def Tr.atI (t : Tr) (i : Int) : Option (Int × Int) := if 0 ≤ i then t.at_ i else none
theorem Tr.at_some (t : Tr) (i : Int) (h0 : 0 ≤ i) (h : i < t.sz) : ∃ p, t.at_ i = some p := by
  rw [Tr.at_eq t i h0]
  have := t.sz_toL
  have hlt : i.toNat < t.toL.length := by omega
  exact ⟨_, List.getElem?_eq_getElem hlt⟩
theorem Tr.at_none (t : Tr) (i : Int) (h : t.sz ≤ i) : t.at_ i = none := by
  have := t.sz_nn
  rw [Tr.at_eq t i (by omega)]
  have := t.sz_toL
  exact List.getElem?_eq_none (by omega)
theorem zbo (k v : Int) : setPart (AV.agg [.raw (.int .u64 0), .raw (.int .i64 0)]) 0 [.raw (.int .u64 k), .raw (.int .i64 v)] = zc8 k v := rfl
theorem zi0 (t : Tr) (i : Int) (hz : t.sz < 2 ^ 48) : PCalls Tryz.prog 77 [trP t, .raw (.int .i64 i)] (.tup [zc8 ((t.atI i).getD (0, 0)).1 ((t.atI i).getD (0, 0)).2, .raw (.bool (t.atI i).isSome)]) := by
  have zn := t.sz_nn
  refine zE Tryz.func77 rfl (N := 52) rfl rfl (by simp) (by simp [noIds, zc8]) fun σ => ?_
  have f4 : σ.m ⟨4, σ.nx 4, 2⟩ = none := zb _ _ _
  by_cases h0 : i < 0
  · have e : t.atI i = none := by unfold Tr.atI; rw [if_neg (by omega)]
    rw [e]
    have C0 := zcB t; have C1 := zb9 t; have FF := fI @zab (fI @zaf (fI @zbo (fI @zbB @h0))); exact gxA
  · by_cases h1 : t.sz ≤ i
    · have e : t.atI i = none := by unfold Tr.atI; rw [if_pos (by omega), Tr.at_none t i h1]
      rw [e]
      have C0 := zcB t; have C1 := zb9 t; have FF := fI @zab (fI @zaf (fI @zbo (fI @zbB (fI @h0 @h1)))); exact gxA
    · obtain ⟨p, hp⟩ := t.at_some i (by omega) (by omega)
      have e : t.atI i = some p := by unfold Tr.atI; rw [if_pos (by omega), hp]
      rw [e]
      have C0 := zcB t; have C1 := zb9 t; have FF := fI @zab (fI @zaf (fI @zbo (fI @zbB (fI @h0 @h1)))); refine gxB ?_; clear FF
      refine zU (fun n A τ => τ = σ.new 4 2 (.buf [zc8 0 0]) ∧ A 4 = .rp ⟨4, σ.nx 4, 2⟩ 0 0 ∧ ∃ (u : Tr) (j : Int), A 1 = .raw (.int .i64 j) ∧ A 6 = u.av ∧ n = u.sz.toNat ∧ 0 ≤ j ∧ j < u.sz ∧ u.sz < 2 ^ 48 ∧ u.at_ j = some p) t.sz.toNat ?_ ?_
      · exact ⟨by simp [zaf], by simp, t, i, by simp, by simp, rfl, by omega, by omega, hz, hp⟩
      rintro n A τ ⟨rfl, a4, u, j, a1, a6, rfl, hj0, hj1, hus, hu⟩ I1 hI1
      cases u with
      | nil => simp only [Tr.sz] at hj1; omega
      | node l k v r =>
        have y1 := l.sz_nn
        have y2 := r.sz_nn
        have hsz : (Tr.node l k v r).sz = 1 + l.sz + r.sz := rfl
        rw [zaX] at a6
        simp only [Tr.at_] at hu
        have w1 : IntKind.i64.wrap (1 + l.sz) = 1 + l.sz := zh (by omega) (by omega)
        have w2 : IntKind.i64.wrap (j - (1 + l.sz)) = j - (1 + l.sz) := zh (by omega) (by omega)
        by_cases q1 : j < l.sz
        · rw [if_pos q1] at hu
          have q1' : ¬ j = l.sz := by omega
          have C0 := zcV l; have FF := fI @a1 (fI @a4 (fI @a6 (fI @q1 @q1'))); refine gxB ?_; clear FF
          exact hI1 _ _ _ (by omega) ⟨rfl, by simp [a4], l, j, by simp [a1], by simp, rfl, hj0, q1, by omega, hu⟩
        · rw [if_neg q1] at hu
          by_cases q2 : l.sz < j
          · rw [if_pos q2] at hu
            have q1' : ¬ j = l.sz := by omega
            have C0 := zcV l; have FF := fI @a1 (fI @a4 (fI @a6 (fI @q1 (fI @q1' (fI @w1 @w2))))); refine gxB ?_; clear FF
            exact hI1 _ _ _ (by omega) ⟨rfl, by simp [a4], r, j - (1 + l.sz), by simp, by simp, rfl, by omega, by omega, by omega, hu⟩
          · rw [if_neg q2] at hu
            have q1' : j = l.sz := by omega
            simp only [Option.some.injEq] at hu
            subst hu
            have C0 := zcV l; have FF := fI @a1 (fI @a4 (fI @a6 (fI @q1' (fI @zab (fI @zaf @zbB))))); exact gxA
theorem Tr.join_sz (l : Tr) (k v : Int) (r : Tr) : (Tr.join l k v r).sz = 1 + l.sz + r.sz := by
  rw [Tr.sz_toL, Tr.join_toL, Tr.sz_toL l, Tr.sz_toL r]
  simp only [List.length_append, List.length_cons]
  omega
theorem zgY (n : Nat) : ∀ (l : Tr) (k v : Int) (r : Tr), SizeOf.sizeOf l + SizeOf.sizeOf r < n → l.sz + r.sz < 2 ^ 48 → PCalls Tryz.prog 132 [l.av, zc8 k v, r.av] (Tr.join l k v r).av := by
  induction n with
  | zero => intro l k v r h; omega
  | succ n ih =>
    intro l k v r hn h
    have z1 := l.ht_nn
    have z2 := r.ht_nn
    have z3 := l.sz_nn
    have z4 := r.sz_nn
    have z5 := l.ht_le
    have z6 := r.ht_le
    have w1 : IntKind.i64.wrap (r.ht + 1) = r.ht + 1 := zh (by omega) (by omega)
    have w2 : IntKind.i64.wrap (l.ht + 1) = l.ht + 1 := zh (by omega) (by omega)
    have hl := zbx l
    have hr := zbx r
    by_cases h1 : r.ht + 1 < l.ht
    · cases l with
      | nil => simp only [Tr.ht] at h1; omega
      | node ll lk lv lr =>
        have y1 := ll.sz_nn
        have y2 := lr.sz_nn
        have hz : (Tr.node ll lk lv lr).sz = 1 + ll.sz + lr.sz := rfl
        have i1 := ih lr k v r (by simp only [Tr.node.sizeOf_spec] at hn; omega) (by omega)
        have js := Tr.join_sz lr k v r
        have m := zb8 ll lk lv (Tr.join lr k v r) (by omega)
        have e : Tr.join (.node ll lk lv lr) k v r = Tr.even ll lk lv (Tr.join lr k v r) := by rw [Tr.join.eq_def]; simp only [if_pos h1]
        rw [e]
        rw [zaX] at hl ⊢
        obtain ⟨H, hH⟩ : ∃ H, (Tr.node ll lk lv lr).ht = H := ⟨_, rfl⟩
        obtain ⟨Z, hZ⟩ : ∃ Z, (Tr.node ll lk lv lr).sz = Z := ⟨_, rfl⟩
        rw [hH, hZ] at hl ⊢
        rw [hH] at h1 w2
        refine zE Tryz.func132 rfl (N := 57) rfl rfl (by simp) (by simp [noIds]) fun σ => ?_
        generalize Tr.even ll lk lv (Tr.join lr k v r) = T at m ⊢
        generalize Tr.join lr k v r = U at i1 m
        have FF := fI @zab (fI @zaf (fI @h1 (fI @w1 @w2))); exact gxA
    · by_cases h3 : l.ht + 1 < r.ht
      · cases r with
        | nil => simp only [Tr.ht] at h3; omega
        | node rl rk rv rr =>
          have y1 := rl.sz_nn
          have y2 := rr.sz_nn
          have hz : (Tr.node rl rk rv rr).sz = 1 + rl.sz + rr.sz := rfl
          have i1 := ih l k v rl (by simp only [Tr.node.sizeOf_spec] at hn; omega) (by omega)
          have js := Tr.join_sz l k v rl
          have m := zb8 (Tr.join l k v rl) rk rv rr (by omega)
          have e : Tr.join l k v (.node rl rk rv rr) = Tr.even (Tr.join l k v rl) rk rv rr := by rw [Tr.join.eq_def]; simp only [if_neg h1, if_pos h3]
          rw [e]
          rw [zaX] at hr ⊢
          obtain ⟨H, hH⟩ : ∃ H, (Tr.node rl rk rv rr).ht = H := ⟨_, rfl⟩
          obtain ⟨Z, hZ⟩ : ∃ Z, (Tr.node rl rk rv rr).sz = Z := ⟨_, rfl⟩
          rw [hH, hZ] at hr ⊢
          rw [hH] at h1 h3 w1
          refine zE Tryz.func132 rfl (N := 57) rfl rfl (by simp) (by simp [noIds]) fun σ => ?_
          generalize Tr.even (Tr.join l k v rl) rk rv rr = T at m ⊢
          generalize Tr.join l k v rl = U at i1 m
          have FF := fI @zab (fI @zaf (fI @h1 (fI @h3 (fI @w1 @w2)))); exact gxA
      · have m := za3 l k v r (by omega)
        have e : Tr.join l k v r = .node l k v r := by rw [Tr.join.eq_def, if_neg h1, if_neg h3]
        rw [e]
        refine zE Tryz.func132 rfl (N := 57) rfl rfl (by simp) (by simp [noIds]) fun σ => ?_
        generalize Tr.node l k v r = T at m ⊢
        have FF := fI @zab (fI @zaf (fI @h1 (fI @h3 (fI @w1 @w2)))); exact gxA
theorem Tr.cut_sz (b : Int) : ∀ t : Tr, (t.cut b).1.sz + (t.cut b).2.sz = t.sz
  | nil => by simp [Tr.cut, Tr.sz]
  | node l k v r => by
    have h1 := Tr.cut_sz b l
    have h2 := Tr.cut_sz b r
    simp only [Tr.cut]
    split
    · simp only [Tr.join_sz, Tr.sz]; omega
    · simp only [Tr.join_sz, Tr.sz]; omega
theorem zfm (b : Int) : ∀ t : Tr, t.sz < 2 ^ 48 → PCalls Tryz.prog 115 [t.av, .raw (.int .u64 b)] (.tup [(t.cut b).1.av, (t.cut b).2.av])
  | .nil, _ => by
    refine zE Tryz.func115 rfl (N := 59) rfl rfl (by simp) (by simp [noIds]) fun σ => ?_
    have e : Tr.nil.cut b = (.nil, .nil) := rfl
    rw [e]
    exact zlu
  | .node l k v r, h => by
    have y1 := l.sz_nn
    have y2 := r.sz_nn
    have hz : (Tr.node l k v r).sz = 1 + l.sz + r.sz := rfl
    rw [zaX]
    obtain ⟨H, hH⟩ : ∃ H, (Tr.node l k v r).ht = H := ⟨_, rfl⟩
    obtain ⟨Z, hZ⟩ : ∃ Z, (Tr.node l k v r).sz = Z := ⟨_, rfl⟩
    rw [hH, hZ]
    by_cases h1 : k < b
    · have i1 := zfm b r (by omega)
      have cs := Tr.cut_sz b r
      have x1 := (r.cut b).1.sz_nn
      have x2 := (r.cut b).2.sz_nn
      have m := zgY _ l k v (r.cut b).1 (Nat.lt_succ_self _) (by omega)
      have e : Tr.cut (.node l k v r) b = (Tr.join l k v (r.cut b).1, (r.cut b).2) := by simp only [Tr.cut, if_pos h1]
      rw [e]
      refine zE Tryz.func115 rfl (N := 59) rfl rfl (by simp) (by simp [noIds]) fun σ => ?_
      generalize Tr.join l k v (r.cut b).1 = T at m ⊢
      generalize (r.cut b).1 = U at i1 m
      generalize (r.cut b).2 = V at i1 ⊢
      have FF := fI @zab (fI @zaf @h1); exact gxA
    · have i1 := zfm b l (by omega)
      have cs := Tr.cut_sz b l
      have x1 := (l.cut b).1.sz_nn
      have x2 := (l.cut b).2.sz_nn
      have m := zgY _ (l.cut b).2 k v r (Nat.lt_succ_self _) (by omega)
      have e : Tr.cut (.node l k v r) b = ((l.cut b).1, Tr.join (l.cut b).2 k v r) := by simp only [Tr.cut, if_neg h1]
      rw [e]
      refine zE Tryz.func115 rfl (N := 59) rfl rfl (by simp) (by simp [noIds]) fun σ => ?_
      generalize Tr.join (l.cut b).2 k v r = T at m ⊢
      generalize (l.cut b).2 = U at i1 m
      generalize (l.cut b).1 = V at i1 ⊢
      have FF := fI @zab (fI @zaf @h1); exact gxA
theorem zkF (t : Tr) (b : Int) (h : t.sz < 2 ^ 48) : PCalls Tryz.prog 102 [trP t, .raw (.int .u64 b)] (.tup [trP (t.cut b).1, trP (t.cut b).2]) := by
  have hc := zfm b t h
  generalize (t.cut b).1 = U at hc ⊢
  generalize (t.cut b).2 = V at hc ⊢
  refine zE Tryz.func102 rfl (N := 21) rfl rfl (by simp) (by simp [noIds]) fun σ => ?_
  have C1 := zb9 t; refine zlv ?_
  refine zbg (x := .tup [.rp ⟨17, σ.nx 17, 1⟩ 0 0, .rp ⟨20, σ.nx 20, 1⟩ 0 0]) (.inr rfl) exA ?_ ?_
  · simp [zk]
  · simp [zZ, zw, zb, zR, zk, trP]
end Go.Proofs.YtpboabpapgimoaaGreat.Av
namespace Go.Proofs.YtpboabpapgimoaaGreat.Av
open Go
set_option linter.unusedSimpArgs false
set_option linter.unusedVariables false
set_option maxRecDepth 100000
set_option maxHeartbeats 4000000
set_option pp.maxSteps 600
theorem Tr.least_sz : ∀ t : Tr, t ≠ .nil → t.least.2.sz = t.sz - 1 := fun t h => by
  have := Tr.least_toL t h
  rw [Tr.sz_toL, Tr.sz_toL t, this]
  simp only [List.length_cons]; omega
theorem zgw : ∀ t : Tr, t ≠ .nil → t.sz < 2 ^ 48 → PCalls Tryz.prog 143 [t.av] (.tup [zc8 t.least.1.1 t.least.1.2, t.least.2.av])
  | .nil, h, _ => absurd rfl h
  | .node .nil k v r, _, h => by
    have e : (Tr.node .nil k v r).least = ((k, v), r) := by simp only [Tr.least]
    rw [e, zaX]
    refine zE Tryz.func143 rfl (N := 38) rfl rfl (by simp) (by simp [noIds]) fun σ => ?_
    have f2 : σ.m ⟨2, σ.nx 2, 2⟩ = none := zb _ _ _
    have FF := fI @zab (fI @zaf (fI @zbB @zbo)); refine gxB ?_; clear FF
    refine zbL (lsO [14, 18]) zdw (by decide +kernel) ?_
    have FF := fI @zab (fI @zaf (fI @zbB @zbo)); exact gxA
  | .node (.node a b c d) k v r, _, h => by
    have hz : (Tr.node (.node a b c d) k v r).sz = 1 + (Tr.node a b c d).sz + r.sz := rfl
    have y1 := (Tr.node a b c d).sz_nn
    have y2 := r.sz_nn
    have i1 := zgw (.node a b c d) (by simp) (by omega)
    have ls := Tr.least_sz (.node a b c d) (by simp)
    have m := zb8 (Tr.node a b c d).least.2 k v r (by omega)
    have e : (Tr.node (.node a b c d) k v r).least = ((Tr.node a b c d).least.1, Tr.even (Tr.node a b c d).least.2 k v r) := by simp only [Tr.least]
    rw [e, zaX]
    have hm := zaX a b c d
    generalize Tr.even (Tr.node a b c d).least.2 k v r = T at m ⊢
    generalize (Tr.node a b c d).least.2 = U at i1 m
    generalize (Tr.node a b c d).least.1 = q at i1 ⊢
    generalize (Tr.node (.node a b c d) k v r).ht = H
    generalize (Tr.node (.node a b c d) k v r).sz = Z
    generalize (Tr.node a b c d).ht = H2 at hm
    generalize (Tr.node a b c d).sz = Z2 at hm
    rw [hm] at i1 ⊢
    refine zE Tryz.func143 rfl (N := 38) rfl rfl (by simp) (by simp [noIds]) fun σ => ?_
    have f2 : σ.m ⟨2, σ.nx 2, 2⟩ = none := zb _ _ _
    have FF := fI @zab (fI @zaf (fI @zbB (fI @zbo (fI @zR (fI @z0 @zk))))); exact gxA
theorem Tr.without_sz (k : Int) : ∀ t : Tr, (t.without k).sz ≤ t.sz
  | .nil => by simp [Tr.without]
  | .node l k' v' r => by
    have h1 := Tr.without_sz k l
    have h2 := Tr.without_sz k r
    have y1 := l.sz_nn
    have y2 := r.sz_nn
    simp only [Tr.without]
    split
    · rw [Tr.even_sz]; simp only [Tr.sz]; omega
    · split
      · rw [Tr.even_sz]; simp only [Tr.sz]; omega
      · cases r with
        | nil => simp only [Tr.sz]; omega
        | node a b c d =>
          have := Tr.least_sz (.node a b c d) (by simp)
          simp only [Tr.even_sz, this]
          simp only [Tr.sz]; omega
theorem zdx (k : Int) : ∀ t : Tr, t.get k ≠ none → t.sz < 2 ^ 48 → PCalls Tryz.prog 131 [t.av, .raw (.int .u64 k)] (t.without k).av
  | .nil, h, _ => absurd rfl h
  | .node l k' v' r, hg, h => by
    have hz : (Tr.node l k' v' r).sz = 1 + l.sz + r.sz := rfl
    have y1 := l.sz_nn
    have y2 := r.sz_nn
    simp only [Tr.get] at hg
    by_cases h1 : k < k'
    · rw [if_pos h1] at hg
      have i1 := zdx k l hg (by omega)
      have ws := Tr.without_sz k l
      have m := zb8 (l.without k) k' v' r (by omega)
      have e : (Tr.node l k' v' r).without k = Tr.even (l.without k) k' v' r := by simp only [Tr.without, if_pos h1]
      rw [e, zaX]
      generalize Tr.even (l.without k) k' v' r = T at m ⊢
      generalize l.without k = U at i1 m
      generalize (Tr.node l k' v' r).ht = H
      generalize (Tr.node l k' v' r).sz = Z
      refine zE Tryz.func131 rfl (N := 78) rfl rfl (by simp) (by simp [noIds]) fun σ => ?_
      have FF := fI @zab (fI @zaf @h1); exact gxA
    · rw [if_neg h1] at hg
      by_cases h2 : k' < k
      · rw [if_pos h2] at hg
        have i1 := zdx k r hg (by omega)
        have ws := Tr.without_sz k r
        have m := zb8 l k' v' (r.without k) (by omega)
        have e : (Tr.node l k' v' r).without k = Tr.even l k' v' (r.without k) := by simp only [Tr.without, if_neg h1, if_pos h2]
        rw [e, zaX]
        generalize Tr.even l k' v' (r.without k) = T at m ⊢
        generalize r.without k = U at i1 m
        generalize (Tr.node l k' v' r).ht = H
        generalize (Tr.node l k' v' r).sz = Z
        refine zE Tryz.func131 rfl (N := 78) rfl rfl (by simp) (by simp [noIds]) fun σ => ?_
        have FF := fI @zab (fI @zaf (fI @h1 @h2)); exact gxA
      · cases r with
        | nil =>
          have e : (Tr.node l k' v' .nil).without k = l := by simp only [Tr.without, if_neg h1, if_neg h2]
          rw [e, zaX]
          generalize (Tr.node l k' v' .nil).ht = H
          generalize (Tr.node l k' v' .nil).sz = Z
          refine zE Tryz.func131 rfl (N := 78) rfl rfl (by simp) (by simp [noIds]) fun σ => ?_
          have FF := fI @zab (fI @zaf (fI @h1 @h2)); exact gxA
        | node a b c d =>
          have i1 := zgw (.node a b c d) (by simp) (by omega)
          have ls := Tr.least_sz (.node a b c d) (by simp)
          have m := zb8 l (Tr.node a b c d).least.1.1 (Tr.node a b c d).least.1.2 (Tr.node a b c d).least.2 (by omega)
          have e : (Tr.node l k' v' (.node a b c d)).without k = Tr.even l (Tr.node a b c d).least.1.1 (Tr.node a b c d).least.1.2 (Tr.node a b c d).least.2 := by simp only [Tr.without, if_neg h1, if_neg h2]
          rw [e, zaX]
          have hm := zaX a b c d
          generalize Tr.even l (Tr.node a b c d).least.1.1 (Tr.node a b c d).least.1.2 (Tr.node a b c d).least.2 = T at m ⊢
          generalize (Tr.node a b c d).least.2 = U at i1 m
          generalize (Tr.node a b c d).least.1 = q at i1 m
          generalize (Tr.node l k' v' (.node a b c d)).ht = H
          generalize (Tr.node l k' v' (.node a b c d)).sz = Z
          generalize (Tr.node a b c d).ht = H2 at hm
          generalize (Tr.node a b c d).sz = Z2 at hm
          rw [hm] at i1 ⊢
          refine zE Tryz.func131 rfl (N := 78) rfl rfl (by simp) (by simp [noIds]) fun σ => ?_
          have FF := fI @zab (fI @zaf (fI @zbB (fI @zbo (fI @h1 (fI @h2 (fI @zR (fI @z0 @zk))))))); exact gxA
theorem zlC (t : Tr) (k : Int) (hg : t.get k ≠ none) (h : t.sz < 2 ^ 48) : PCalls Tryz.prog 114 [trP t, .raw (.int .u64 k)] (.tup [trP (t.without k), .raw (.int .i64 0)]) := by
  have h1 := zfl t k
  have h2 := zdx k t hg h
  generalize t.without k = U at h2 ⊢
  obtain ⟨x, hx⟩ := Option.ne_none_iff_exists'.1 hg
  rw [hx] at h1
  refine zE Tryz.func114 rfl (N := 22) rfl rfl (by simp) (by simp [noIds]) fun σ => ?_
  have C2 := zb9 t; refine zlv ?_
  refine zbg (x := .tup [.rp ⟨21, σ.nx 21, 1⟩ 0 0, .raw (.int .i64 0)]) (.inr rfl) exA ?_ ?_
  · simp [zk]
  · simp [zZ, zw, zb, zR, zk, trP]
end Go.Proofs.YtpboabpapgimoaaGreat.Av
namespace Go.Proofs.YtpboabpapgimoaaGreat.Av
open Go
set_option linter.unusedSimpArgs false
set_option linter.unusedVariables false
set_option maxRecDepth 100000
set_option maxHeartbeats 4000000
set_option pp.maxSteps 600
structure Tab where
  b : Tr
  g : Tr
  n : Int
def zcM (T : Tab) : AV := .pp [trP T.b, trP T.g, .raw (.int .i64 T.n)] 0
def zaN : Option Tab → AV
  | none => .raw (.pointer none)
  | some T => zcM T
@[simp] theorem ztZ (K : Id → Prop) (T : Tab) : (zcM T).ids K := by simp [zcM, AV.ids]
@[simp] theorem zt0 (K : Id → Prop) (T : Option Tab) : (zaN T).ids K := by cases T <;> simp [zaN]
@[simp] theorem zuK (T : Tab) : cellOK (zcM T) = true := rfl
@[simp] theorem zsI (T : Tab) : (zcM T).cells = [zcM T] := rfl
@[simp] theorem zsJ (T : Tab) : (zcM T).flat1 = true := rfl
def zP : Tab := ⟨.node .nil 0 1 .nil, .nil, 0⟩
theorem zdy : PCalls Tryz.prog 43 [] (zcM zP) := by
  have h := zhH .nil 0 1 (by simp [Tr.sz]) (by simp [Tr.sz])
  have e : Tr.with_ .nil 0 1 = .node .nil 0 1 .nil := rfl
  rw [e] at h
  unfold zcM zP
  generalize Tr.node .nil 0 1 .nil = U at h ⊢
  refine zE Tryz.func43 rfl (N := 12) rfl rfl (by simp) (by simp [noIds, AV.ids]) fun σ => ?_
  have C0 := zmt; refine zlv ?_
  refine zbg (x := .rp ⟨11, σ.nx 11, 3⟩ 0 0) (.inr rfl) exA ?_ ?_
  · simp [zk]
  · simp [zZ, zw, zb, zR, zk]
theorem zeY (T : Option Tab) : PCalls Tryz.prog 74 [zaN T] (zcM (T.getD zP)) := by
  refine zE Tryz.func74 rfl (N := 7) rfl rfl (by simp) (by simp [noIds]) fun σ => ?_
  cases T with
  | none => (try ((first | with_reducible refine zo ?_ | with_reducible refine zt ?_ | with_reducible refine zu ?_); simp [-cellOK, zaN])); repeat' (first | ((first | refine zf ?_ | refine zg ?_ | refine dN (by decide +kernel) ?_ | refine dC (by decide +kernel) ?_ | refine uP (zdy) ?_ | refine .inl ⟨_, .inl (zdy), ?_⟩ | (refine za ?_ ?_ <;> (intro hg; simp only [hg])) | fail) <;> simp [-cellOK, zaN]) | refine ze ?_ | refine zd ?_ | (refine zA ?_; simp only [zB]; try simp) | (refine zm (by simp) ?_; simp) | (refine zan (by simp) (by simp [noIds]) (by repeat (first | assumption | exact Ext.refl _ | refine zS ?_ | refine Ext.setF ?_ (by first | assumption | (simp [zk, St.set, zb]; done) | exact zN (by assumption)))) ?_; simp [-cellOK, zaN, nsE]) | (refine zc (fun hc => ?_) (fun hc => ?_) <;> try simp at hc) | fail)
  | some T =>
    have e : zcM T = .pp [trP T.b, trP T.g, .raw (.int .i64 T.n)] 0 := rfl
    simp only [zaN, Option.getD_some, e]
    exact zlu
def zbr (t : Tr) (k by_ : Int) : Tr := if (t.get k).getD 0 + by_ = 0 then t.without k else t.with_ k ((t.get k).getD 0 + by_)
structure MoreOK (t : Tr) (k by_ : Int) : Prop where
  sz : t.sz < 2 ^ 40
  lo : -2 ^ 40 < (t.get k).getD 0 + by_
  hi : (t.get k).getD 0 + by_ < 2 ^ 40
  drop : (t.get k).getD 0 + by_ = 0 → t.get k ≠ none
  room : t.get k = none → t.sz < 1024
theorem zi1 (t : Tr) (k by_ : Int) (h : MoreOK t k by_) : PCalls Tryz.prog 99 [trP t, .raw (.int .u64 k), .raw (.int .i64 by_)] (trP (zbr t k by_)) := by
  have hg := zfl t k
  have w := zh (n := (t.get k).getD 0 + by_) (by have := h.lo; omega) (by have := h.hi; omega)
  have hsz := h.sz
  by_cases h0 : (t.get k).getD 0 + by_ = 0
  · have hd := zlC t k (h.drop h0) (by omega)
    have e : zbr t k by_ = t.without k := by unfold zbr; rw [if_pos h0]
    rw [e]
    generalize t.without k = U at hd ⊢
    refine zE Tryz.func99 rfl (N := 36) rfl rfl (by simp) (by simp [noIds]) fun σ => ?_
    generalize (t.get k).getD 0 = x at *
    generalize (t.get k).isSome = b at *
    rw [h0] at w
    have h0' : IntKind.i64.wrap (x + by_) = 0 := by rw [h0, w]
    have FF := fI @h0 (fI @h0' @w); exact gxA
  · have hp := zhH t k ((t.get k).getD 0 + by_) (by omega) h.room
    have e : zbr t k by_ = t.with_ k ((t.get k).getD 0 + by_) := by unfold zbr; rw [if_neg h0]
    rw [e]
    generalize t.with_ k ((t.get k).getD 0 + by_) = U at hp ⊢
    refine zE Tryz.func99 rfl (N := 36) rfl rfl (by simp) (by simp [noIds]) fun σ => ?_
    generalize (t.get k).getD 0 = x at *
    generalize (t.get k).isSome = b at *
    have FF := fI @w @h0; exact gxA
structure RgOK (r : Rg) : Prop where
  lo0 : 0 ≤ r.lo
  lo1 : r.lo < 4294967296
  hi0 : 0 ≤ r.hi
  hi1 : r.hi < 4294967296
def zcC (r : Rg) : Int := r.lo * 4294967296 + r.hi
theorem rg_cells (r : Rg) : (zl r).cells = [.raw (.int .u32 r.lo), .raw (.int .u32 r.hi)] := rfl
theorem rg_fold (r : Rg) : AV.agg [.raw (.int .u32 r.lo), .raw (.int .u32 r.hi)] = zl r := rfl
theorem zq3 {lo hi : Int} (h0 : 0 ≤ lo) (h1 : lo < 4294967296) (h2 : 0 ≤ hi) (h3 : hi < 4294967296) :
    (BitVec.ofInt 64 (lo * 4294967296) ||| BitVec.ofInt 64 hi).toNat = (lo * 4294967296 + hi).toNat := by
  obtain ⟨a, rfl⟩ := Int.eq_ofNat_of_zero_le h0
  obtain ⟨b, rfl⟩ := Int.eq_ofNat_of_zero_le h2
  have e1 : ((a : Int) * 4294967296) = ((a * 4294967296 : Nat) : Int) := by omega
  have e2 : ((a : Int) * 4294967296 + b) = ((a * 4294967296 + b : Nat) : Int) := by omega
  rw [BitVec.toNat_or, e2, e1, BitVec.ofInt_natCast, BitVec.ofInt_natCast, BitVec.toNat_ofNat, BitVec.toNat_ofNat, Int.toNat_natCast]
  rw [Nat.mod_eq_of_lt (by omega), Nat.mod_eq_of_lt (by omega)]
  have := Nat.shiftLeft_add_eq_or_of_lt (a := a) (b := b) (i := 32) (by omega)
  rw [Nat.shiftLeft_eq] at this
  exact this.symm
theorem zor (r : Rg) (h : RgOK r) : PCalls Tryz.prog 100 [zl r] (.raw (.int .u64 (zcC r))) := by
  obtain ⟨a1, a2, a3, a4⟩ := h
  have w1 : IntKind.u64.wrap r.lo = r.lo := zas (by omega) (by omega)
  have w2 : IntKind.u64.wrap r.hi = r.hi := zas (by omega) (by omega)
  have w3 : IntKind.u64.wrap (r.lo * 4294967296) = r.lo * 4294967296 := zas (by omega) (by omega)
  have w4 : ((r.lo * 4294967296 % 18446744073709551616).toNat ||| (r.hi % 18446744073709551616).toNat) = (zcC r).toNat := by
    have := zq3 a1 a2 a3 a4
    rw [BitVec.toNat_or, BitVec.toNat_ofInt, BitVec.toNat_ofInt] at this
    exact this
  have hk : ((zcC r).toNat : Int) = zcC r := by unfold zcC; omega
  have w5 : IntKind.u64.wrap (zcC r) = zcC r := zas (by unfold zcC; omega) (by unfold zcC; omega)
  have b1 : IntKind.u64.bits = 64 := rfl
  refine zE Tryz.func100 rfl (N := 11) rfl rfl (by simp) (by simp [noIds]) fun σ => ?_
  generalize zcC r = y at *
  have FF := fI @rg_cells (fI @w1 (fI @w2 (fI @w3 (fI @w4 (fI @w5 (fI @hk @b1)))))); exact gxA
end Go.Proofs.YtpboabpapgimoaaGreat.Av
namespace Go.Proofs.YtpboabpapgimoaaGreat.Av
open Go
set_option linter.unusedSimpArgs false
set_option linter.unusedVariables false
set_option maxRecDepth 100000
set_option maxHeartbeats 4000000
set_option pp.maxSteps 600
def zeZ (x : Int) : AV := .raw (.int .u64 x)
def zdz (l : List Int) : AV := .sl 1 (l.map zeZ) false
@[simp] theorem zuL (K : Id → Prop) (l : List Int) : (zdz l).ids K := by simp only [zdz, AV.ids]; exact zdP (fun x => by simp [zeZ]) l
def zbW (r : Rg) : List Int := if r.hi < 4294967295 then [r.lo, r.hi + 1] else [r.lo]
theorem znv (r : Rg) (h : RgOK r) : PCalls Tryz.prog 101 [zl r] (zdz (zbW r)) := by
  obtain ⟨a1, a2, a3, a4⟩ := h
  have w1 : IntKind.u64.wrap r.lo = r.lo := zas (by omega) (by omega)
  have w2 : IntKind.u64.wrap r.hi = r.hi := zas (by omega) (by omega)
  have w3 : IntKind.u64.wrap (r.hi + 1) = r.hi + 1 := zas (by omega) (by omega)
  refine zE Tryz.func101 rfl (N := 19) rfl rfl (by simp) (by simp [noIds]) fun σ => ?_
  unfold zbW
  by_cases q : r.hi < 4294967295
  · rw [if_pos q]
    (try ((first | with_reducible refine zo ?_ | with_reducible refine zt ?_ | with_reducible refine zu ?_); simp [-cellOK, rg_cells, w1, w2, w3, q, -zC])); repeat' (first | ((first | refine zf ?_ | refine zg ?_ | refine dN (by decide +kernel) ?_ | refine dC (by decide +kernel) ?_ | (refine za ?_ ?_ <;> (intro hg; simp only [hg])) | fail) <;> simp [-cellOK, rg_cells, w1, w2, w3, q, -zC]) | refine ze ?_ | refine zd ?_ | (refine zA ?_; simp only [zB]; try simp) | (refine zm (by simp) ?_; simp) | (refine zan (by simp) (by simp [noIds]) (by repeat (first | assumption | exact Ext.refl _ | refine zS ?_ | refine Ext.setF ?_ (by first | assumption | (simp [zk, St.set, zb]; done) | exact zN (by assumption)))) ?_; simp [-cellOK, rg_cells, w1, w2, w3, q, -zC, nsE]) | (refine zc (fun hc => ?_) (fun hc => ?_) <;> try simp at hc) | fail)
    refine za2 zqX (σ0 := σ) (es := [zeZ r.lo]) (OwnL.of (j := ⟨7, σ.nx 7, 1⟩) rfl (by simp [zR, zk, zeZ]) (zb _ _ _) rfl) (exA) (ys := [zeZ (r.hi + 1)]) (by simp [zeZ, zR, zk]) (.inr rfl) (by simp [zeZ]) (by simp) ?_
    intro v' τ' hO hE _ _
    refine zlv ?_
    exact zh3 (.inr rfl) (by simp) hO hE
  · rw [if_neg q]
    have FF := fI @rg_cells (fI @w1 (fI @w2 (fI @w3 @q))); refine gxC ?_; clear FF
    refine zbg (x := .rs ⟨7, σ.nx 7, 1⟩ 0 1) (.inr rfl) exA ?_ ?_
    · simp [zk]
    · simp [zZ, zw, zb, zR, zk, zdz, zeZ]
def Tab.with_ (T : Tab) (r : Rg) (by_ : Int) : Tab := ⟨(zbW r).foldl (fun b e => zbr b e by_) T.b, zbr T.g (zcC r) by_, T.n + by_⟩
structure WithOK (T : Tab) (r : Rg) (by_ : Int) : Prop where
  rg : RgOK r
  n0 : -2 ^ 40 < T.n + by_
  n1 : T.n + by_ < 2 ^ 40
  key : MoreOK T.g (zcC r) by_
  ends : ∀ (i : Nat) (e : Int), (zbW r)[i]? = some e → MoreOK (((zbW r).take i).foldl (fun b e => zbr b e by_) T.b) e by_
theorem zdQ (T : Tab) : zcM T = .pp [trP T.b, trP T.g, .raw (.int .i64 T.n)] 0 := rfl
theorem zfn (t : Tr) (off : Nat) (x : AV) : setPart (trP t) off [x] = x := rfl
theorem znw (T : Tab) (r : Rg) (by_ : Int) (h : WithOK T r by_) : PCalls Tryz.prog 75 [zcM T, zl r, .raw (.int .i64 by_)] (zcM (T.with_ r by_)) := by
  have w := zh (n := T.n + by_) (by have := h.n0; omega) (by have := h.n1; omega)
  have hk := zor r h.rg
  have hm := zi1 T.g (zcC r) by_ h.key
  have he := znv r h.rg
  have hlen : (zbW r).length ≤ 2 := by unfold zbW; split <;> simp
  have hends := h.ends
  rw [zdQ (T.with_ r by_)]
  unfold Tab.with_
  simp only []
  generalize zbr T.g (zcC r) by_ = G at hm ⊢
  generalize zbW r = E at he hlen hends ⊢
  rw [zdQ]
  refine zE Tryz.func75 rfl (N := 49) rfl rfl (by simp) (by simp [noIds]) fun σ => ?_
  have f29 : σ.m ⟨29, σ.nx 29, 3⟩ = none := zb _ _ _
  have FF := fI @rg_cells (fI @rg_fold @w); refine gxB ?_; clear FF
  refine zU (fun n A τ => Ext σ τ ∧ A 2 = .raw (.int .i64 by_) ∧ A 7 = .rp ⟨29, σ.nx 29, 3⟩ 0 0 ∧ A 31 = zdz E ∧ A 32 = .raw (.int .i64 E.length) ∧ ∃ i : Nat, A 33 = .raw (.int .i64 i) ∧ i ≤ E.length ∧ n = E.length - i ∧ τ.m ⟨29, σ.nx 29, 3⟩ = some (.buf [.agg [trP ((E.take i).foldl (fun b e => zbr b e by_) T.b), trP G, .raw (.int .i64 (T.n + by_))]])) E.length ?_ ?_
  · exact ⟨exA, by simp, by simp [zk], by simp [zdz], by simp [zdz], 0, by simp, by omega, by omega, by simp [zR, zk]⟩
  rintro n A τ ⟨hE, a2, a7, a31, a32, i, a33, hi, rfl, hmm⟩ I1 hI1
  by_cases hlt : i < E.length
  · have hx : E[i]? = some E[i] := List.getElem?_eq_getElem hlt
    have w1 : IntKind.i64.wrap ((i : Int) + 1) = ((i + 1 : Nat) : Int) := by rw [zh (by omega) (by omega)]; omega
    have hmo := zi1 _ _ by_ (hends i _ hx)
    have hf : (E.take (i + 1)).foldl (fun b e => zbr b e by_) T.b = zbr ((E.take i).foldl (fun b e => zbr b e by_) T.b) E[i] by_ := by
      rw [List.take_add_one, hx, List.foldl_append]; rfl
    rw [← hf] at hmo
    generalize (E.take i).foldl (fun b e => zbr b e by_) T.b = B at hmo hmm hf
    obtain ⟨B', hB'⟩ : ∃ x, (E.take (i + 1)).foldl (fun b e => zbr b e by_) T.b = x := ⟨_, rfl⟩
    rw [hB'] at hmo
    (try ((first | with_reducible refine zo ?_ | with_reducible refine zt ?_ | with_reducible refine zu ?_); simp [-cellOK, a2, a7, a31, a32, a33, hlt, hx, hmm, w1, zdz, zeZ, zfn])); repeat' (first | ((first | refine zf ?_ | refine zg ?_ | refine dN (by decide +kernel) ?_ | refine dC (by decide +kernel) ?_ | refine uP (hmo) ?_ | refine .inl ⟨_, .inl (hmo), ?_⟩ | (refine za ?_ ?_ <;> (intro hg; simp only [hg])) | fail) <;> simp [-cellOK, a2, a7, a31, a32, a33, hlt, hx, hmm, w1, zdz, zeZ, zfn]) | refine ze ?_ | refine zd ?_ | (refine zA ?_; simp only [zB]; try simp) | (refine zm (by simp) ?_; simp) | (refine zan (by simp) (by simp [noIds]) (by repeat (first | assumption | exact Ext.refl _ | refine zS ?_ | refine Ext.setF ?_ (by first | assumption | (simp [zk, St.set, zb]; done) | exact zN (by assumption)))) ?_; simp [-cellOK, a2, a7, a31, a32, a33, hlt, hx, hmm, w1, zdz, zeZ, zfn, nsE]) | (refine zc (fun hc => ?_) (fun hc => ?_) <;> try simp at hc) | fail)
    refine hI1 (E.length - (i + 1)) _ _ (by omega) ⟨Ext.setF hE f29, by simp [a2], by simp [a7], by simp [a31, zdz], by simp [a32], i + 1, by simp, by omega, rfl, ?_⟩
    simp [z0, hmm, hB']
  · have : i = E.length := by omega
    subst this
    rw [List.take_length] at hmm
    generalize E.foldl (fun b e => zbr b e by_) T.b = B at hmm ⊢
    have FF := fI @a2 (fI @a7 (fI @a31 (fI @a32 @a33))); refine gxC ?_; clear FF
    refine zbg (x := .rp ⟨29, σ.nx 29, 3⟩ 0 0) (.inr rfl) hE ?_ ?_
    · simp
    · simp [zZ, zw, f29, hmm]
def zfo (T : Option Tab) (r : Rg) : Option Tab × Int := if r.hi < r.lo then (none, 51) else if 500 ≤ (T.getD zP).n then (none, 41) else (some ((T.getD zP).with_ r 1), 0)
theorem zke (T : Option Tab) (r : Rg) (h : r.lo ≤ r.hi → (T.getD zP).n < 500 → WithOK (T.getD zP) r 1) : PCalls Tryz.prog 44 [zaN T, zl r] (.tup [zaN (zfo T r).1, .raw (.int .i64 (zfo T r).2)]) := by
  have ho := zeY T
  unfold zfo
  refine zE Tryz.func44 rfl (N := 23) rfl rfl (by simp) (by simp [noIds]) fun σ => ?_
  by_cases q1 : r.hi < r.lo
  · rw [if_pos q1]
    rw [zdQ] at ho
    (try ((first | with_reducible refine zo ?_ | with_reducible refine zt ?_ | with_reducible refine zu ?_); simp [-cellOK, rg_cells, rg_fold, q1, zaN])); repeat' (first | ((first | refine zf ?_ | refine zg ?_ | refine dN (by decide +kernel) ?_ | refine dC (by decide +kernel) ?_ | refine uP (ho) ?_ | refine .inl ⟨_, .inl (ho), ?_⟩ | (refine za ?_ ?_ <;> (intro hg; simp only [hg])) | fail) <;> simp [-cellOK, rg_cells, rg_fold, q1, zaN]) | refine ze ?_ | refine zd ?_ | (refine zA ?_; simp only [zB]; try simp) | (refine zm (by simp) ?_; simp) | (refine zan (by simp) (by simp [noIds]) (by repeat (first | assumption | exact Ext.refl _ | refine zS ?_ | refine Ext.setF ?_ (by first | assumption | (simp [zk, St.set, zb]; done) | exact zN (by assumption)))) ?_; simp [-cellOK, rg_cells, rg_fold, q1, zaN, nsE]) | (refine zc (fun hc => ?_) (fun hc => ?_) <;> try simp at hc) | fail)
  · rw [if_neg q1]
    by_cases q2 : 500 ≤ (T.getD zP).n
    · rw [if_pos q2]
      rw [zdQ] at ho
      (try ((first | with_reducible refine zo ?_ | with_reducible refine zt ?_ | with_reducible refine zu ?_); simp [-cellOK, rg_cells, rg_fold, q1, q2, zaN])); repeat' (first | ((first | refine zf ?_ | refine zg ?_ | refine dN (by decide +kernel) ?_ | refine dC (by decide +kernel) ?_ | refine uP (ho) ?_ | refine .inl ⟨_, .inl (ho), ?_⟩ | (refine za ?_ ?_ <;> (intro hg; simp only [hg])) | fail) <;> simp [-cellOK, rg_cells, rg_fold, q1, q2, zaN]) | refine ze ?_ | refine zd ?_ | (refine zA ?_; simp only [zB]; try simp) | (refine zm (by simp) ?_; simp) | (refine zan (by simp) (by simp [noIds]) (by repeat (first | assumption | exact Ext.refl _ | refine zS ?_ | refine Ext.setF ?_ (by first | assumption | (simp [zk, St.set, zb]; done) | exact zN (by assumption)))) ?_; simp [-cellOK, rg_cells, rg_fold, q1, q2, zaN, nsE]) | (refine zc (fun hc => ?_) (fun hc => ?_) <;> try simp at hc) | fail)
    · rw [if_neg q2]
      have hw := znw (T.getD zP) r 1 (h (by omega) (by omega))
      generalize (T.getD zP).with_ r 1 = U at hw ⊢
      rw [zdQ (T.getD zP)] at ho hw
      (try ((first | with_reducible refine zo ?_ | with_reducible refine zt ?_ | with_reducible refine zu ?_); simp [-cellOK, rg_cells, rg_fold, q1, q2, zaN])); repeat' (first | ((first | refine zf ?_ | refine zg ?_ | refine dN (by decide +kernel) ?_ | refine dC (by decide +kernel) ?_ | refine uP (ho) ?_ | refine .inl ⟨_, .inl (ho), ?_⟩ | refine uP (hw) ?_ | refine .inl ⟨_, .inl (hw), ?_⟩ | (refine za ?_ ?_ <;> (intro hg; simp only [hg])) | fail) <;> simp [-cellOK, rg_cells, rg_fold, q1, q2, zaN]) | refine ze ?_ | refine zd ?_ | (refine zA ?_; simp only [zB]; try simp) | (refine zm (by simp) ?_; simp) | (refine zan (by simp) (by simp [noIds]) (by repeat (first | assumption | exact Ext.refl _ | refine zS ?_ | refine Ext.setF ?_ (by first | assumption | (simp [zk, St.set, zb]; done) | exact zN (by assumption)))) ?_; simp [-cellOK, rg_cells, rg_fold, q1, q2, zaN, nsE]) | (refine zc (fun hc => ?_) (fun hc => ?_) <;> try simp at hc) | fail)
def zt1 (T : Option Tab) (r : Rg) : Int := ((T.getD zP).g.get (zcC r)).getD 0
def zsK (T : Option Tab) (r : Rg) : Option Tab × Int := if zt1 T r = 0 then (none, 51) else (some ((T.getD zP).with_ r (-1)), 0)
def zge (T : Option Tab) (i : Int) : Option Rg := ((T.getD zP).b.atI i).map fun p => ⟨IntKind.u32.wrap p.1, IntKind.u32.wrap (match (T.getD zP).b.atI (i + 1) with | some q => IntKind.u64.wrap (q.1 - 1) | none => 4294967295)⟩
theorem zi2 (T : Option Tab) (i : Int) (hz : (T.getD zP).b.sz < 2 ^ 40) : PCalls Tryz.prog 46 [zaN T, .raw (.int .i64 i)] (.tup [zl ((zge T i).getD ⟨0, 0⟩), .raw (.bool (zge T i).isSome)]) := by
  have ho := zeY T
  have h1 := zi0 (T.getD zP).b i (by omega)
  have h2 := zi0 (T.getD zP).b (i + 1) (by omega)
  rw [zdQ] at ho
  unfold zge
  have hrp : ∀ x y : Int, setPart (AV.agg [.raw (.int .u32 0), .raw (.int .u32 0)]) 0 [.raw (.int .u32 x), .raw (.int .u32 y)] = zl ⟨x, y⟩ := fun _ _ => rfl
  have hrf : ∀ x y : Int, AV.agg [.raw (.int .u32 x), .raw (.int .u32 y)] = zl ⟨x, y⟩ := fun _ _ => rfl
  have hrq : ∀ x y : Int, setPart (zl ⟨0, 0⟩) 0 [.raw (.int .u32 x), .raw (.int .u32 y)] = zl ⟨x, y⟩ := fun _ _ => rfl
  refine zE Tryz.func46 rfl (N := 43) rfl rfl (by simp) (by simp [noIds]) fun σ => ?_
  cases hq : (T.getD zP).b.atI i with
  | none =>
    rw [hq] at h1
    (try ((first | with_reducible refine zo ?_ | with_reducible refine zt ?_ | with_reducible refine zu ?_); simp [-cellOK, rg_cells, hrf, hrq, hrp, zab, zaf, zbB, zbo, zaN])); repeat' (first | ((first | refine zf ?_ | refine zg ?_ | refine dN (by decide +kernel) ?_ | refine dC (by decide +kernel) ?_ | refine uP (ho) ?_ | refine .inl ⟨_, .inl (ho), ?_⟩ | refine uP (h1) ?_ | refine .inl ⟨_, .inl (h1), ?_⟩ | (refine za ?_ ?_ <;> (intro hg; simp only [hg])) | fail) <;> simp [-cellOK, rg_cells, hrf, hrq, hrp, zab, zaf, zbB, zbo, zaN]) | refine ze ?_ | refine zd ?_ | (refine zA ?_; simp only [zB]; try simp) | (refine zm (by simp) ?_; simp) | (refine zan (by simp) (by simp [noIds]) (by repeat (first | assumption | exact Ext.refl _ | refine zS ?_ | refine Ext.setF ?_ (by first | assumption | (simp [zk, St.set, zb]; done) | exact zN (by assumption)))) ?_; simp [-cellOK, rg_cells, hrf, hrq, hrp, zab, zaf, zbB, zbo, zaN, nsE]) | (refine zc (fun hc => ?_) (fun hc => ?_) <;> try simp at hc) | fail)
  | some p =>
    rw [hq] at h1
    have hi : 0 ≤ i ∧ i < (T.getD zP).b.sz := by
      unfold Tr.atI at hq
      split at hq
      · rename_i h0
        refine ⟨h0, ?_⟩
        apply Classical.byContradiction
        intro hn
        rw [Tr.at_none _ _ (by omega)] at hq; cases hq
      · cases hq
    have w := zh (n := i + 1) (by omega) (by omega)
    cases hq2 : (T.getD zP).b.atI (i + 1) with
    | none =>
      rw [hq2] at h2
      (try ((first | with_reducible refine zo ?_ | with_reducible refine zt ?_ | with_reducible refine zu ?_); simp [-cellOK, rg_cells, hrf, hrq, hrp, zab, zaf, zbB, zbo, zaN, w])); repeat' (first | ((first | refine zf ?_ | refine zg ?_ | refine dN (by decide +kernel) ?_ | refine dC (by decide +kernel) ?_ | refine uP (ho) ?_ | refine .inl ⟨_, .inl (ho), ?_⟩ | refine uP (h1) ?_ | refine .inl ⟨_, .inl (h1), ?_⟩ | refine uP (h2) ?_ | refine .inl ⟨_, .inl (h2), ?_⟩ | (refine za ?_ ?_ <;> (intro hg; simp only [hg])) | fail) <;> simp [-cellOK, rg_cells, hrf, hrq, hrp, zab, zaf, zbB, zbo, zaN, w]) | refine ze ?_ | refine zd ?_ | (refine zA ?_; simp only [zB]; try simp) | (refine zm (by simp) ?_; simp) | (refine zan (by simp) (by simp [noIds]) (by repeat (first | assumption | exact Ext.refl _ | refine zS ?_ | refine Ext.setF ?_ (by first | assumption | (simp [zk, St.set, zb]; done) | exact zN (by assumption)))) ?_; simp [-cellOK, rg_cells, hrf, hrq, hrp, zab, zaf, zbB, zbo, zaN, w, nsE]) | (refine zc (fun hc => ?_) (fun hc => ?_) <;> try simp at hc) | fail)
    | some q =>
      rw [hq2] at h2
      (try ((first | with_reducible refine zo ?_ | with_reducible refine zt ?_ | with_reducible refine zu ?_); simp [-cellOK, rg_cells, hrf, hrq, hrp, zab, zaf, zbB, zbo, zaN, w])); repeat' (first | ((first | refine zf ?_ | refine zg ?_ | refine dN (by decide +kernel) ?_ | refine dC (by decide +kernel) ?_ | refine uP (ho) ?_ | refine .inl ⟨_, .inl (ho), ?_⟩ | refine uP (h1) ?_ | refine .inl ⟨_, .inl (h1), ?_⟩ | refine uP (h2) ?_ | refine .inl ⟨_, .inl (h2), ?_⟩ | (refine za ?_ ?_ <;> (intro hg; simp only [hg])) | fail) <;> simp [-cellOK, rg_cells, hrf, hrq, hrp, zab, zaf, zbB, zbo, zaN, w]) | refine ze ?_ | refine zd ?_ | (refine zA ?_; simp only [zB]; try simp) | (refine zm (by simp) ?_; simp) | (refine zan (by simp) (by simp [noIds]) (by repeat (first | assumption | exact Ext.refl _ | refine zS ?_ | refine Ext.setF ?_ (by first | assumption | (simp [zk, St.set, zb]; done) | exact zN (by assumption)))) ?_; simp [-cellOK, rg_cells, hrf, hrq, hrp, zab, zaf, zbB, zbo, zaN, w, nsE]) | (refine zc (fun hc => ?_) (fun hc => ?_) <;> try simp at hc) | fail)
def zek (T : Tab) (b : Int) : Int := (T.b.cut b).1.sz
theorem zmu (T : Tab) (b : Int) (hz : T.b.sz < 2 ^ 40) : PCalls Tryz.prog 76 [zcM T, .raw (.int .u64 b)] (.raw (.int .i64 (zek T b))) := by
  have hs := zkF T.b b (by omega)
  have hl := zcB (T.b.cut b).1
  unfold zek
  generalize (T.b.cut b).1 = U at hs hl ⊢
  generalize (T.b.cut b).2 = V at hs
  rw [zdQ]
  refine zE Tryz.func76 rfl (N := 18) rfl rfl (by simp) (by simp [noIds]) fun σ => ?_
  exact zlu
def ofT (T : Option Tab) (a : Int) : Int := zek (T.getD zP) (a + 1) - 1
theorem zd7 (T : Option Tab) (a : Int) (h0 : 0 ≤ a) (h1 : a < 4294967296) (hz : (T.getD zP).b.sz < 2 ^ 40) : PCalls Tryz.prog 45 [zaN T, .raw (.int .u32 a)] (.raw (.int .i64 (ofT T a))) := by
  have ho := zeY T
  have hp := zmu (T.getD zP) (a + 1) hz
  have hpn : 0 ≤ zek (T.getD zP) (a + 1) := Tr.sz_nn _
  have hpz : zek (T.getD zP) (a + 1) < 2 ^ 40 := by
    have := Tr.cut_sz (a + 1) (T.getD zP).b
    have h2 := ((T.getD zP).b.cut (a + 1)).2.sz_nn
    unfold zek; omega
  unfold ofT
  generalize zek (T.getD zP) (a + 1) = x at *
  have w1 : IntKind.u64.wrap a = a := zas (by omega) (by omega)
  have w2 : IntKind.u64.wrap (a + 1) = a + 1 := zas (by omega) (by omega)
  have w3 := zh (n := x - 1) (by omega) (by omega)
  refine zE Tryz.func45 rfl (N := 12) rfl rfl (by simp) (by simp [noIds]) fun σ => ?_
  have FF := fI @w1 (fI @w2 @w3); exact gxA
end Go.Proofs.YtpboabpapgimoaaGreat.Av
namespace Go.Proofs.YtpboabpapgimoaaGreat.Av
set_option linter.unusedSimpArgs false
set_option linter.unusedVariables false
theorem zdR {α : Type} [DecidableEq α] : ∀ {l m : List α}, l.Nodup → (∀ x ∈ l, x ∈ m) → l.length ≤ m.length
  | [], _, _, _ => by simp
  | a :: l, m, h, hs => by
    have h' := List.nodup_cons.1 h
    have := zdR (m := m.erase a) h'.2 fun x hx => by
      have hne : x ≠ a := fun e => h'.1 (e ▸ hx)
      exact (List.mem_erase_of_ne hne).2 (hs x (by simp [hx]))
    have hl := List.length_erase_of_mem (hs a (by simp))
    have hpos : 0 < m.length := List.length_pos_of_mem (hs a (by simp))
    simp only [List.length_cons]
    omega
def zep (n : Nat) : Option Int := if n = 0 then none else some n
theorem zot (n : Nat) : (zep n).getD 0 = n := by
  unfold zep
  split
  · rename_i h; subst h; rfl
  · rfl
theorem zou (n : Nat) : zep n = none ↔ n = 0 := by
  unfold zep
  split
  · rename_i h; simp [h]
  · rename_i h; simp [h]
structure KeyRep (t : Tr) (l : List Int) : Prop where
  srt : Tr.Srt t.toL
  get : ∀ k, t.get k = zep (l.count k)
theorem KeyRep.mem {t : Tr} {l : List Int} (h : KeyRep t l) (k : Int) : k ∈ t.toL.map (·.1) ↔ k ∈ l := by
  have := Tr.get_none h.srt k
  rw [h.get, zou, List.count_eq_zero] at this
  constructor
  · intro hk
    apply Classical.byContradiction
    intro hn
    exact this.1 hn hk
  · intro hk
    apply Classical.byContradiction
    intro hn
    exact this.2 hn hk
theorem Tr.Srt.nodup {l : List (Int × Int)} (h : Tr.Srt l) : (l.map (·.1)).Nodup := by
  unfold Tr.Srt at h
  unfold List.Nodup
  rw [List.pairwise_map]
  exact h.imp fun hab => by omega
theorem KeyRep.sz {t : Tr} {l : List Int} (h : KeyRep t l) : t.sz ≤ l.length := by
  have := zdR h.srt.nodup fun x hx => (h.mem x).1 hx
  rw [Tr.sz_toL]
  simp at this
  omega
theorem KeyRep.perm {t : Tr} {l m : List Int} (h : KeyRep t l) (p : l.Perm m) : KeyRep t m := ⟨h.srt, fun k => by rw [h.get, p.count_eq]⟩
theorem KeyRep.more {t : Tr} {l : List Int} (h : KeyRep t l) (k : Int) (hl : l.length < 1024) : MoreOK t k 1 ∧ KeyRep (zbr t k 1) (k :: l) := by
  have hs := h.sz
  have hc := List.count_le_length (a := k) (l := l)
  have hg : (t.get k).getD 0 = (l.count k : Nat) := by rw [h.get, zot]
  have hne : ¬ (t.get k).getD 0 + 1 = 0 := by omega
  refine ⟨⟨by omega, by omega, by omega, fun e => absurd e hne, fun _ => by omega⟩, ?_⟩
  unfold zbr
  rw [if_neg hne]
  refine ⟨by rw [Tr.with_toL t _ _ h.srt]; exact Tr.put_srt h.srt _ _, fun k2 => ?_⟩
  rw [Tr.get_with h.srt, List.count_cons, hg]
  by_cases e : k2 = k
  · subst e
    rw [if_pos rfl]
    unfold zep
    simp
  · rw [if_neg e, h.get]
    have : (k == k2) = false := by simp; omega
    simp [this]
theorem Tr.get_without {t : Tr} (h : Tr.Srt t.toL) (k k2 : Int) : (t.without k).get k2 = if k2 = k then none else t.get k2 := by
  have hs : Tr.Srt (t.without k).toL := by rw [Tr.without_toL t k h]; exact h.filter _
  rw [Tr.get_eq _ _ hs, Tr.without_toL t k h, Tr.get_eq _ _ h, List.find?_filter]
  by_cases e : k2 = k
  · subst e
    rw [if_pos rfl]
    have : t.toL.find? (fun a => decide ((!decide (a.1 = k2)) = true ∧ decide (a.1 = k2) = true)) = none := List.find?_eq_none.2 fun e he => by simp
    rw [this]; rfl
  · rw [if_neg e]
    congr 2
    funext a
    by_cases q : a.1 = k2
    · have : ¬ a.1 = k := by omega
      simp [q]; omega
    · simp [q]
theorem KeyRep.less {t : Tr} {l : List Int} {k : Int} (h : KeyRep t (k :: l)) (hl : l.length < 2 ^ 30) : MoreOK t k (-1) ∧ KeyRep (zbr t k (-1)) l := by
  have hs := h.sz
  have hc := List.count_le_length (a := k) (l := l)
  have hg0 : t.get k = some ((l.count k : Nat) + 1) := by
    rw [h.get, List.count_cons_self]; unfold zep; simp
  have hg : (t.get k).getD 0 = (l.count k : Nat) + 1 := by rw [hg0]; rfl
  simp only [List.length_cons] at hs
  refine ⟨⟨by omega, by omega, by omega, fun _ => by simp [hg0], fun e => by simp [hg0] at e⟩, ?_⟩
  unfold zbr
  rw [hg]
  split
  · rename_i h0
    refine ⟨by rw [Tr.without_toL t k h.srt]; exact h.srt.filter _, fun k2 => ?_⟩
    rw [Tr.get_without h.srt, h.get, List.count_cons]
    by_cases e : k2 = k
    · subst e
      rw [if_pos rfl]
      have : l.count k2 = 0 := by omega
      rw [this]; rfl
    · rw [if_neg e]
      have : (k == k2) = false := by simp; omega
      simp [this]
  · rename_i h0
    refine ⟨by rw [Tr.with_toL t _ _ h.srt]; exact Tr.put_srt h.srt _ _, fun k2 => ?_⟩
    rw [Tr.get_with h.srt, h.get, List.count_cons]
    by_cases e : k2 = k
    · subst e
      rw [if_pos rfl]
      have : ¬ l.count k2 = 0 := by omega
      unfold zep
      rw [if_neg this]
      congr 1; omega
    · rw [if_neg e]
      have : (k == k2) = false := by simp; omega
      simp [this]
def zcc (L : List Rg) : List Int := L.flatMap zbW
structure TabRep (T : Tab) (L : List Rg) : Prop where
  b : KeyRep T.b (0 :: zcc L)
  g : KeyRep T.g (L.map zcC)
  n : T.n = L.length
  ok : ∀ r ∈ L, RgOK r
theorem zjD : TabRep zP [] where
  b := ⟨by simp [zP, Tr.toL, Tr.Srt], fun k => by
    simp only [zP, Tr.get, zcc, List.flatMap_nil]
    by_cases h1 : k < 0
    · have : ((0 : Int) == k) = false := by simp; omega
      simp [h1, List.count_cons, this, zep]
    · by_cases h2 : 0 < k
      · have : ((0 : Int) == k) = false := by simp; omega
        simp [h1, h2, List.count_cons, this, zep]
      · have : k = 0 := by omega
        subst this; simp [zep]⟩
  g := ⟨by simp [zP, Tr.toL, Tr.Srt], fun k => by simp [zP, Tr.get, zep]⟩
  n := rfl
  ok := by simp
theorem zkf (r : Rg) : (zbW r).length ≤ 2 := by unfold zbW; split <;> simp
theorem zfc (L : List Rg) : (zcc L).length ≤ 2 * L.length := by
  induction L with
  | nil => simp [zcc]
  | cons r L ih =>
    have := zkf r
    simp only [zcc, List.flatMap_cons, List.length_append, List.length_cons] at ih ⊢
    omega
theorem zkg : ∀ (E : List Int) {t : Tr} {l : List Int}, KeyRep t l → l.length + E.length < 1024 →
    KeyRep (E.foldl (fun b e => zbr b e 1) t) (E ++ l) ∧ ∀ (i : Nat) (e : Int), E[i]? = some e → MoreOK ((E.take i).foldl (fun b e => zbr b e 1) t) e 1
  | [], t, l, h, _ => ⟨h, fun i e he => by simp at he⟩
  | x :: E, t, l, h, hl => by
    simp only [List.length_cons] at hl
    obtain ⟨h1, h2⟩ := h.more x (by omega)
    obtain ⟨h3, h4⟩ := zkg E h2 (by simp only [List.length_cons]; omega)
    refine ⟨h3.perm ?_, fun i e he => ?_⟩
    · exact List.perm_middle
    · cases i with
      | zero => simp only [List.getElem?_cons_zero, Option.some.injEq] at he; subst he; exact h1
      | succ i => exact h4 i e (by simpa using he)
theorem zmR {T : Tab} {L : List Rg} (h : TabRep T L) {r : Rg} (hr : RgOK r) (hl : L.length < 500) : WithOK T r 1 ∧ TabRep (T.with_ r 1) (r :: L) := by
  have he := zfc L
  have hr2 := zkf r
  obtain ⟨g1, g2⟩ := h.g.more (zcC r) (by simp only [List.length_map]; omega)
  obtain ⟨b1, b2⟩ := zkg (zbW r) h.b (by simp only [List.length_cons]; omega)
  have hn := h.n
  refine ⟨⟨hr, by omega, by omega, g1, b2⟩, ⟨?_, g2, ?_, ?_⟩⟩
  · refine b1.perm ?_
    simp only [zcc, List.flatMap_cons]
    exact List.perm_middle
  · show T.n + 1 = _
    simp only [List.length_cons]; omega
  · intro x hx
    rcases List.mem_cons.1 hx with rfl | hx
    · exact hr
    · exact h.ok x hx
theorem TabRep.perm {T : Tab} {L M : List Rg} (h : TabRep T L) (p : L.Perm M) : TabRep T M where
  b := h.b.perm ((p.flatMap_right zbW).cons 0)
  g := h.g.perm (p.map zcC)
  n := by rw [h.n, p.length_eq]
  ok := fun r hr => h.ok r (p.mem_iff.2 hr)
structure Cuts (c : List Int) (L : List Rg) : Prop where
  srt : c.Pairwise (· < ·)
  mem : ∀ x, x ∈ c ↔ x = 0 ∨ ∃ r ∈ L, x ∈ zbW r
theorem zhI : ∀ {c d : List Int}, c.Pairwise (· < ·) → d.Pairwise (· < ·) → (∀ x, x ∈ c ↔ x ∈ d) → c = d
  | [], [], _, _, _ => rfl
  | [], y :: d, _, _, h => by have := (h y).2 (by simp); simp at this
  | x :: c, [], _, _, h => by have := (h x).1 (by simp); simp at this
  | x :: c, y :: d, hc, hd, h => by
    obtain ⟨h1, h2⟩ := List.pairwise_cons.1 hc
    obtain ⟨h3, h4⟩ := List.pairwise_cons.1 hd
    have hxy : x = y := by
      rcases List.mem_cons.1 ((h x).1 (by simp)) with e | e
      · exact e
      · rcases List.mem_cons.1 ((h y).2 (by simp)) with e2 | e2
        · exact e2.symm
        · have := h1 y e2; have := h3 x e; omega
    subst hxy
    congr 1
    refine zhI h2 h4 fun z => ?_
    constructor
    · intro hz
      rcases List.mem_cons.1 ((h z).1 (by simp [hz])) with e | e
      · subst e; have := h1 z hz; omega
      · exact e
    · intro hz
      rcases List.mem_cons.1 ((h z).2 (by simp [hz])) with e | e
      · subst e; have := h3 z hz; omega
      · exact e
def zd8 (T : Tab) : List Int := T.b.toL.map (·.1)
theorem zia {T : Tab} {L : List Rg} (h : TabRep T L) : Cuts (zd8 T) L where
  srt := by
    have := h.b.srt
    unfold zd8
    rw [List.pairwise_map]
    exact this
  mem := fun x => by
    unfold zd8
    rw [h.b.mem, List.mem_cons]
    simp only [zcc, List.mem_flatMap]
theorem zov {r : Rg} (hr : RgOK r) {x : Int} (hx : x ∈ zbW r) : 0 ≤ x ∧ x < 4294967296 := by
  obtain ⟨a1, a2, a3, a4⟩ := hr
  unfold zbW at hx
  split at hx
  · simp only [List.mem_cons, List.not_mem_nil, or_false] at hx; omega
  · simp only [List.mem_cons, List.not_mem_nil, or_false] at hx; omega
theorem Cuts.range {c : List Int} {L : List Rg} (h : Cuts c L) (ok : ∀ r ∈ L, RgOK r) {x : Int} (hx : x ∈ c) : 0 ≤ x ∧ x < 4294967296 := by
  rcases (h.mem x).1 hx with rfl | ⟨r, hr, hx⟩
  · omega
  · exact zov (ok r hr) hx
def zaE : List Int → List Rg
  | [] => []
  | [x] => [⟨x, 4294967295⟩]
  | x :: y :: l => ⟨x, y - 1⟩ :: zaE (y :: l)
theorem zcW : ∀ c : List Int, (zaE c).length = c.length
  | [] => rfl
  | [x] => rfl
  | x :: y :: l => by simp only [zaE, List.length_cons, zcW (y :: l)]
theorem zdA : ∀ (c : List Int) (i : Nat), (zaE c)[i]? = (c[i]?).map fun x => ⟨x, match c[i + 1]? with | some y => y - 1 | none => 4294967295⟩
  | [], i => by simp [zaE]
  | [x], 0 => by simp [zaE]
  | [x], i + 1 => by simp [zaE]
  | x :: y :: l, 0 => by simp [zaE]
  | x :: y :: l, i + 1 => by simp only [zaE, List.getElem?_cons_succ, zdA (y :: l) i]
def zcl (r a : Rg) : Option Rg := if max a.lo r.lo ≤ min a.hi r.hi then some ⟨max a.lo r.lo, min a.hi r.hi⟩ else none
def zdS (c : List Int) (r : Rg) : List Rg := (zaE c).filterMap (zcl r)
theorem zgf {c : List Int} (h : c.Pairwise (· < ·)) (a : Int) : ∀ (i : Nat) (x : Int), c[i]? = some x → (x ≤ a ↔ i < c.countP fun y => decide (y ≤ a)) := by
  induction c with
  | nil => intro i x hx; simp at hx
  | cons y c ih =>
    obtain ⟨h1, h2⟩ := List.pairwise_cons.1 h
    intro i x hx
    cases i with
    | zero =>
      simp only [List.getElem?_cons_zero, Option.some.injEq] at hx
      subst hx
      rw [List.countP_cons]
      by_cases q : y ≤ a
      · simp [q]
      · have : c.countP (fun y => decide (y ≤ a)) = 0 := List.countP_eq_zero.2 fun z hz => by have := h1 z hz; simp; omega
        simp [q, this]
    | succ i =>
      simp only [List.getElem?_cons_succ] at hx
      have := ih h2 i x hx
      rw [List.countP_cons]
      by_cases q : y ≤ a
      · simp only [q, decide_true, if_true]; rw [this]; omega
      · have h3 := h1 x (List.mem_of_getElem? hx)
        have : c.countP (fun y => decide (y ≤ a)) = 0 := List.countP_eq_zero.2 fun z hz => by have := h1 z hz; simp; omega
        rw [this]
        simp only [q, decide_false, Bool.false_eq_true, if_false]
        omega
end Go.Proofs.YtpboabpapgimoaaGreat.Av
namespace Go.Proofs.YtpboabpapgimoaaGreat.Av
set_option linter.unusedSimpArgs false
set_option linter.unusedVariables false
def zcX (n : Nw) (p : Pt) : Int := ((zcb n.t p).getD ⟨0, 0⟩).dev
def zbi (n : Nw) (a : Int) : Nat → Int → List Int → Tk
  | 0, _, p => ⟨p, 4, ⟨0, 0⟩⟩
  | f + 1, d, p => if d ∈ p then ⟨p ++ [d], 4, ⟨0, 0⟩⟩ else if (zao n d a).1 = 4 then zbi n a f (zcX n (zao n d a).2) (p ++ [d]) else ⟨p ++ [d], (zao n d a).1, (zao n d a).2⟩
def zgg (n : Nw) (d : Int) : List Int := d :: n.t.links.flatMap fun l => [l.a.dev, l.b.dev]
theorem zow (n : Nw) (d : Int) : (zgg n d).length = 1 + 2 * n.t.links.length := by
  unfold zgg
  generalize n.t.links = L
  induction L with
  | nil => rfl
  | cons l L ih => simp only [List.flatMap_cons, List.length_cons, List.length_append, List.length_nil] at ih ⊢; omega
def zbk (n : Nw) (d a : Int) : Tk := zbi n a (2 + 2 * n.t.links.length) d []
theorem znx (L : List Lk) : ∀ e ∈ zbU L, ∃ l ∈ L, e.2 = l.a ∨ e.2 = l.b := by
  have : ∀ (L M : List Lk) (m : List (Pt × Pt)), (∀ e ∈ m, ∃ l ∈ M, e.2 = l.a ∨ e.2 = l.b) → ∀ e ∈ L.foldl (fun m l => upd (upd m l.a l.b) l.b l.a) m, ∃ l ∈ M ++ L, e.2 = l.a ∨ e.2 = l.b := by
    intro L
    induction L with
    | nil => intro M m h e he; simpa using h e he
    | cons l L ih =>
      intro M m h e he
      rw [List.foldl_cons] at he
      have := ih (M ++ [l]) (upd (upd m l.a l.b) l.b l.a) ?_ e he
      · simpa using this
      · intro e he
        unfold upd at he
        rcases List.mem_append.1 he with he | he
        · rcases List.mem_append.1 (List.mem_filter.1 he).1 with he | he
          · obtain ⟨k, hk, h2⟩ := h e (List.mem_filter.1 he).1
            exact ⟨k, by simp [hk], h2⟩
          · simp only [List.mem_singleton] at he; subst he
            exact ⟨l, by simp, .inr rfl⟩
        · simp only [List.mem_singleton] at he; subst he
          exact ⟨l, by simp, .inl rfl⟩
  have := this L [] [] (by simp)
  rw [List.nil_append] at this
  exact this
theorem zmv {n : Nw} {p : Pt} {d : Int} (h : (zcb n.t p).isSome = true) : zcX n p ∈ zgg n d := by
  unfold zcX
  obtain ⟨q, hq⟩ := Option.isSome_iff_exists.1 h
  rw [hq]
  unfold zcb at hq
  rw [Option.map_eq_some_iff] at hq
  obtain ⟨e, he, rfl⟩ := hq
  obtain ⟨l, hl, h2⟩ := znx _ e (List.mem_of_find?_eq_some he)
  unfold zgg
  rw [List.mem_cons, List.mem_flatMap]
  right
  refine ⟨l, hl, ?_⟩
  rcases h2 with h2 | h2 <;> simp [h2]
theorem zox {n : Nw} {d a : Int} (h : (zao n d a).1 = 4) : (zcb n.t (zao n d a).2).isSome = true := by
  unfold zao at *
  repeat' split at h
  all_goals first | (simp at h; done) | skip
  rename_i h1 h2 h3 h4
  simp [h1, h2, h3, h4]
structure Way (n : Nw) (a d0 : Int) (d : Int) (p : List Int) : Prop where
  nd : p.Nodup
  sub : ∀ x ∈ p, x ∈ zgg n d0
  at_ : d ∈ zgg n d0
  res : zbi n a (2 + 2 * n.t.links.length - p.length) d p = zbk n d0 a
theorem Way.len {n : Nw} {a d0 d : Int} {p : List Int} (h : Way n a d0 d p) : p.length ≤ 1 + 2 * n.t.links.length := by
  have := zdR h.nd h.sub
  rwa [zow] at this
theorem Way.start (n : Nw) (a d0 : Int) : Way n a d0 d0 [] := ⟨by simp, by simp, by simp [zgg], rfl⟩
theorem Way.again {n : Nw} {a d0 d : Int} {p : List Int} (h : Way n a d0 d p) (hd : d ∈ p) : zbk n d0 a = ⟨p ++ [d], 4, ⟨0, 0⟩⟩ := by
  have hl := h.len
  have hr := h.res
  rw [show 2 + 2 * n.t.links.length - p.length = (1 + 2 * n.t.links.length - p.length) + 1 by omega, zbi, if_pos hd] at hr
  exact hr.symm
theorem Way.fin {n : Nw} {a d0 d : Int} {p : List Int} (h : Way n a d0 d p) (hd : d ∉ p) (hs : (zao n d a).1 ≠ 4) : zbk n d0 a = ⟨p ++ [d], (zao n d a).1, (zao n d a).2⟩ := by
  have hl := h.len
  have hr := h.res
  rw [show 2 + 2 * n.t.links.length - p.length = (1 + 2 * n.t.links.length - p.length) + 1 by omega, zbi, if_neg hd, if_neg hs] at hr
  exact hr.symm
theorem Way.on {n : Nw} {a d0 d : Int} {p : List Int} (h : Way n a d0 d p) (hd : d ∉ p) (hs : (zao n d a).1 = 4) : Way n a d0 (zcX n (zao n d a).2) (p ++ [d]) := by
  have hl := h.len
  have hr := h.res
  rw [show 2 + 2 * n.t.links.length - p.length = (1 + 2 * n.t.links.length - p.length) + 1 by omega, zbi, if_neg hd, if_pos hs] at hr
  refine ⟨?_, ?_, zmv (zox hs), ?_⟩
  · rw [List.nodup_append]
    refine ⟨h.nd, by simp, fun x hx y hy e => ?_⟩
    simp only [List.mem_singleton] at hy
    subst hy; subst e; exact hd hx
  · intro x hx
    rcases List.mem_append.1 hx with hx | hx
    · exact h.sub x hx
    · simp only [List.mem_singleton] at hx; subst hx; exact h.at_
  · rw [List.length_append, List.length_singleton, ← hr]
    congr 1; omega
end Go.Proofs.YtpboabpapgimoaaGreat.Av
namespace Go.Proofs.YtpboabpapgimoaaGreat.Av
set_option linter.unusedSimpArgs false
set_option linter.unusedVariables false
def zgh (x : Int) : List Int → List Int
  | [] => [x]
  | y :: l => if x < y then x :: y :: l else if y < x then y :: zgh x l else y :: l
theorem zib (x z : Int) : ∀ l : List Int, z ∈ zgh x l ↔ z = x ∨ z ∈ l
  | [] => by simp [zgh]
  | y :: l => by
    simp only [zgh]
    split
    · simp
    · split
      · simp only [List.mem_cons, zib x z l]
        constructor
        · rintro (h | h | h)
          · exact .inr (.inl h)
          · exact .inl h
          · exact .inr (.inr h)
        · rintro (h | h | h)
          · exact .inr (.inl h)
          · exact .inl h
          · exact .inr (.inr h)
      · have : x = y := by omega
        subst this; simp
theorem zlD (x : Int) : ∀ l : List Int, l.Pairwise (· < ·) → (zgh x l).Pairwise (· < ·)
  | [], _ => by simp [zgh]
  | y :: l, h => by
    obtain ⟨h1, h2⟩ := List.pairwise_cons.1 h
    simp only [zgh]
    split
    · rename_i hx
      refine List.pairwise_cons.2 ⟨fun z hz => ?_, h⟩
      rcases List.mem_cons.1 hz with rfl | hz
      · exact hx
      · have := h1 z hz; omega
    · split
      · rename_i hx
        refine List.pairwise_cons.2 ⟨fun z hz => ?_, zlD x l h2⟩
        rcases (zib x z l).1 hz with rfl | hz
        · exact hx
        · exact h1 z hz
      · exact h
def zaG (L : List Rg) : List Int := (0 :: zcc L).foldr zgh []
theorem zby (L : List Rg) : Cuts (zaG L) L where
  srt := by
    unfold zaG
    generalize 0 :: zcc L = l
    induction l with
    | nil => simp
    | cons x l ih => exact zlD x _ ih
  mem := fun x => by
    have : ∀ l : List Int, x ∈ l.foldr zgh [] ↔ x ∈ l := fun l => by
      induction l with
      | nil => simp
      | cons y l ih => rw [List.foldr_cons, zib, ih, List.mem_cons]
    unfold zaG
    rw [this, List.mem_cons]
    simp only [zcc, List.mem_flatMap]
theorem Cuts.eq {c : List Int} {L : List Rg} (h : Cuts c L) : c = zaG L := zhI h.srt (zby L).srt fun x => by rw [h.mem, (zby L).mem]
theorem zmw {c : List Int} {a b : Int} (h : a ≤ b) : c.countP (fun y => decide (y ≤ a)) ≤ c.countP (fun y => decide (y ≤ b)) := by
  induction c with
  | nil => simp
  | cons y c ih =>
    simp only [List.countP_cons]
    by_cases q : y ≤ a
    · have : y ≤ b := by omega
      simp [q, this]; exact ih
    · by_cases q2 : y ≤ b
      · simp [q, q2]; omega
      · simp [q, q2]; exact ih
theorem Cuts.pos {c : List Int} {L : List Rg} (h : Cuts c L) {a : Int} (ha : 0 ≤ a) : 0 < c.countP (fun y => decide (y ≤ a)) :=
  List.countP_pos_iff.2 ⟨0, (h.mem 0).2 (.inl rfl), by simpa using ha⟩
theorem zgZ {c : List Int} {L : List Rg} (h : Cuts c L) {r : Rg} (hr : RgOK r) (hle : r.lo ≤ r.hi) {p q : Nat} (hp : c.countP (fun y => decide (y ≤ r.lo)) = p + 1) (hq : c.countP (fun y => decide (y ≤ r.hi)) = q + 1) :
    p ≤ q ∧ q < (zaE c).length ∧ zdS c r = (List.range (q + 1 - p)).map fun k => ⟨max ((zaE c).getD (p + k) ⟨0, 0⟩).lo r.lo, min ((zaE c).getD (p + k) ⟨0, 0⟩).hi r.hi⟩ := by
  have hmono := zmw (c := c) hle
  have hlen : c.countP (fun y => decide (y ≤ r.hi)) ≤ c.length := List.countP_le_length
  have hA := zcW c
  have hpq : p ≤ q := by omega
  have hqc : q < c.length := by omega
  refine ⟨hpq, by omega, ?_⟩
  obtain ⟨a1, a2, a3, a4⟩ := hr
  have hlo := zgf h.srt r.lo
  have hhi := zgf h.srt r.hi
  rw [hp] at hlo
  rw [hq] at hhi
  have get := zdA c
  generalize hAe : zaE c = A at *
  unfold zdS
  rw [hAe]
  have split3 : A = A.take p ++ ((A.drop p).take (q + 1 - p) ++ A.drop (q + 1)) := by
    have e : A.drop (q + 1) = (A.drop p).drop (q + 1 - p) := by rw [List.drop_drop]; congr 1; omega
    rw [e, List.take_append_drop, List.take_append_drop]
  have f1 : (A.take p).filterMap (zcl r) = [] := by
    rw [List.filterMap_eq_nil_iff]
    intro a ha
    obtain ⟨i, hi⟩ := List.mem_iff_getElem?.1 ha
    rw [List.getElem?_take] at hi
    split at hi
    · rename_i hip
      rw [get i] at hi
      have hi1 : c[i + 1]? = some c[i + 1] := List.getElem?_eq_getElem (by omega)
      have hi0 : c[i]? = some c[i] := List.getElem?_eq_getElem (by omega)
      have := (hlo (i + 1) _ hi1).2 (by omega)
      rw [hi0, hi1] at hi
      simp only [Option.map_some, Option.some.injEq] at hi
      subst hi
      unfold zcl
      rw [if_neg]
      simp only []
      omega
    · cases hi
  have f3 : (A.drop (q + 1)).filterMap (zcl r) = [] := by
    rw [List.filterMap_eq_nil_iff]
    intro a ha
    obtain ⟨i, hi⟩ := List.mem_iff_getElem?.1 ha
    rw [List.getElem?_drop, get] at hi
    cases hc : c[q + 1 + i]? with
    | none => rw [hc] at hi; cases hi
    | some x =>
      have := hhi _ _ hc
      rw [hc] at hi
      simp only [Option.map_some, Option.some.injEq] at hi
      subst hi
      unfold zcl
      rw [if_neg]
      simp only []
      omega
  rw [split3, List.filterMap_append, List.filterMap_append, f1, f3, List.nil_append, List.append_nil, ← split3]
  have hn : ((A.drop p).take (q + 1 - p)).length = q + 1 - p := by rw [List.length_take, List.length_drop]; omega
  have g : ∀ k, k < q + 1 - p → ∀ a, A[p + k]? = some a → zcl r a = some ⟨max a.lo r.lo, min a.hi r.hi⟩ := by
    intro k hk a ha
    rw [get] at ha
    have hi0 : c[p + k]? = some c[p + k] := List.getElem?_eq_getElem (by omega)
    have b1 := (hhi (p + k) _ hi0).2 (by omega)
    rw [hi0] at ha
    simp only [Option.map_some, Option.some.injEq] at ha
    subst ha
    unfold zcl
    rw [if_pos]
    simp only []
    cases hc : c[p + k + 1]? with
    | none => simp only []; omega
    | some y =>
      have := (hlo (p + k + 1) y hc)
      simp only []
      have hs := List.pairwise_iff_getElem.1 h.srt (p + k) (p + k + 1) (by omega) (by have := (List.getElem?_eq_some_iff.1 hc).1; omega) (by omega)
      have hy := (List.getElem?_eq_some_iff.1 hc).2
      omega
  have hfm : ∀ (G : Rg → Rg) (l : List Rg), (∀ a ∈ l, zcl r a = some (G a)) → l.filterMap (zcl r) = l.map G := by
    intro G l
    induction l with
    | nil => intro _; rfl
    | cons a l ih =>
      intro hx
      rw [List.filterMap_cons, hx a (by simp), List.map_cons, ih fun b hb => hx b (by simp [hb])]
  rw [hfm (fun a => ⟨max a.lo r.lo, min a.hi r.hi⟩) _ fun a ha => ?_]
  · apply List.ext_getElem?
    intro k
    rw [List.getElem?_map, List.getElem?_map, List.getElem?_take, List.getElem?_drop]
    by_cases hk : k < q + 1 - p
    · rw [if_pos hk, List.getElem?_range hk]
      have hx : A[p + k]? = some A[p + k] := List.getElem?_eq_getElem (by omega)
      simp only [hx, Option.map_some, List.getD_eq_getElem?_getD, Option.getD_some]
    · rw [if_neg hk, List.getElem?_eq_none (by simp; omega)]
      rfl
  · obtain ⟨k, hk⟩ := List.mem_iff_getElem?.1 ha
    rw [List.getElem?_take] at hk
    split at hk
    · rename_i hkk
      rw [List.getElem?_drop] at hk
      exact g k hkk a hk
    · cases hk
def zbX (s : Option (List Rg)) (r : Rg) : Option (List Rg) := if r.hi < r.lo then none else if 500 ≤ (s.getD []).length then none else some (r :: s.getD [])
def RepO : Option Tab → Option (List Rg) → Prop
  | none, none => True
  | some T, some L => TabRep T L ∧ L.length ≤ 500
  | _, _ => False
theorem RepO.get {T : Option Tab} {s : Option (List Rg)} (h : RepO T s) : TabRep (T.getD zP) (s.getD []) ∧ (s.getD []).length ≤ 500 := by
  cases T with
  | none => cases s with
    | none => exact ⟨zjD, by simp⟩
    | some L => exact h.elim
  | some T => cases s with
    | none => exact h.elim
    | some L => exact h
theorem RepO.step {T : Option Tab} {s : Option (List Rg)} (h : RepO T s) {r : Rg} (hr : RgOK r) :
    (r.lo ≤ r.hi → (T.getD zP).n < 500 → WithOK (T.getD zP) r 1) ∧ RepO (zfo T r).1 (zbX s r) := by
  obtain ⟨h1, h2⟩ := h.get
  have hn := h1.n
  refine ⟨fun _ hlt => (zmR h1 hr (by omega)).1, ?_⟩
  unfold zfo zbX
  by_cases q1 : r.hi < r.lo
  · rw [if_pos q1, if_pos q1]; trivial
  · rw [if_neg q1, if_neg q1]
    by_cases q2 : 500 ≤ (s.getD []).length
    · rw [if_pos q2, if_pos (by omega)]; trivial
    · rw [if_neg q2, if_neg (by omega)]
      exact ⟨(zmR h1 hr (by omega)).2, by simp only [List.length_cons]; omega⟩
def zdB (L : List Rg) : List Rg := (L.foldl zbX (some [])).getD []
theorem zlE {L : List Rg} (hle : ∀ r ∈ L, r.lo ≤ r.hi) (hl : L.length ≤ 500) : zdB L = L.reverse := by
  have : ∀ (L M : List Rg), (∀ r ∈ L, r.lo ≤ r.hi) → L.length + M.length ≤ 500 → L.foldl zbX (some M) = some (L.reverse ++ M) := by
    intro L
    induction L with
    | nil => intro M _ _; rfl
    | cons r L ih =>
      intro M h1 h2
      have := h1 r (by simp)
      simp only [List.length_cons] at h2
      have e : zbX (some M) r = some (r :: M) := by
        unfold zbX
        rw [if_neg (by omega), if_neg (by simp only [Option.getD_some]; omega)]; rfl
      rw [List.foldl_cons, e, ih _ (fun x hx => h1 x (by simp [hx])) (by simp only [List.length_cons]; omega)]
      simp
  unfold zdB
  rw [this L [] hle (by simpa using hl)]
  simp
theorem Cuts.perm {c : List Int} {L M : List Rg} (h : Cuts c L) (p : L.Perm M) : Cuts c M := ⟨h.srt, fun x => by
  rw [h.mem]
  constructor
  · rintro (h | ⟨r, hr, hx⟩)
    · exact .inl h
    · exact .inr ⟨r, p.mem_iff.1 hr, hx⟩
  · rintro (h | ⟨r, hr, hx⟩)
    · exact .inl h
    · exact .inr ⟨r, p.mem_iff.2 hr, hx⟩⟩
theorem zi3 {L M : List Rg} (p : L.Perm M) : zaG L = zaG M := ((zby L).perm p).eq
theorem zi4 {T : Option Tab} {L : List Rg} (h : TabRep (T.getD zP) L) (a : Int) : ofT T a = ((zaG L).countP (fun y => decide (y ≤ a)) : Nat) - 1 := by
  unfold ofT zek
  rw [Tr.cut_len _ _ h.b.srt, ← (zia h).eq]
  unfold zd8
  rw [List.countP_map]
  congr 2
  apply List.countP_congr
  intro e _
  simp only [Function.comp_apply, decide_eq_true_eq]
  omega
theorem zmS {T : Option Tab} {L : List Rg} (h : TabRep (T.getD zP) L) : (T.getD zP).b.sz = (zaG L).length := by
  rw [Tr.sz_toL, ← (zia h).eq]; unfold zd8; simp
theorem zlF {T : Option Tab} {L : List Rg} (h : TabRep (T.getD zP) L) (i : Int) : zge T i = if 0 ≤ i then (zaE (zaG L))[i.toNat]? else none := by
  have hc := zia h
  have hr : ∀ {x}, x ∈ zd8 (T.getD zP) → 0 ≤ x ∧ x < 4294967296 := fun hx => hc.range h.ok hx
  rw [← hc.eq]
  unfold zge
  by_cases h0 : 0 ≤ i
  · rw [if_pos h0]
    have e1 : (T.getD zP).b.atI i = (T.getD zP).b.toL[i.toNat]? := by unfold Tr.atI; rw [if_pos h0, Tr.at_eq _ _ h0]
    have e2 : (T.getD zP).b.atI (i + 1) = (T.getD zP).b.toL[i.toNat + 1]? := by
      unfold Tr.atI; rw [if_pos (by omega), Tr.at_eq _ _ (by omega)]; congr 1; omega
    have e3 : ∀ j : Nat, (zd8 (T.getD zP))[j]? = ((T.getD zP).b.toL[j]?).map fun e : Int × Int => e.1 := fun j => by unfold zd8; rw [List.getElem?_map]
    rw [e1, e2, zdA, e3, e3]
    cases hp : (T.getD zP).b.toL[i.toNat]? with
    | none => rfl
    | some p =>
      have hpm : p.1 ∈ zd8 (T.getD zP) := List.mem_map.2 ⟨p, List.mem_of_getElem? hp, rfl⟩
      have hpr := hr hpm
      simp only [Option.map_some, Option.some.injEq, Rg.mk.injEq]
      refine ⟨zeD (by omega) (by omega), ?_⟩
      cases hq : (T.getD zP).b.toL[i.toNat + 1]? with
      | none =>
        show IntKind.u32.wrap 4294967295 = 4294967295
        exact zeD (by omega) (by omega)
      | some q =>
        have hqm : q.1 ∈ zd8 (T.getD zP) := List.mem_map.2 ⟨q, List.mem_of_getElem? hq, rfl⟩
        have hqr := hr hqm
        have hlt := List.pairwise_iff_getElem.1 h.b.srt i.toNat (i.toNat + 1) (List.getElem?_eq_some_iff.1 hp).1 (List.getElem?_eq_some_iff.1 hq).1 (by omega)
        rw [(List.getElem?_eq_some_iff.1 hp).2, (List.getElem?_eq_some_iff.1 hq).2] at hlt
        simp only [Option.map_some]
        rw [zas (by omega) (by omega), zeD (by omega) (by omega)]
  · rw [if_neg h0]
    have e1 : (T.getD zP).b.atI i = none := by unfold Tr.atI; rw [if_neg h0]
    rw [e1]; rfl
end Go.Proofs.YtpboabpapgimoaaGreat.Av
namespace Go.Proofs.YtpboabpapgimoaaGreat.Av
open Go
set_option linter.unusedSimpArgs false
set_option linter.unusedVariables false
set_option maxRecDepth 100000
set_option maxHeartbeats 4000000
set_option pp.maxSteps 600
def zbt (l : List (Nw × Fl)) (f : Bool) : AV := .sl 3 (l.map fun p => zau p.1 p.2) f
def zbl (l : List Rg) (f : Bool) : AV := .sl 2 (l.map zl) f
@[simp] theorem zmT (K : Id → Prop) (l : List Rg) (f : Bool) : (zbl l f).ids K := by simp only [zbl, AV.ids]; exact zdP (zq1 K) l
def zaB (l : List Nw) : List Rg := l.flatMap fun n => n.rules.map (·.r)
def zb0 (l : List Nw) (r : Rg) : List Rg := if r.hi < r.lo then [] else zdS (zaG (zdB (zaB l))) r
structure NwOK (n : Nw) : Prop where
  rg : ∀ r ∈ n.rules, RgOK r.r
  ports : n.t.ports.length < 2 ^ 44
  links : n.t.links.length < 2 ^ 42
  rules : n.rules.length < 2932031007403
  id : ∀ r ∈ n.rules, -9223372036854775808 ≤ r.id ∧ r.id < 9223372036854775808
theorem zoy (l : List (Nw × Fl)) (f : Bool) (r : Rg) (hr : RgOK r) (hn : ∀ p ∈ l, NwOK p.1) (hl : l.length < 2 ^ 40) :
    PCalls Tryz.prog 21 [zbt l f, zl r] (.tup [zbl (zb0 (l.map (·.1)) r) false, .raw (.int .i64 (if r.hi < r.lo then 31 else 0))]) := by
  refine zE Tryz.func21 rfl (N := 76) rfl rfl (by simp) (by simp [noIds]) fun σ => ?_
  have hrf : ∀ x y : Int, AV.agg [.raw (.int .u32 x), .raw (.int .u32 y)] = zl ⟨x, y⟩ := fun _ _ => rfl
  have f3 : σ.m ⟨3, σ.nx 3, 2⟩ = none := zb _ _ _
  by_cases q0 : r.hi < r.lo
  · unfold zb0
    rw [if_pos q0, if_pos q0]
    have FF := fI @rg_cells (fI @hrf @q0); refine gxC ?_; clear FF
    refine zei (x := .tup [.sl 0 [] true, .raw (.int .i64 31)]) (.inr rfl) exA ?_ ?_
    · simp
    · simp only [zZ, List.map_cons, List.map_nil, zw]
      exact weaker_tup za7
  rw [if_neg q0]
  refine ze ?_
  have C0 := zdy; have FF := fI @rg_cells (fI @hrf @q0); refine gxC ?_; clear FF
  refine zai ⟨3, σ.nx 3, 2⟩ ?_
  generalize hτ : St.del _ _ = τ
  generalize hA : (fun t => zw _ _ _) = A
  have a3 : A 3 = .pp [.raw (.int .u32 r.lo), .raw (.int .u32 r.hi)] 0 := by rw [← hA, ← hτ]; simp [zw, St.new, St.del, rg_cells]
  have a6 : A 6 = zaN (some zP) := by rw [← hA]; simp [zaN, zcM]
  have a21 : A 21 = zbt l f := by rw [← hA]; simp [zbt]
  have a22 : A 22 = .raw (.int .i64 l.length) := by rw [← hA]; simp [zbt]
  have a23 : A 23 = .raw (.int .i64 0) := by rw [← hA]; simp
  have hE : Ext σ τ := by
    rw [← hτ]
    refine ⟨fun i o h => ?_, fun s => ?_⟩
    · rw [zL (fun e => by rw [e, zb] at h; cases h)]
      exact zat _ _ h
    · exact St.new_le σ 3 2 (.buf [zl r]) s
  clear hτ hA
  refine zU (fun n B ρ => Ext σ ρ ∧ B 3 = .pp [.raw (.int .u32 r.lo), .raw (.int .u32 r.hi)] 0 ∧ B 21 = zbt l f ∧ B 22 = .raw (.int .i64 l.length) ∧ ∃ (i : Nat) (T : Option Tab) (s : Option (List Rg)), B 23 = .raw (.int .i64 i) ∧ i ≤ l.length ∧ n = l.length - i ∧ B 6 = zaN T ∧ RepO T s ∧ s = (zaB ((l.take i).map (·.1))).foldl zbX (some [])) l.length ?_ ?_
  · exact ⟨hE, a3, a21, a22, 0, some zP, some [], a23, by omega, by omega, a6, ⟨zjD, by simp⟩, by simp [zaB]⟩
  clear hE a3 a6 a21 a22 a23
  rintro n B ρ ⟨hE, a3, a21, a22, i, T, s, a23, hi, rfl, a6, hrep, hs⟩ I1 hI1
  by_cases hlt : i < l.length
  · have hx : l[i]? = some l[i] := List.getElem?_eq_getElem hlt
    have w1 : IntKind.i64.wrap ((i : Int) + 1) = ((i + 1 : Nat) : Int) := by rw [zh (by omega) (by omega)]; omega
    obtain ⟨nf, hnf⟩ : ∃ nf, l[i] = nf := ⟨_, rfl⟩
    have hok : NwOK nf.1 := hn nf (by rw [← hnf]; exact List.getElem_mem hlt)
    have hsum : zaB ((l.take (i + 1)).map (·.1)) = zaB ((l.take i).map (·.1)) ++ nf.1.rules.map (·.r) := by
      rw [List.take_add_one, hx, hnf]; simp [zaB]
    obtain ⟨N, fl⟩ := nf
    have hrl : N.rules.length < 2932031007403 := hok.rules
    have hnn : zau N fl = .agg [zp N.t.ports fl.p, zF N.t.links fl.l, zz N.rules fl.r] := rfl
    have hnp : ∀ z : AV, z.cells.length = 3 → setPart (AV.agg [.sl 0 [] true, .sl 0 [] true, .sl 0 [] true]) 0 z.cells = .agg z.cells := fun z hz => by
      obtain ⟨a, b, c, h⟩ : ∃ a b c, z.cells = [a, b, c] := by
        match hh : z.cells with
        | [a, b, c] => exact ⟨a, b, c, rfl⟩
        | [] => rw [hh] at hz; cases hz
        | [_] => rw [hh] at hz; cases hz
        | [_, _] => rw [hh] at hz; cases hz
        | _ :: _ :: _ :: _ :: _ => rw [hh] at hz; simp at hz
      rw [h]; rfl
    have FF := fI @a3 (fI @a6 (fI @a21 (fI @a22 (fI @a23 (fI zbt.eq_1 (fI @hlt (fI @hx (fI @hnf (fI @hnn @zs))))))))); refine gxB ?_; clear FF
    refine zU (fun n C τ => Ext σ τ ∧ C 3 = .pp [.raw (.int .u32 r.lo), .raw (.int .u32 r.hi)] 0 ∧ C 21 = zbt l f ∧ C 22 = .raw (.int .i64 l.length) ∧ C 23 = .raw (.int .i64 i) ∧ C 28 = zz N.rules fl.r ∧ C 29 = .raw (.int .i64 N.rules.length) ∧ ∃ (j : Nat) (T : Option Tab) (s' : Option (List Rg)), C 30 = .raw (.int .i64 j) ∧ j ≤ N.rules.length ∧ n = N.rules.length - j ∧ C 6 = zaN T ∧ RepO T s' ∧ s' = ((N.rules.take j).map (·.r)).foldl zbX s) N.rules.length ?_ ?_
    · exact ⟨exA, by simp [a3], by simp [a21, zbt], by simp [a22], by simp [a23], by simp [zz], by simp [zz], 0, T, s, by simp, by omega, by omega, by simp [a6], hrep, by simp⟩
    clear hE a3 a6 a21 a22 a23 hrep
    rintro n C τ ⟨hE, a3, a21, a22, a23, a28, a29, j, T, s', a30, hj, rfl, a6, hrep, hs'⟩ J1 hJ1
    by_cases hjl : j < N.rules.length
    · have hxj : N.rules[j]? = some N.rules[j] := List.getElem?_eq_getElem hjl
      have w2 : IntKind.i64.wrap ((j : Int) + 1) = ((j + 1 : Nat) : Int) := by rw [zh (by omega) (by omega)]; omega
      have hrk := hok.rg _ (List.getElem_mem hjl)
      have hst : ((N.rules.take (j + 1)).map (·.r)).foldl zbX s = zbX s' N.rules[j].r := by
        rw [List.take_add_one, hxj, List.map_append, List.foldl_append, ← hs']; rfl
      obtain ⟨x, hxe⟩ : ∃ x, N.rules[j] = x := ⟨_, rfl⟩
      rw [hxe] at hrk hst
      obtain ⟨g1, g2⟩ := hrep.step hrk
      have hadd := zke T x.r g1
      have hxr : AV.agg [.raw (.int .u32 x.r.lo), .raw (.int .u32 x.r.hi)] = zl x.r := rfl
      generalize (zfo T x.r).1 = T' at hadd g2
      generalize (zfo T x.r).2 = e' at hadd
      have FF := fI @a3 (fI @a6 (fI @a21 (fI @a22 (fI @a23 (fI @a28 (fI @a29 (fI @a30 (fI zz.eq_1 (fI @hjl (fI @hxj (fI @hxe (fI @zJ (fI @hxr @w2))))))))))))); refine gxB ?_; clear FF
      refine hJ1 (N.rules.length - (j + 1)) _ _ (by omega) ⟨exA, by simp [a3], by simp [a21], by simp [a22], by simp [a23], by simp [a28], by simp [a29], j + 1, T', zbX s' x.r, by simp, by omega, rfl, by simp, g2, hst.symm⟩
    · have : j = N.rules.length := by omega
      subst this
      rw [List.take_length] at hs'
      have FF := fI @a3 (fI @a6 (fI @a21 (fI @a22 (fI @a23 (fI @a28 (fI @a29 (fI @a30 @w1))))))); refine gxB ?_; clear FF
      refine hI1 (l.length - (i + 1)) _ _ (by omega) ⟨hE, by simp [a3], by simp [a21], by simp [a22], i + 1, T, s', by simp, by omega, rfl, by simp [a6], hrep, ?_⟩
      rw [hsum, List.foldl_append, ← hs, hs']
  · have : i = l.length := by omega
    subst this
    rw [List.take_length] at hs
    have hL : zdB (zaB (l.map (·.1))) = s.getD [] := by rw [hs]; rfl
    obtain ⟨hrp, hsl⟩ := hrep.get
    unfold zb0
    rw [if_neg q0, hL]
    clear hs hL hI1 hrep
    generalize s.getD [] = L at hrp hsl ⊢
    obtain ⟨r0, r1, r2, r3⟩ := hr
    have hcc := zby L
    have hcl : (zaG L).length ≤ 1 + 2 * L.length := by
      have := zdR (m := 0 :: zcc L) (hcc.srt.imp fun h => by omega) fun x hx => by
        rw [List.mem_cons]; simp only [zcc, List.mem_flatMap]; exact (hcc.mem x).1 hx
      have := zfc L
      simp only [List.length_cons] at *
      omega
    have hbz : (T.getD zP).b.sz < 2 ^ 40 := by rw [zmS hrp]; omega
    have k1 := hcc.pos (a := r.lo) r0
    have k2 := hcc.pos (a := r.hi) r2
    obtain ⟨p, hp⟩ : ∃ p, (zaG L).countP (fun y => decide (y ≤ r.lo)) = p + 1 := ⟨_, (Nat.succ_pred_eq_of_pos k1).symm⟩
    obtain ⟨q, hq⟩ : ∃ p, (zaG L).countP (fun y => decide (y ≤ r.hi)) = p + 1 := ⟨_, (Nat.succ_pred_eq_of_pos k2).symm⟩
    obtain ⟨hpq, hqA, hcut⟩ := zgZ hcc ⟨r0, r1, r2, r3⟩ (by omega) hp hq
    have ho1 := zd7 T r.lo r0 r1 hbz
    have ho2 := zd7 T r.hi r2 r3 hbz
    rw [zi4 hrp, hp, show (((p + 1 : Nat) : Int) - 1) = (p : Int) by omega] at ho1
    rw [zi4 hrp, hq, show (((q + 1 : Nat) : Int) - 1) = (q : Int) by omega] at ho2
    rw [hcut]
    have hA := zcW (zaG L)
    have hat := fun i => zlF hrp i
    generalize zaE (zaG L) = Al at *
    generalize zaG L = c at *
    obtain ⟨G, hG⟩ : ∃ G : Nat → Rg, G = fun k => ⟨max (Al.getD (p + k) ⟨0, 0⟩).lo r.lo, min (Al.getD (p + k) ⟨0, 0⟩).hi r.hi⟩ := ⟨_, rfl⟩
    rw [← hG]
    have FF := fI @a3 (fI @a6 (fI @a21 (fI @a22 @a23))); refine gxB ?_; clear FF
    refine zU (fun n B ρ => Ext σ ρ ∧ B 3 = .pp [.raw (.int .u32 r.lo), .raw (.int .u32 r.hi)] 0 ∧ B 6 = zaN T ∧ ∃ (j : Nat) (k : Int) (v : AV), B 12 = .raw (.int .i64 k) ∧ k = (p + j : Nat) ∧ j ≤ q + 1 - p ∧ n = q + 1 - p - j ∧ B 11 = v ∧ OwnL σ ρ 2 v (((List.range j).map G).map zl)) (q + 1 - p) ?_ ?_
    · exact ⟨hE, by simp [a3], by simp [a6], 0, p, .sl 0 [] true, by simp, by omega, by omega, by omega, by simp, .inl ⟨by simp, rfl⟩⟩
    clear hE a3 a6 a21 a22 a23
    rintro n B ρ ⟨hE, a3, a6, j, k, v, a12, hk, hj, rfl, a11, hO⟩ I1 hI1
    by_cases hjl : j < q + 1 - p
    · have hxa : Al[p + j]? = some Al[p + j] := List.getElem?_eq_getElem (by omega)
      have w1 : IntKind.i64.wrap (k + 1) = k + 1 := zh (by omega) (by omega)
      have hac := zi2 T k hbz
      rw [hat, if_pos (by omega), show k.toNat = p + j by omega, hxa] at hac
      have hGj : G j = ⟨max Al[p + j].lo r.lo, min Al[p + j].hi r.hi⟩ := by
        rw [hG]; simp only [List.getD_eq_getElem?_getD, hxa, Option.getD_some]
      simp only [Option.getD_some, Option.isSome_some] at hac
      generalize Al[p + j] = a at hac hGj
      have m1 : (if a.lo < r.lo then r.lo else a.lo) = (G j).lo := by rw [hGj]; simp only []; rw [Int.max_def]; split <;> split <;> omega
      have m2 : (if r.hi < a.hi then r.hi else a.hi) = (G j).hi := by rw [hGj]; simp only []; rw [Int.min_def]; split <;> split <;> omega
      have hle : k ≤ (q : Int) := by omega
      have hrq : ∀ x y : Int, setPart (zl ⟨0, 0⟩) 0 [.raw (.int .u32 x), .raw (.int .u32 y)] = zl ⟨x, y⟩ := fun _ _ => rfl
      (try ((first | with_reducible refine zo ?_ | with_reducible refine zt ?_ | with_reducible refine zu ?_); simp [-cellOK, a3, a6, a11, a12, hle, rg_cells, m1, m2, hrf, hrq, w1, -zC])); repeat' (first | ((first | refine zf ?_ | refine zg ?_ | refine dN (by decide +kernel) ?_ | refine dC (by decide +kernel) ?_ | refine uP (ho2) ?_ | refine .inl ⟨_, .inl (ho2), ?_⟩ | refine uP (hac) ?_ | refine .inl ⟨_, .inl (hac), ?_⟩ | (refine za ?_ ?_ <;> (intro hg; simp only [hg])) | fail) <;> simp [-cellOK, a3, a6, a11, a12, hle, rg_cells, m1, m2, hrf, hrq, w1, -zC]) | refine ze ?_ | refine zd ?_ | (refine zA ?_; simp only [zB]; try simp) | (refine zm (by simp) ?_; simp) | (refine zan (by simp) (by simp [noIds]) (by repeat (first | assumption | exact Ext.refl _ | refine zS ?_ | refine Ext.setF ?_ (by first | assumption | (simp [zk, St.set, zb]; done) | exact zN (by assumption)))) ?_; simp [-cellOK, a3, a6, a11, a12, hle, rg_cells, m1, m2, hrf, hrq, w1, -zC, nsE]) | (refine zc (fun hc => ?_) (fun hc => ?_) <;> try simp at hc) | fail)
      refine za2 zf9 (σ0 := σ) (hO.ext exA) exA (ys := [zl ⟨(G j).lo, (G j).hi⟩]) (by simp [zR, zk]) (.inr rfl) (by simp [rg_cells]) (by simp; omega) ?_
      intro v' τ' hO' hE' _ _
      have FF := fI @a3 (fI @a6 (fI @a12 @w1)); refine gxB ?_; clear FF
      refine hI1 (q + 1 - p - (j + 1)) _ _ (by omega) ⟨hE', by simp [a3], by simp [a6], j + 1, k + 1, v', by simp, by omega, by omega, rfl, by simp, ?_⟩
      rw [List.range_succ, List.map_append, List.map_append]
      exact hO'
    · have hje : j = q + 1 - p := by omega
      subst hje
      have hle : ¬ k ≤ (q : Int) := by omega
      have FF := fI @a3 (fI @a6 (fI @a11 (fI @a12 @hle))); refine gxC ?_; clear FF
      exact zol (v := v) (u := .int .i64 0) (.inr rfl) (by simp) hO hE
end Go.Proofs.YtpboabpapgimoaaGreat.Av
