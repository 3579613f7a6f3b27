/- Labels: LabelBack, LabelEdits. Part 7 of 17: AvTy, AvGo, AvN1, AvN3, AvN12, AvN8, AvN9, AvN13, AvN14, AvN17, AvN22, AvN2, AvN4, AvN5, AvN7, AvN11, AvT1, AvN6, AvN10, AvT2. -/
import Derived.Test.YtanimmdlgmkmkaaGreatLb6
import Derived.Test.YtanimmdlgmkmkaaGreatProg
namespace Go.Proofs.YtanimmdlgmkmkaaGreat.Av
set_option linter.unusedSimpArgs false
set_option linter.unusedVariables false
open Go
@[simp] theorem zs2 : tsz Tryz.prog 3 = some 1 := by kernel_rfl
@[simp] theorem zs3 : zao Tryz.prog 3 = some 8 := by kernel_rfl
@[simp] theorem zs4 : zan Tryz.prog 3 = some (.int .i64 (0)) := by kernel_rfl
@[simp] theorem tag3 : zai Tryz.prog 3 = some false := by simp [zai, Tryz.underlying3]
@[simp] theorem arr3 : zY Tryz.prog 3 = none := by simp [zY, Tryz.underlying3]
@[simp] theorem uin3 : zdl Tryz.prog 3 = some .i64 := by kernel_rfl
@[simp] theorem pla3 : zcO Tryz.prog 3 = true := by kernel_rfl
@[simp] theorem tsz4 : tsz Tryz.prog 4 = some 1 := by kernel_rfl
@[simp] theorem tby4 : zao Tryz.prog 4 = some 1 := by kernel_rfl
@[simp] theorem tze4 : zan Tryz.prog 4 = some (.bool false) := by kernel_rfl
@[simp] theorem tag4 : zai Tryz.prog 4 = some false := by simp [zai, Tryz.underlying4]
@[simp] theorem arr4 : zY Tryz.prog 4 = none := by simp [zY, Tryz.underlying4]
@[simp] theorem ubo4 : zfU Tryz.prog 4 = true := by kernel_rfl
@[simp] theorem pla4 : zcO Tryz.prog 4 = true := by kernel_rfl
@[simp] theorem zrF : tsz Tryz.prog 22 = some 1 := by kernel_rfl
@[simp] theorem zrG : zao Tryz.prog 22 = some 24 := by kernel_rfl
@[simp] theorem zrH : zan Tryz.prog 22 = some (.slice none 0 0) := by kernel_rfl
@[simp] theorem zwq : zai Tryz.prog 22 = some false := by simp [zai, Tryz.underlying22]
@[simp] theorem zwr : zY Tryz.prog 22 = none := by simp [zY, Tryz.underlying22]
@[simp] theorem zrI : zax Tryz.prog 22 = some 3 := by kernel_rfl
@[simp] theorem zws : tsz Tryz.prog 23 = some 1 := by kernel_rfl
@[simp] theorem zwt : zao Tryz.prog 23 = some 24 := by kernel_rfl
@[simp] theorem zwu : zan Tryz.prog 23 = some (.slice none 0 0) := by kernel_rfl
@[simp] theorem zwv : zai Tryz.prog 23 = some false := by simp [zai, Tryz.underlying23]
@[simp] theorem zww : zY Tryz.prog 23 = none := by simp [zY, Tryz.underlying23]
@[simp] theorem zrJ : zax Tryz.prog 23 = some 160 := by kernel_rfl
@[simp] theorem zwx : tsz Tryz.prog 25 = some 2 := by kernel_rfl
@[simp] theorem zwy : zao Tryz.prog 25 = some 48 := by kernel_rfl
@[simp] theorem zwz : zan Tryz.prog 25 = some (.agg #[(.slice none 0 0), (.slice none 0 0)]) := by kernel_rfl
@[simp] theorem zwA : zai Tryz.prog 25 = some true := by simp [zai, Tryz.underlying25]
@[simp] theorem zwB : zY Tryz.prog 25 = none := by simp [zY, Tryz.underlying25]
@[simp] theorem zwC : zaV Tryz.prog 25 = true := by kernel_rfl
@[simp] theorem zwD : zck Tryz.prog 25 = true := by kernel_rfl
@[simp] theorem ztJ : zac Tryz.prog 25 0 = some (22, 0) := by kernel_rfl
@[simp] theorem ztK : zac Tryz.prog 25 1 = some (23, 1) := by kernel_rfl
@[simp] theorem zwE : za4 Tryz.prog 25 = some [(22, 0), (23, 1)] := by kernel_rfl
@[simp] theorem zwF : Tryz.prog.eqGuardType Tryz.prog.depth 25 = false := by kernel_rfl
@[simp] theorem zwG : tsz Tryz.prog 26 = some 1 := by kernel_rfl
@[simp] theorem zwH : zao Tryz.prog 26 = some 24 := by kernel_rfl
@[simp] theorem zwI : zan Tryz.prog 26 = some (.slice none 0 0) := by kernel_rfl
@[simp] theorem zwJ : zai Tryz.prog 26 = some false := by simp [zai, Tryz.underlying26]
@[simp] theorem zwK : zY Tryz.prog 26 = none := by simp [zY, Tryz.underlying26]
@[simp] theorem zrK : zax Tryz.prog 26 = some 73 := by kernel_rfl
@[simp] theorem zwL : tsz Tryz.prog 28 = some 3 := by kernel_rfl
@[simp] theorem zwM : zao Tryz.prog 28 = some 72 := by kernel_rfl
@[simp] theorem zwN : zan Tryz.prog 28 = some (.agg #[(.slice none 0 0), (.slice none 0 0), (.slice none 0 0)]) := by kernel_rfl
@[simp] theorem zwO : zai Tryz.prog 28 = some true := by simp [zai, Tryz.underlying28]
@[simp] theorem zwP : zY Tryz.prog 28 = none := by simp [zY, Tryz.underlying28]
@[simp] theorem zwQ : zaV Tryz.prog 28 = true := by kernel_rfl
@[simp] theorem zwR : zck Tryz.prog 28 = true := by kernel_rfl
@[simp] theorem ztL : zac Tryz.prog 28 0 = some (25, 0) := by kernel_rfl
@[simp] theorem ztM : zac Tryz.prog 28 1 = some (26, 2) := by kernel_rfl
@[simp] theorem zwS : za4 Tryz.prog 28 = some [(25, 0), (26, 2)] := by kernel_rfl
@[simp] theorem zwT : Tryz.prog.eqGuardType Tryz.prog.depth 28 = false := by kernel_rfl
@[simp] theorem zwU : tsz Tryz.prog 31 = some 1 := by kernel_rfl
@[simp] theorem zwV : zao Tryz.prog 31 = some 4 := by kernel_rfl
@[simp] theorem zwW : zan Tryz.prog 31 = some (.int .u32 (0)) := by kernel_rfl
@[simp] theorem zwX : zai Tryz.prog 31 = some false := by simp [zai, Tryz.underlying31]
@[simp] theorem zwY : zY Tryz.prog 31 = none := by simp [zY, Tryz.underlying31]
@[simp] theorem zwZ : zdl Tryz.prog 31 = some .u32 := by kernel_rfl
@[simp] theorem zw0 : zcO Tryz.prog 31 = true := by kernel_rfl
@[simp] theorem zrL : tsz Tryz.prog 33 = some 2 := by kernel_rfl
@[simp] theorem zrM : zao Tryz.prog 33 = some 8 := by kernel_rfl
@[simp] theorem zrN : zan Tryz.prog 33 = some (.agg #[(.int .u32 (0)), (.int .u32 (0))]) := by kernel_rfl
@[simp] theorem zw1 : zai Tryz.prog 33 = some true := by simp [zai, Tryz.underlying33]
@[simp] theorem zw2 : zY Tryz.prog 33 = none := by simp [zY, Tryz.underlying33]
@[simp] theorem zw3 : zaV Tryz.prog 33 = true := by kernel_rfl
@[simp] theorem zw4 : zck Tryz.prog 33 = true := by kernel_rfl
@[simp] theorem ztN : zac Tryz.prog 33 0 = some (31, 0) := by kernel_rfl
@[simp] theorem ztO : zac Tryz.prog 33 1 = some (31, 1) := by kernel_rfl
@[simp] theorem zw5 : za4 Tryz.prog 33 = some [(31, 0), (31, 1)] := by kernel_rfl
@[simp] theorem zrO : Tryz.prog.eqGuardType Tryz.prog.depth 33 = false := by kernel_rfl
@[simp] theorem zrP : tsz Tryz.prog 41 = some 2 := by kernel_rfl
@[simp] theorem zrQ : zao Tryz.prog 41 = some 16 := by kernel_rfl
@[simp] theorem zrR : zan Tryz.prog 41 = some (.agg #[(.int .i64 (0)), (.int .i64 (0))]) := by kernel_rfl
@[simp] theorem zw6 : zai Tryz.prog 41 = some true := by simp [zai, Tryz.underlying41]
@[simp] theorem zw7 : zY Tryz.prog 41 = none := by simp [zY, Tryz.underlying41]
@[simp] theorem zw8 : zaV Tryz.prog 41 = true := by kernel_rfl
@[simp] theorem zo8 : zck Tryz.prog 41 = true := by kernel_rfl
@[simp] theorem ztP : zac Tryz.prog 41 0 = some (3, 0) := by kernel_rfl
@[simp] theorem ztQ : zac Tryz.prog 41 1 = some (3, 1) := by kernel_rfl
@[simp] theorem zw9 : za4 Tryz.prog 41 = some [(3, 0), (3, 1)] := by kernel_rfl
@[simp] theorem zmU : Tryz.prog.eqGuardType Tryz.prog.depth 41 = false := by kernel_rfl
@[simp] theorem zxa : tsz Tryz.prog 53 = some 1 := by kernel_rfl
@[simp] theorem zxb : zao Tryz.prog 53 = some 8 := by kernel_rfl
@[simp] theorem zxc : zan Tryz.prog 53 = some (.pointer none) := by kernel_rfl
@[simp] theorem zxd : zai Tryz.prog 53 = some false := by simp [zai, Tryz.underlying53]
@[simp] theorem zxe : zY Tryz.prog 53 = none := by simp [zY, Tryz.underlying53]
@[simp] theorem zxf : zfT Tryz.prog 53 = true := by kernel_rfl
@[simp] theorem zxg : tsz Tryz.prog 70 = some 1 := by kernel_rfl
@[simp] theorem zxh : zao Tryz.prog 70 = some 24 := by kernel_rfl
@[simp] theorem zxi : zan Tryz.prog 70 = some (.slice none 0 0) := by kernel_rfl
@[simp] theorem zxj : zai Tryz.prog 70 = some false := by simp [zai, Tryz.underlying70]
@[simp] theorem zxk : zY Tryz.prog 70 = none := by simp [zY, Tryz.underlying70]
@[simp] theorem zrS : zax Tryz.prog 70 = some 75 := by kernel_rfl
@[simp] theorem zxl : tsz Tryz.prog 71 = some 1 := by kernel_rfl
@[simp] theorem zxm : zao Tryz.prog 71 = some 8 := by kernel_rfl
@[simp] theorem zxn : zan Tryz.prog 71 = some (.int .i64 (0)) := by kernel_rfl
@[simp] theorem zxo : zai Tryz.prog 71 = some false := by simp [zai, Tryz.underlying71]
@[simp] theorem zxp : zY Tryz.prog 71 = none := by simp [zY, Tryz.underlying71]
@[simp] theorem zxq : zdl Tryz.prog 71 = some .i64 := by kernel_rfl
@[simp] theorem zxr : zcO Tryz.prog 71 = true := by kernel_rfl
@[simp] theorem zo9 : tsz Tryz.prog 73 = some 7 := by kernel_rfl
@[simp] theorem zpa : zao Tryz.prog 73 = some 48 := by kernel_rfl
@[simp] theorem zpb : zan Tryz.prog 73 = some (.agg #[(.int .i64 (0)), (.int .i64 (0)), (.int .i64 (0)), (.int .i64 (0)), (.int .u32 (0)), (.int .u32 (0)), (.int .i64 (0))]) := by kernel_rfl
@[simp] theorem zxs : zai Tryz.prog 73 = some true := by simp [zai, Tryz.underlying73]
@[simp] theorem zxt : zY Tryz.prog 73 = none := by simp [zY, Tryz.underlying73]
@[simp] theorem zxu : zaV Tryz.prog 73 = true := by kernel_rfl
@[simp] theorem zxv : zck Tryz.prog 73 = true := by kernel_rfl
@[simp] theorem ztR : zac Tryz.prog 73 0 = some (3, 0) := by kernel_rfl
@[simp] theorem ztS : zac Tryz.prog 73 1 = some (3, 1) := by kernel_rfl
@[simp] theorem ztT : zac Tryz.prog 73 2 = some (3, 2) := by kernel_rfl
@[simp] theorem ztU : zac Tryz.prog 73 3 = some (71, 3) := by kernel_rfl
@[simp] theorem ztV : zac Tryz.prog 73 4 = some (33, 4) := by kernel_rfl
@[simp] theorem ztW : zac Tryz.prog 73 5 = some (3, 6) := by kernel_rfl
@[simp] theorem zxw : za4 Tryz.prog 73 = some [(3, 0), (3, 1), (3, 2), (71, 3), (33, 4), (3, 6)] := by kernel_rfl
@[simp] theorem zrT : Tryz.prog.eqGuardType Tryz.prog.depth 73 = false := by kernel_rfl
@[simp] theorem zrU : tsz Tryz.prog 75 = some 8 := by kernel_rfl
@[simp] theorem zrV : zao Tryz.prog 75 = some 56 := by kernel_rfl
@[simp] theorem zrW : zan Tryz.prog 75 = some (.agg #[(.bool false), (.int .i64 (0)), (.int .i64 (0)), (.int .i64 (0)), (.int .i64 (0)), (.int .u32 (0)), (.int .u32 (0)), (.int .i64 (0))]) := by kernel_rfl
@[simp] theorem zxx : zai Tryz.prog 75 = some true := by simp [zai, Tryz.underlying75]
@[simp] theorem zxy : zY Tryz.prog 75 = none := by simp [zY, Tryz.underlying75]
@[simp] theorem zxz : zaV Tryz.prog 75 = true := by kernel_rfl
@[simp] theorem zxA : zck Tryz.prog 75 = true := by kernel_rfl
@[simp] theorem ztX : zac Tryz.prog 75 0 = some (4, 0) := by kernel_rfl
@[simp] theorem ztY : zac Tryz.prog 75 1 = some (73, 1) := by kernel_rfl
@[simp] theorem zxB : za4 Tryz.prog 75 = some [(4, 0), (73, 1)] := by kernel_rfl
@[simp] theorem zxC : Tryz.prog.eqGuardType Tryz.prog.depth 75 = false := by kernel_rfl
@[simp] theorem zxD : tsz Tryz.prog 85 = some 1 := by kernel_rfl
@[simp] theorem zxE : zao Tryz.prog 85 = some 24 := by kernel_rfl
@[simp] theorem zxF : zan Tryz.prog 85 = some (.slice none 0 0) := by kernel_rfl
@[simp] theorem zxG : zai Tryz.prog 85 = some false := by simp [zai, Tryz.underlying85]
@[simp] theorem zxH : zY Tryz.prog 85 = none := by simp [zY, Tryz.underlying85]
@[simp] theorem zrX : zax Tryz.prog 85 = some 33 := by kernel_rfl
@[simp] theorem zrY : tsz Tryz.prog 93 = some 1 := by kernel_rfl
@[simp] theorem zrZ : zao Tryz.prog 93 = some 8 := by kernel_rfl
@[simp] theorem zr0 : zan Tryz.prog 93 = some (.int .u64 (0)) := by kernel_rfl
@[simp] theorem zxI : zai Tryz.prog 93 = some false := by simp [zai, Tryz.underlying93]
@[simp] theorem zxJ : zY Tryz.prog 93 = none := by simp [zY, Tryz.underlying93]
@[simp] theorem zxK : zdl Tryz.prog 93 = some .u64 := by kernel_rfl
@[simp] theorem zxL : zcO Tryz.prog 93 = true := by kernel_rfl
@[simp] theorem zut : tsz Tryz.prog 117 = some 1 := by kernel_rfl
@[simp] theorem zuu : zao Tryz.prog 117 = some 8 := by kernel_rfl
@[simp] theorem zuv : zan Tryz.prog 117 = some (.pointer none) := by kernel_rfl
@[simp] theorem zuw : zai Tryz.prog 117 = some false := by simp [zai, Tryz.underlying117]
@[simp] theorem zux : zY Tryz.prog 117 = none := by simp [zY, Tryz.underlying117]
@[simp] theorem zuy : zfT Tryz.prog 117 = true := by kernel_rfl
@[simp] theorem zuz : tsz Tryz.prog 119 = some 1 := by kernel_rfl
@[simp] theorem zuA : zao Tryz.prog 119 = some 24 := by kernel_rfl
@[simp] theorem zuB : zan Tryz.prog 119 = some (.slice none 0 0) := by kernel_rfl
@[simp] theorem zuC : zai Tryz.prog 119 = some false := by simp [zai, Tryz.underlying119]
@[simp] theorem zuD : zY Tryz.prog 119 = none := by simp [zY, Tryz.underlying119]
@[simp] theorem zqb : zax Tryz.prog 119 = some 22 := by kernel_rfl
@[simp] theorem zuE : tsz Tryz.prog 121 = some 5 := by kernel_rfl
@[simp] theorem zuF : zao Tryz.prog 121 = some 104 := by kernel_rfl
@[simp] theorem zuG : zan Tryz.prog 121 = some (.agg #[(.slice none 0 0), (.slice none 0 0), (.slice none 0 0), (.pointer none), (.slice none 0 0)]) := by kernel_rfl
@[simp] theorem zuH : zai Tryz.prog 121 = some true := by simp [zai, Tryz.underlying121]
@[simp] theorem zuI : zY Tryz.prog 121 = none := by simp [zY, Tryz.underlying121]
@[simp] theorem zuJ : zaV Tryz.prog 121 = true := by kernel_rfl
@[simp] theorem zuK : zck Tryz.prog 121 = true := by kernel_rfl
@[simp] theorem zs5 : zac Tryz.prog 121 0 = some (28, 0) := by kernel_rfl
@[simp] theorem zs6 : zac Tryz.prog 121 1 = some (117, 3) := by kernel_rfl
@[simp] theorem zs7 : zac Tryz.prog 121 2 = some (119, 4) := by kernel_rfl
@[simp] theorem zuL : za4 Tryz.prog 121 = some [(28, 0), (117, 3), (119, 4)] := by kernel_rfl
@[simp] theorem zuM : Tryz.prog.eqGuardType Tryz.prog.depth 121 = false := by kernel_rfl
@[simp] theorem zqc : tsz Tryz.prog 160 = some 4 := by kernel_rfl
@[simp] theorem zqd : zao Tryz.prog 160 = some 32 := by kernel_rfl
@[simp] theorem zqe : zan Tryz.prog 160 = some (.agg #[(.int .i64 (0)), (.int .i64 (0)), (.int .i64 (0)), (.int .i64 (0))]) := by kernel_rfl
@[simp] theorem zuN : zai Tryz.prog 160 = some true := by simp [zai, Tryz.underlying160]
@[simp] theorem zuO : zY Tryz.prog 160 = none := by simp [zY, Tryz.underlying160]
@[simp] theorem zuP : zaV Tryz.prog 160 = true := by kernel_rfl
@[simp] theorem zuQ : zck Tryz.prog 160 = true := by kernel_rfl
@[simp] theorem zs8 : zac Tryz.prog 160 0 = some (41, 0) := by kernel_rfl
@[simp] theorem zs9 : zac Tryz.prog 160 1 = some (41, 2) := by kernel_rfl
@[simp] theorem zuR : za4 Tryz.prog 160 = some [(41, 0), (41, 2)] := by kernel_rfl
@[simp] theorem zqf : Tryz.prog.eqGuardType Tryz.prog.depth 160 = false := by kernel_rfl
@[simp] theorem zuS : tsz Tryz.prog 174 = some 1 := by kernel_rfl
@[simp] theorem zuT : zao Tryz.prog 174 = some 8 := by kernel_rfl
@[simp] theorem zuU : zan Tryz.prog 174 = some (.pointer none) := by kernel_rfl
@[simp] theorem zuV : zai Tryz.prog 174 = some false := by simp [zai, Tryz.underlying174]
@[simp] theorem zuW : zY Tryz.prog 174 = none := by simp [zY, Tryz.underlying174]
@[simp] theorem zuX : zfT Tryz.prog 174 = true := by kernel_rfl
@[simp] theorem zuY : tsz Tryz.prog 179 = some 3 := by kernel_rfl
@[simp] theorem zuZ : zao Tryz.prog 179 = some 24 := by kernel_rfl
@[simp] theorem zu0 : zan Tryz.prog 179 = some (.agg #[(.pointer none), (.pointer none), (.int .i64 (0))]) := by kernel_rfl
@[simp] theorem zu1 : zai Tryz.prog 179 = some true := by simp [zai, Tryz.underlying179]
@[simp] theorem zu2 : zY Tryz.prog 179 = none := by simp [zY, Tryz.underlying179]
@[simp] theorem zu3 : zaV Tryz.prog 179 = true := by kernel_rfl
@[simp] theorem zu4 : zck Tryz.prog 179 = true := by kernel_rfl
@[simp] theorem zta : zac Tryz.prog 179 0 = some (174, 0) := by kernel_rfl
@[simp] theorem ztb : zac Tryz.prog 179 1 = some (174, 1) := by kernel_rfl
@[simp] theorem ztc : zac Tryz.prog 179 2 = some (3, 2) := by kernel_rfl
@[simp] theorem zu5 : za4 Tryz.prog 179 = some [(174, 0), (174, 1), (3, 2)] := by kernel_rfl
@[simp] theorem zu6 : Tryz.prog.eqGuardType Tryz.prog.depth 179 = false := by kernel_rfl
@[simp] theorem zu7 : tsz Tryz.prog 198 = some 2 := by kernel_rfl
@[simp] theorem zu8 : zao Tryz.prog 198 = some 16 := by kernel_rfl
@[simp] theorem zu9 : zan Tryz.prog 198 = some (.agg #[(.int .u64 (0)), (.int .i64 (0))]) := by kernel_rfl
@[simp] theorem zva : zai Tryz.prog 198 = some true := by simp [zai, Tryz.underlying198]
@[simp] theorem zvb : zY Tryz.prog 198 = none := by simp [zY, Tryz.underlying198]
@[simp] theorem zvc : zaV Tryz.prog 198 = true := by kernel_rfl
@[simp] theorem zvd : zck Tryz.prog 198 = true := by kernel_rfl
@[simp] theorem ztd : zac Tryz.prog 198 0 = some (93, 0) := by kernel_rfl
@[simp] theorem zte : zac Tryz.prog 198 1 = some (3, 1) := by kernel_rfl
@[simp] theorem zve : za4 Tryz.prog 198 = some [(93, 0), (3, 1)] := by kernel_rfl
@[simp] theorem zvf : Tryz.prog.eqGuardType Tryz.prog.depth 198 = false := by kernel_rfl
@[simp] theorem zvg : tsz Tryz.prog 205 = some 1 := by kernel_rfl
@[simp] theorem zvh : zao Tryz.prog 205 = some 24 := by kernel_rfl
@[simp] theorem zvi : zan Tryz.prog 205 = some (.slice none 0 0) := by kernel_rfl
@[simp] theorem zvj : zai Tryz.prog 205 = some false := by simp [zai, Tryz.underlying205]
@[simp] theorem zvk : zY Tryz.prog 205 = none := by simp [zY, Tryz.underlying205]
@[simp] theorem zqg : zax Tryz.prog 205 = some 41 := by kernel_rfl
@[simp] theorem zvl : tsz Tryz.prog 207 = some 1 := by kernel_rfl
@[simp] theorem zvm : zao Tryz.prog 207 = some 8 := by kernel_rfl
@[simp] theorem zvn : zan Tryz.prog 207 = some .nilFunc := by kernel_rfl
@[simp] theorem zvo : zai Tryz.prog 207 = some false := by simp [zai, Tryz.underlying207]
@[simp] theorem zvp : zY Tryz.prog 207 = none := by simp [zY, Tryz.underlying207]
@[simp] theorem zvq : tsz Tryz.prog 210 = some 1 := by kernel_rfl
@[simp] theorem zvr : zao Tryz.prog 210 = some 8 := by kernel_rfl
@[simp] theorem zvs : zan Tryz.prog 210 = some (.map none) := by kernel_rfl
@[simp] theorem zvt : zai Tryz.prog 210 = some false := by simp [zai, Tryz.underlying210]
@[simp] theorem zvu : zY Tryz.prog 210 = none := by simp [zY, Tryz.underlying210]
@[simp] theorem zvv : zkI Tryz.prog 210 = true := by kernel_rfl
@[simp] theorem znF : zdW Tryz.prog 210 = some (41, 41) := by kernel_rfl
@[simp] theorem zvw : tsz Tryz.prog 213 = some 1 := by kernel_rfl
@[simp] theorem zvx : zao Tryz.prog 213 = some 8 := by kernel_rfl
@[simp] theorem zvy : zan Tryz.prog 213 = some (.pointer none) := by kernel_rfl
@[simp] theorem zvz : zai Tryz.prog 213 = some false := by simp [zai, Tryz.underlying213]
@[simp] theorem zvA : zY Tryz.prog 213 = none := by simp [zY, Tryz.underlying213]
@[simp] theorem zvB : zfT Tryz.prog 213 = true := by kernel_rfl
@[simp] theorem zvC : tsz Tryz.prog 215 = some 1 := by kernel_rfl
@[simp] theorem zvD : zao Tryz.prog 215 = some 8 := by kernel_rfl
@[simp] theorem zvE : zan Tryz.prog 215 = some (.agg #[(.pointer none)]) := by kernel_rfl
@[simp] theorem zvF : zai Tryz.prog 215 = some true := by simp [zai, Tryz.underlying215]
@[simp] theorem zvG : zY Tryz.prog 215 = none := by simp [zY, Tryz.underlying215]
@[simp] theorem zvH : zaV Tryz.prog 215 = true := by kernel_rfl
@[simp] theorem zvI : zck Tryz.prog 215 = true := by kernel_rfl
@[simp] theorem ztf : zac Tryz.prog 215 0 = some (213, 0) := by kernel_rfl
@[simp] theorem zvJ : za4 Tryz.prog 215 = some [(213, 0)] := by kernel_rfl
@[simp] theorem zvK : Tryz.prog.eqGuardType Tryz.prog.depth 215 = false := by kernel_rfl
@[simp] theorem zvL : tsz Tryz.prog 221 = some 1 := by kernel_rfl
@[simp] theorem zvM : zao Tryz.prog 221 = some 24 := by kernel_rfl
@[simp] theorem zvN : zan Tryz.prog 221 = some (.slice none 0 0) := by kernel_rfl
@[simp] theorem zvO : zai Tryz.prog 221 = some false := by simp [zai, Tryz.underlying221]
@[simp] theorem zvP : zY Tryz.prog 221 = none := by simp [zY, Tryz.underlying221]
@[simp] theorem zqh : zax Tryz.prog 221 = some 93 := by kernel_rfl
@[simp] theorem zvQ : tsz Tryz.prog 225 = some 1 := by kernel_rfl
@[simp] theorem zvR : zao Tryz.prog 225 = some 8 := by kernel_rfl
@[simp] theorem zvS : zan Tryz.prog 225 = some (.int .u64 (0)) := by kernel_rfl
@[simp] theorem zvT : zai Tryz.prog 225 = some false := by simp [zai, Tryz.underlying225]
@[simp] theorem zvU : zY Tryz.prog 225 = none := by simp [zY, Tryz.underlying225]
@[simp] theorem zvV : zdl Tryz.prog 225 = some .u64 := by kernel_rfl
@[simp] theorem zvW : zcO Tryz.prog 225 = true := by kernel_rfl
@[simp] theorem zvX : tsz Tryz.prog 232 = some 6 := by kernel_rfl
@[simp] theorem zvY : zao Tryz.prog 232 = some 48 := by kernel_rfl
@[simp] theorem zvZ : zan Tryz.prog 232 = some (.agg #[(.int .u64 (0)), (.int .i64 (0)), (.pointer none), (.pointer none), (.int .i64 (0)), (.int .i64 (0))]) := by kernel_rfl
@[simp] theorem zv0 : zai Tryz.prog 232 = some true := by simp [zai, Tryz.underlying232]
@[simp] theorem zv1 : zY Tryz.prog 232 = none := by simp [zY, Tryz.underlying232]
@[simp] theorem zv2 : zaV Tryz.prog 232 = true := by kernel_rfl
@[simp] theorem zv3 : zck Tryz.prog 232 = true := by kernel_rfl
@[simp] theorem ztg : zac Tryz.prog 232 0 = some (198, 0) := by kernel_rfl
@[simp] theorem zth : zac Tryz.prog 232 1 = some (213, 2) := by kernel_rfl
@[simp] theorem zti : zac Tryz.prog 232 2 = some (213, 3) := by kernel_rfl
@[simp] theorem ztj : zac Tryz.prog 232 3 = some (3, 4) := by kernel_rfl
@[simp] theorem ztk : zac Tryz.prog 232 4 = some (3, 5) := by kernel_rfl
@[simp] theorem zv4 : za4 Tryz.prog 232 = some [(198, 0), (213, 2), (213, 3), (3, 4), (3, 5)] := by kernel_rfl
@[simp] theorem zv5 : Tryz.prog.eqGuardType Tryz.prog.depth 232 = false := by kernel_rfl
theorem zhm : SlT Tryz.prog 22 1 8 := ⟨⟨3, _, zrI, zs2, zs3, zs4, rfl, by decide, by decide⟩⟩
theorem zpc : SlT Tryz.prog 23 4 32 := ⟨⟨160, _, zrJ, zqc, zqd, zqe, rfl, by decide, by decide⟩⟩
theorem zce : SlT Tryz.prog 26 7 48 := ⟨⟨73, _, zrK, zo9, zpa, zpb, rfl, by decide, by decide⟩⟩
theorem zxM : SlT Tryz.prog 70 8 56 := ⟨⟨75, _, zrS, zrU, zrV, zrW, rfl, by decide, by decide⟩⟩
theorem zpd : SlT Tryz.prog 85 2 8 := ⟨⟨33, _, zrX, zrL, zrM, zrN, rfl, by decide, by decide⟩⟩
theorem znG : SlT Tryz.prog 119 1 24 := ⟨⟨22, _, zqb, zrF, zrG, zrH, rfl, by decide, by decide⟩⟩
theorem zqi : SlT Tryz.prog 205 2 16 := ⟨⟨41, _, zqg, zrP, zrQ, zrR, rfl, by decide, by decide⟩⟩
theorem zqj : SlT Tryz.prog 221 1 8 := ⟨⟨93, _, zqh, zrY, zrZ, zr0, rfl, by decide, by decide⟩⟩
theorem zhn : Tryz.prog.follows .mixedOrders = true := by kernel_rfl
end Go.Proofs.YtanimmdlgmkmkaaGreat.Av
namespace Go.Proofs.YtanimmdlgmkmkaaGreat.Av
set_option linter.unusedSimpArgs false
set_option linter.unusedVariables false
open Go
theorem Ext.setF {σ τ : St} {i : Id} {o : Ob} (h : Ext σ τ) (hi : σ.m i = none) : Ext σ (τ.set i o) := ⟨fun j p hj => by
    have hne : j ≠ i := fun e => by rw [e, hi] at hj; cases hj
    simp only [St.set, hne, false_and, if_false]
    exact h.m j p hj, h.nx⟩
theorem zbC {τ : St} {i : Id} {o p : Ob} (h : τ.m i = some p) : (τ.set i o).m i = some o := by simp [St.set, h]
theorem zbg {τ : St} {i j : Id} {o : Ob} (h : j ≠ i) : (τ.set i o).m j = τ.m j := by simp [St.set, h]
theorem zz {σ : St} {slot sz : Nat} {o : Ob} {j : Id} : (σ.new slot sz o).m j = if j = ⟨slot, σ.nx slot, sz⟩ then some o else σ.m j := rfl
theorem zB {σ : St} {i j : Id} {o : Ob} : (σ.set i o).m j = if j = i ∧ (σ.m i).isSome = true then some o else σ.m j := rfl
theorem ze {σ : St} {slot sz s : Nat} {o : Ob} : (σ.new slot sz o).nx s = if s = slot then σ.nx s + 1 else σ.nx s := rfl
section
variable {P : Program} {N : Nat} {A : zN} {σ σ0 : St} {r : Option Nat} {K : Exit → zN → St → Prop}
def zff (v : AV) (X Y : Prop) : Prop := zfb v X Y
@[congr] theorem zq6 {tk : Prop} (hx : (True ∧ True) = tk) {v v' : AV} {X Y : Prop} (h : v = v') : zff v X Y = zff v' X Y := by rw [h]
@[simp] theorem ztZ {X Y : Prop} : zff (.raw (.bool true)) X Y = X := by simp [zff, zfb]
@[simp] theorem zt0 {X Y : Prop} : zff (.raw (.bool false)) X Y = Y := by simp [zff, zfb]
theorem zd {c : Operand} {x y : Code} (h : zff (zH A c) (AWP P r N x K A σ) (AWP P r N y K A σ)) : AWP P r N (.cond c x y) K A σ := zhS h
theorem zb {b : Bool} {X Y : Prop} (h1 : b = true → X) (h2 : b = false → Y) : zff (.raw (.bool b)) X Y := ⟨h1, h2⟩
def zmV (P : Program) (r : Option Nat) (N : Nat) (c : Code) (K : Exit → zN → St → Prop) (A : zN) (σ : St) : Prop := match c with
  | .skip => K .normal A σ
  | .exit n => K (.exit n) A σ
  | .ret => K .ret A σ
  | c => AWP P r N c K A σ
theorem zp {c : Code} (h : zmV P r N c K A σ) : AWP P r N c K A σ := by
  cases c <;> first | exact zol h | exact zom h | exact zml h | exact h
theorem zq : zmV P r N .skip K A σ = K .normal A σ ∧ (∀ n, zmV P r N (.exit n) K A σ = K (.exit n) A σ) ∧ zmV P r N .ret K A σ = K .ret A σ := ⟨rfl, fun _ => rfl, rfl⟩
theorem dN {id : Nat} {ops : List Oper} (hc : zjj ops (fun _ => false) = true) (h : dops Tryz.prog N (ops.map (zb2 ops fun _ => false)) A σ (K .normal)) : AWP Tryz.prog r N (.region id ops.toArray true) K A σ := zdt _ zhn hc h
theorem dC {id : Nat} {ops : List Oper} (hc : zjj ops zhl = true) (h : dops Tryz.prog N (ops.map (zb2 ops zhl)) A σ (K .normal)) : AWP Tryz.prog r N (.region id ops.toArray true) K A σ := zdt _ zhn hc h
theorem uP {f : FuncId} {args : List AV} {rv : AV} {K : AV → St → Prop} (h : PCalls P f args rv) (k : K rv σ) : ACalls P f args σ K := h.use k
theorem uD {f : FuncId} {args : List AV} {rv : AV} {X : Prop} {m : zX} {K : AV → St → Prop} (h : PCalls P f args rv) (k : K rv σ) : (∃ r, RCalls P m f args r ∧ K r σ) ∨ X := .inl ⟨_, .inl h, k⟩
theorem zS : (∀ {σ : St} {slot sz : Nat} {o : Ob} {j : Id}, (σ.new slot sz o).m j = if j = ⟨slot, σ.nx slot, sz⟩ then some o else σ.m j) ∧ (∀ {σ : St} {i j : Id} {o : Ob}, (σ.set i o).m j = if j = i ∧ (σ.m i).isSome = true then some o else σ.m j) ∧ (∀ {σ : St} {slot sz s : Nat} {o : Ob}, (σ.new slot sz o).nx s = if s = slot then σ.nx s + 1 else σ.nx s) := ⟨rfl, rfl, rfl⟩
end
end Go.Proofs.YtanimmdlgmkmkaaGreat.Av
namespace Go.Proofs.YtanimmdlgmkmkaaGreat.Av
open Go
set_option linter.unusedSimpArgs false
set_option linter.unusedVariables false
set_option maxRecDepth 100000
set_option maxHeartbeats 1000000
set_option pp.maxSteps 300
structure Pt where
  dev : Int
  port : Int
deriving DecidableEq
structure Lk where
  a : Pt
  b : Pt
deriving DecidableEq
structure Rg where
  lo : Int
  hi : Int
deriving DecidableEq
structure Ru where
  id : Int
  dev : Int
  prio : Int
  kind : Int
  r : Rg
  port : Int
deriving DecidableEq
structure Tp where
  ports : List Int
  links : List Lk
deriving DecidableEq
structure Nw where
  t : Tp
  rules : List Ru
deriving DecidableEq
def iAV (n : Int) : AV := .raw (.int .i64 n)
def uAV (n : Int) : AV := .raw (.int .u32 n)
def zQ (p : Pt) : AV := .agg [.raw (.int .i64 p.dev), .raw (.int .i64 p.port)]
def zbU (l : Lk) : AV := .agg [.raw (.int .i64 l.a.dev), .raw (.int .i64 l.a.port), .raw (.int .i64 l.b.dev), .raw (.int .i64 l.b.port)]
def zau (r : Rg) : AV := .agg [.raw (.int .u32 r.lo), .raw (.int .u32 r.hi)]
def zE (r : Ru) : AV := .agg [.raw (.int .i64 r.id), .raw (.int .i64 r.dev), .raw (.int .i64 r.prio), .raw (.int .i64 r.kind), .raw (.int .u32 r.r.lo), .raw (.int .u32 r.r.hi), .raw (.int .i64 r.port)]
def zy (l : List Int) (f : Bool) : AV := .sl 1 (l.map iAV) f
def zw (l : List Lk) (f : Bool) : AV := .sl 4 (l.map zbU) f
def zu (l : List Ru) (f : Bool) : AV := .sl 7 (l.map zE) f
structure Fl where
  p : Bool
  l : Bool
  r : Bool
def zat (t : Tp) (f : Fl) : AV := .agg [zy t.ports f.p, zw t.links f.l]
def z7 (n : Nw) (f : Fl) : AV := .agg [zy n.t.ports f.p, zw n.t.links f.l, zu n.rules f.r]
def hasB (t : Tp) (p : Pt) : Bool := decide (0 ≤ p.dev) && match t.ports[p.dev.toNat]? with | some n => decide (0 ≤ p.port) && decide (p.port < n) | none => false
theorem zgV (t : Tp) (f : Fl) (p : Pt) (hl : t.ports.length < 2 ^ 60) : PCalls Tryz.prog 176 [zat t f, zQ p] (.raw (.bool (hasB t p))) := by
  refine zJ Tryz.func176 rfl (N := 32) rfl rfl (by simp) (by simp [noIds]) fun σ => ?_
  by_cases h1 : 0 ≤ p.dev
  · obtain ⟨k, hk⟩ : ∃ k : Nat, p.dev = k := ⟨p.dev.toNat, by omega⟩
    by_cases h2 : k < t.ports.length
    · have hx : t.ports[k]? = some t.ports[k] := List.getElem?_eq_getElem h2
      (try ((first | with_reducible refine zh ?_ | with_reducible refine zm ?_ | with_reducible refine zo ?_); simp [zat, zQ, zy, zw, iAV, hk, h2, hx])); repeat' (first | ((first | refine zd ?_ | refine zg ?_ | refine dN (by decide +kernel) ?_ | (refine za ?_ ?_ <;> (intro hg; simp only [hg])) | fail) <;> simp [zat, zQ, zy, zw, iAV, hk, h2, hx]) | refine zf ?_ | refine zc ?_ | (refine zp ?_; simp only [zq]; try simp) | ((first | refine zl (by simp) ?_ | refine zx (by simp) (by simp) (by simp (maxDischargeDepth := 30) [zat, zQ, zy, zw, iAV, hk, h2, hx]) ?_ | fail); simp) | (refine zb (fun hc => ?_) (fun hc => ?_) <;> try simp at hc) | fail)
      all_goals (simp_all [hasB] <;> intros <;> omega)
    · have hx : t.ports[k]? = none := List.getElem?_eq_none (by omega)
      (try ((first | with_reducible refine zh ?_ | with_reducible refine zm ?_ | with_reducible refine zo ?_); simp [zat, zQ, zy, zw, iAV, hk, h2, hx])); repeat' (first | ((first | refine zd ?_ | refine zg ?_ | refine dN (by decide +kernel) ?_ | (refine za ?_ ?_ <;> (intro hg; simp only [hg])) | fail) <;> simp [zat, zQ, zy, zw, iAV, hk, h2, hx]) | refine zf ?_ | refine zc ?_ | (refine zp ?_; simp only [zq]; try simp) | ((first | refine zl (by simp) ?_ | refine zx (by simp) (by simp) (by simp (maxDischargeDepth := 30) [zat, zQ, zy, zw, iAV, hk, h2, hx]) ?_ | fail); simp) | (refine zb (fun hc => ?_) (fun hc => ?_) <;> try simp at hc) | fail)
      all_goals (simp_all [hasB] <;> intros <;> omega)
  · (try ((first | with_reducible refine zh ?_ | with_reducible refine zm ?_ | with_reducible refine zo ?_); simp [zat, zQ, zy, zw, iAV, h1])); repeat' (first | ((first | refine zd ?_ | refine zg ?_ | refine dN (by decide +kernel) ?_ | (refine za ?_ ?_ <;> (intro hg; simp only [hg])) | fail) <;> simp [zat, zQ, zy, zw, iAV, h1]) | refine zf ?_ | refine zc ?_ | (refine zp ?_; simp only [zq]; try simp) | ((first | refine zl (by simp) ?_ | refine zx (by simp) (by simp) (by simp (maxDischargeDepth := 30) [zat, zQ, zy, zw, iAV, h1]) ?_ | fail); simp) | (refine zb (fun hc => ?_) (fun hc => ?_) <;> try simp at hc) | fail)
    all_goals (simp_all [hasB] <;> intros <;> omega)
theorem zcX (n a b : Int) : PCalls Tryz.prog 205 [.raw (.int .i64 n), .raw (.int .i64 a), .raw (.int .i64 b)] (.raw (.bool (decide (a ≤ n) && decide (n ≤ b)))) := by
  refine zJ Tryz.func205 rfl (N := 15) rfl rfl (by simp) (by simp [noIds]) fun σ => ?_
  (try ((first | with_reducible refine zh ?_ | with_reducible refine zm ?_ | with_reducible refine zo ?_); simp)); repeat' (first | ((first | refine zd ?_ | refine zg ?_ | refine dN (by decide +kernel) ?_ | (refine za ?_ ?_ <;> (intro hg; simp only [hg])) | fail) <;> simp) | refine zf ?_ | refine zc ?_ | (refine zp ?_; simp only [zq]; try simp) | ((first | refine zl (by simp) ?_ | refine zx (by simp) (by simp) (by simp (maxDischargeDepth := 30)) ?_ | fail); simp) | (refine zb (fun hc => ?_) (fun hc => ?_) <;> try simp at hc) | fail)
theorem zcf (n b : Int) : PCalls Tryz.prog 203 [.raw (.int .i64 n), .raw (.int .i64 b)] (.raw (.bool (decide (0 ≤ n) && decide (n ≤ b)))) := by
  refine zJ Tryz.func203 rfl (N := 12) rfl rfl (by simp) (by simp [noIds]) fun σ => ?_
  (try ((first | with_reducible refine zh ?_ | with_reducible refine zm ?_ | with_reducible refine zo ?_); simp)); repeat' (first | ((first | refine zd ?_ | refine zg ?_ | refine dN (by decide +kernel) ?_ | (refine za ?_ ?_ <;> (intro hg; simp only [hg])) | fail) <;> simp) | refine zf ?_ | refine zc ?_ | (refine zp ?_; simp only [zq]; try simp) | ((first | refine zl (by simp) ?_ | refine zx (by simp) (by simp) (by simp (maxDischargeDepth := 30)) ?_ | fail); simp) | (refine zb (fun hc => ?_) (fun hc => ?_) <;> try simp at hc) | fail)
def zcY (r : Ru) (d a : Int) : Bool := decide (r.dev = d) && (decide (r.r.lo ≤ a) && decide (a ≤ r.r.hi))
theorem zhE (r : Ru) (d a : Int) : PCalls Tryz.prog 217 [zE r, .raw (.int .i64 d), .raw (.int .u32 a)] (.raw (.bool (zcY r d a))) := by
  refine zJ Tryz.func217 rfl (N := 25) rfl rfl (by simp) (by simp [noIds]) fun σ => ?_
  (try ((first | with_reducible refine zh ?_ | with_reducible refine zm ?_ | with_reducible refine zo ?_); simp [zE])); repeat' (first | ((first | refine zd ?_ | refine zg ?_ | refine dN (by decide +kernel) ?_ | (refine za ?_ ?_ <;> (intro hg; simp only [hg])) | fail) <;> simp [zE]) | refine zf ?_ | refine zc ?_ | (refine zp ?_; simp only [zq]; try simp) | ((first | refine zl (by simp) ?_ | refine zx (by simp) (by simp) (by simp (maxDischargeDepth := 30) [zE]) ?_ | fail); simp) | (refine zb (fun hc => ?_) (fun hc => ?_) <;> try simp at hc) | fail)
  all_goals (simp_all [zcY] <;> intros <;> omega)
theorem zhF (a : Int) : PCalls Tryz.prog 191 [.raw (.int .i64 a)] (.raw (.bool false)) := by
  refine zJ Tryz.func191 rfl (N := 6) rfl rfl (by simp) (by simp [noIds]) fun σ => ?_
  (try ((first | with_reducible refine zh ?_ | with_reducible refine zm ?_ | with_reducible refine zo ?_); simp)); repeat' (first | ((first | refine zd ?_ | refine zg ?_ | refine dN (by decide +kernel) ?_ | (refine za ?_ ?_ <;> (intro hg; simp only [hg])) | fail) <;> simp) | refine zf ?_ | refine zc ?_ | (refine zp ?_; simp only [zq]; try simp) | ((first | refine zl (by simp) ?_ | refine zx (by simp) (by simp) (by simp (maxDischargeDepth := 30)) ?_ | fail); simp) | (refine zb (fun hc => ?_) (fun hc => ?_) <;> try simp at hc) | fail)
def cmpI (a b : Int) : Int := if a < b then -1 else if b < a then 1 else 0
theorem zen (a b : Int) : PCalls Tryz.prog 140 [.raw (.int .i64 a), .raw (.int .i64 b)] (.raw (.int .i64 (cmpI a b))) := by
  refine zJ Tryz.func140 rfl (N := 20) rfl rfl (by simp) (by simp [noIds]) fun σ => ?_
  (try ((first | with_reducible refine zh ?_ | with_reducible refine zm ?_ | with_reducible refine zo ?_); simp)); repeat' (first | ((first | refine zd ?_ | refine zg ?_ | refine dN (by decide +kernel) ?_ | (refine za ?_ ?_ <;> (intro hg; simp only [hg])) | fail) <;> simp) | refine zf ?_ | refine zc ?_ | (refine zp ?_; simp only [zq]; try simp) | ((first | refine zl (by simp) ?_ | refine zx (by simp) (by simp) (by simp (maxDischargeDepth := 30)) ?_ | fail); simp) | (refine zb (fun hc => ?_) (fun hc => ?_) <;> try simp at hc) | fail)
  refine PCalls.use (zhF a) ?_
  (try ((first | with_reducible refine zh ?_ | with_reducible refine zm ?_ | with_reducible refine zo ?_); simp)); repeat' (first | ((first | refine zd ?_ | refine zg ?_ | refine dN (by decide +kernel) ?_ | (refine za ?_ ?_ <;> (intro hg; simp only [hg])) | fail) <;> simp) | refine zf ?_ | refine zc ?_ | (refine zp ?_; simp only [zq]; try simp) | ((first | refine zl (by simp) ?_ | refine zx (by simp) (by simp) (by simp (maxDischargeDepth := 30)) ?_ | fail); simp) | (refine zb (fun hc => ?_) (fun hc => ?_) <;> try simp at hc) | fail)
  refine PCalls.use (zhF b) ?_
  (try ((first | with_reducible refine zh ?_ | with_reducible refine zm ?_ | with_reducible refine zo ?_); simp [cmpI])); repeat' (first | ((first | refine zd ?_ | refine zg ?_ | refine dN (by decide +kernel) ?_ | (refine za ?_ ?_ <;> (intro hg; simp only [hg])) | fail) <;> simp [cmpI]) | refine zf ?_ | refine zc ?_ | (refine zp ?_; simp only [zq]; try simp) | ((first | refine zl (by simp) ?_ | refine zx (by simp) (by simp) (by simp (maxDischargeDepth := 30) [cmpI]) ?_ | fail); simp) | (refine zb (fun hc => ?_) (fun hc => ?_) <;> try simp at hc) | fail)
  all_goals (unfold cmpI; (repeat' split) <;> omega)
end Go.Proofs.YtanimmdlgmkmkaaGreat.Av
namespace Go.Proofs.YtanimmdlgmkmkaaGreat.Av
open Go
set_option linter.unusedSimpArgs false
set_option linter.unusedVariables false
set_option maxRecDepth 100000
set_option maxHeartbeats 1000000
set_option pp.maxSteps 300
def idxOf {T : Type} (p : T → Bool) (z : List T) : Int := if z.any p then (z.findIdx p : Nat) else -1
theorem zga {T : Type} {p : T → Bool} {z : List T} {i : Nat} {x : T} (hx : z[i]? = some x) (hp : p x = true) (hn : ∀ j, j < i → ∀ y, z[j]? = some y → p y = false) : idxOf p z = i := by
  unfold idxOf
  obtain ⟨hi, he⟩ := List.getElem?_eq_some_iff.1 hx
  rw [if_pos (List.any_eq_true.2 ⟨x, List.mem_of_getElem? hx, hp⟩)]
  congr 1
  rw [List.findIdx_eq hi]
  refine ⟨by rw [he]; exact hp, fun j hj => ?_⟩
  exact hn j hj _ (List.getElem?_eq_getElem (by omega))
theorem zgb {T : Type} {p : T → Bool} {z : List T} (hn : ∀ j, j < z.length → ∀ y, z[j]? = some y → p y = false) : idxOf p z = -1 ∧ z.any p = false := by
  have : z.any p = false := by
    rw [List.any_eq_false]
    intro x hx
    obtain ⟨j, hj⟩ := List.getElem?_of_mem hx
    simp [hn j (List.getElem?_eq_some_iff.1 hj).1 x hj]
  exact ⟨by unfold idxOf; rw [this]; rfl, this⟩
theorem zgW {T : Type} (p : T → Bool) (z : List T) : decide (0 ≤ idxOf p z) = z.any p := by
  unfold idxOf
  cases z.any p <;> simp
theorem zs (r : Ru) : (zE r).cells = [.raw (.int .i64 r.id), .raw (.int .i64 r.dev), .raw (.int .i64 r.prio), .raw (.int .i64 r.kind), .raw (.int .u32 r.r.lo), .raw (.int .u32 r.r.hi), .raw (.int .i64 r.port)] := rfl
theorem zbq (l : Lk) : (zbU l).cells = [.raw (.int .i64 l.a.dev), .raw (.int .i64 l.a.port), .raw (.int .i64 l.b.dev), .raw (.int .i64 l.b.port)] := rfl
theorem zbJ (n : Int) : (iAV n).cells = [.raw (.int .i64 n)] := rfl
theorem zkl {g : FuncId} {caps : List AV} {p : Lk → Bool} (z : List Lk) (fz : Bool) (hl : z.length < 2 ^ 60) (hg : ∀ r ∈ z, PCalls Tryz.prog g (zbU r :: caps) (.raw (.bool (p r)))) :
    PCalls Tryz.prog 204 [zw z fz, .fn (.func g) [] caps] (.raw (.int .i64 (idxOf p z))) := by
  refine zJ Tryz.func204 rfl (N := 19) rfl rfl (by simp) (by simp [noIds]) fun σ => ?_
  (try ((first | with_reducible refine zh ?_ | with_reducible refine zm ?_ | with_reducible refine zo ?_); simp [zw])); repeat' (first | ((first | refine zd ?_ | refine zg ?_ | refine dN (by decide +kernel) ?_ | (refine za ?_ ?_ <;> (intro hg; simp only [hg])) | fail) <;> simp [zw]) | refine zf ?_ | refine zc ?_ | (refine zp ?_; simp only [zq]; try simp) | ((first | refine zl (by simp) ?_ | refine zx (by simp) (by simp) (by simp (maxDischargeDepth := 30) [zw]) ?_ | fail); simp) | (refine zb (fun hc => ?_) (fun hc => ?_) <;> try simp at hc) | fail)
  refine zZ (fun n A τ => τ = σ ∧ A 0 = zw z fz ∧ A 1 = .fn (.func g) [] caps ∧ A 7 = .raw (.int .i64 z.length) ∧ ∃ i : Nat, A 8 = .raw (.int .i64 i) ∧ i ≤ z.length ∧ n = z.length - i ∧ ∀ j, j < i → ∀ y, z[j]? = some y → p y = false) z.length ?_ ?_
  · exact ⟨rfl, by simp [zw], by simp, by simp, 0, by simp, by omega, by omega, fun j h => by omega⟩
  rintro n A τ ⟨rfl, a0, a1, a7, i, a8, hi, rfl, hn⟩ I1 hI1
  by_cases hlt : i < z.length
  · have hx : z[i]? = some z[i] := List.getElem?_eq_getElem hlt
    have w1 : IntKind.i64.wrap ((i : Int) + 1) = ((i + 1 : Nat) : Int) := by rw [zU (by omega) (by omega)]; omega
    have hr : AV.agg [.raw (.int .i64 z[i].a.dev), .raw (.int .i64 z[i].a.port), .raw (.int .i64 z[i].b.dev), .raw (.int .i64 z[i].b.port)] = zbU z[i] := rfl
    (try ((first | with_reducible refine zh ?_ | with_reducible refine zm ?_ | with_reducible refine zo ?_); simp [zw, a0, a1, a7, a8, hlt, hx, zbq, hr])); repeat' (first | ((first | refine zd ?_ | refine zg ?_ | refine dN (by decide +kernel) ?_ | (refine za ?_ ?_ <;> (intro hg; simp only [hg])) | fail) <;> simp [zw, a0, a1, a7, a8, hlt, hx, zbq, hr]) | refine zf ?_ | refine zc ?_ | (refine zp ?_; simp only [zq]; try simp) | ((first | refine zl (by simp) ?_ | refine zx (by simp) (by simp) (by simp (maxDischargeDepth := 30) [zw, a0, a1, a7, a8, hlt, hx, zbq, hr]) ?_ | fail); simp) | (refine zb (fun hc => ?_) (fun hc => ?_) <;> try simp at hc) | fail)
    refine PCalls.use (hg z[i] (List.getElem_mem _)) ?_
    cases hp : p z[i] with
    | true =>
      (try ((first | with_reducible refine zh ?_ | with_reducible refine zm ?_ | with_reducible refine zo ?_); simp [zw, a0, a1, a7, a8, hlt, hx, zbq, hr])); repeat' (first | ((first | refine zd ?_ | refine zg ?_ | refine dN (by decide +kernel) ?_ | (refine za ?_ ?_ <;> (intro hg; simp only [hg])) | fail) <;> simp [zw, a0, a1, a7, a8, hlt, hx, zbq, hr]) | refine zf ?_ | refine zc ?_ | (refine zp ?_; simp only [zq]; try simp) | ((first | refine zl (by simp) ?_ | refine zx (by simp) (by simp) (by simp (maxDischargeDepth := 30) [zw, a0, a1, a7, a8, hlt, hx, zbq, hr]) ?_ | fail); simp) | (refine zb (fun hc => ?_) (fun hc => ?_) <;> try simp at hc) | fail)
      exact (zga hx hp hn).symm
    | false =>
      (try ((first | with_reducible refine zh ?_ | with_reducible refine zm ?_ | with_reducible refine zo ?_); simp [zw, a0, a1, a7, a8, hlt, hx, zbq, hr])); repeat' (first | ((first | refine zd ?_ | refine zg ?_ | refine dN (by decide +kernel) ?_ | (refine za ?_ ?_ <;> (intro hg; simp only [hg])) | fail) <;> simp [zw, a0, a1, a7, a8, hlt, hx, zbq, hr]) | refine zf ?_ | refine zc ?_ | (refine zp ?_; simp only [zq]; try simp) | ((first | refine zl (by simp) ?_ | refine zx (by simp) (by simp) (by simp (maxDischargeDepth := 30) [zw, a0, a1, a7, a8, hlt, hx, zbq, hr]) ?_ | fail); simp) | (refine zb (fun hc => ?_) (fun hc => ?_) <;> try simp at hc) | fail)
      refine hI1 (z.length - (i + 1)) _ _ (by omega) ⟨rfl, by simp [a0], by simp [a1], by simp [a7], i + 1, by simp [w1], by omega, rfl, fun j hj y hy => ?_⟩
      by_cases e : j = i
      · subst e; rw [hx] at hy; injection hy with hy; subst hy; exact hp
      · exact hn j (by omega) y hy
  · have hi' : i = z.length := by omega
    subst hi'
    have w1 : IntKind.i64.wrap (-1) = -1 := zU (by omega) (by omega)
    (try ((first | with_reducible refine zh ?_ | with_reducible refine zm ?_ | with_reducible refine zo ?_); simp [zw, a0, a1, a7, a8, w1])); repeat' (first | ((first | refine zd ?_ | refine zg ?_ | refine dN (by decide +kernel) ?_ | (refine za ?_ ?_ <;> (intro hg; simp only [hg])) | fail) <;> simp [zw, a0, a1, a7, a8, w1]) | refine zf ?_ | refine zc ?_ | (refine zp ?_; simp only [zq]; try simp) | ((first | refine zl (by simp) ?_ | refine zx (by simp) (by simp) (by simp (maxDischargeDepth := 30) [zw, a0, a1, a7, a8, w1]) ?_ | fail); simp) | (refine zb (fun hc => ?_) (fun hc => ?_) <;> try simp at hc) | fail)
    exact (zgb hn).1.symm
theorem zhZ {g : FuncId} {caps : List AV} {p : Lk → Bool} (z : List Lk) (fz : Bool) (hl : z.length < 2 ^ 60) (hg : ∀ r ∈ z, PCalls Tryz.prog g (zbU r :: caps) (.raw (.bool (p r)))) :
    PCalls Tryz.prog 174 [zw z fz, .fn (.func g) [] caps] (.raw (.bool (z.any p))) := by
  refine zJ Tryz.func174 rfl (N := 9) rfl rfl (by simp) (by simp [noIds]) fun σ => ?_
  (try ((first | with_reducible refine zh ?_ | with_reducible refine zm ?_ | with_reducible refine zo ?_); simp)); repeat' (first | ((first | refine zd ?_ | refine zg ?_ | refine dN (by decide +kernel) ?_ | (refine za ?_ ?_ <;> (intro hg; simp only [hg])) | fail) <;> simp) | refine zf ?_ | refine zc ?_ | (refine zp ?_; simp only [zq]; try simp) | ((first | refine zl (by simp) ?_ | refine zx (by simp) (by simp) (by simp (maxDischargeDepth := 30)) ?_ | fail); simp) | (refine zb (fun hc => ?_) (fun hc => ?_) <;> try simp at hc) | fail)
  refine PCalls.use (zkl z fz hl hg) ?_
  have := zgW p z
  (try ((first | with_reducible refine zh ?_ | with_reducible refine zm ?_ | with_reducible refine zo ?_); simp)); repeat' (first | ((first | refine zd ?_ | refine zg ?_ | refine dN (by decide +kernel) ?_ | (refine za ?_ ?_ <;> (intro hg; simp only [hg])) | fail) <;> simp) | refine zf ?_ | refine zc ?_ | (refine zp ?_; simp only [zq]; try simp) | ((first | refine zl (by simp) ?_ | refine zx (by simp) (by simp) (by simp (maxDischargeDepth := 30)) ?_ | fail); simp) | (refine zb (fun hc => ?_) (fun hc => ?_) <;> try simp at hc) | fail)
  simpa using this
theorem zgw {g : FuncId} {caps : List AV} {p : Ru → Bool} (z : List Ru) (fz : Bool) (hl : z.length < 2 ^ 60) (hg : ∀ r ∈ z, PCalls Tryz.prog g (zE r :: caps) (.raw (.bool (p r)))) :
    PCalls Tryz.prog 206 [zu z fz, .fn (.func g) [] caps] (.raw (.int .i64 (idxOf p z))) := by
  refine zJ Tryz.func206 rfl (N := 19) rfl rfl (by simp) (by simp [noIds]) fun σ => ?_
  (try ((first | with_reducible refine zh ?_ | with_reducible refine zm ?_ | with_reducible refine zo ?_); simp [zu])); repeat' (first | ((first | refine zd ?_ | refine zg ?_ | refine dN (by decide +kernel) ?_ | (refine za ?_ ?_ <;> (intro hg; simp only [hg])) | fail) <;> simp [zu]) | refine zf ?_ | refine zc ?_ | (refine zp ?_; simp only [zq]; try simp) | ((first | refine zl (by simp) ?_ | refine zx (by simp) (by simp) (by simp (maxDischargeDepth := 30) [zu]) ?_ | fail); simp) | (refine zb (fun hc => ?_) (fun hc => ?_) <;> try simp at hc) | fail)
  refine zZ (fun n A τ => τ = σ ∧ A 0 = zu z fz ∧ A 1 = .fn (.func g) [] caps ∧ A 7 = .raw (.int .i64 z.length) ∧ ∃ i : Nat, A 8 = .raw (.int .i64 i) ∧ i ≤ z.length ∧ n = z.length - i ∧ ∀ j, j < i → ∀ y, z[j]? = some y → p y = false) z.length ?_ ?_
  · exact ⟨rfl, by simp [zu], by simp, by simp, 0, by simp, by omega, by omega, fun j h => by omega⟩
  rintro n A τ ⟨rfl, a0, a1, a7, i, a8, hi, rfl, hn⟩ I1 hI1
  by_cases hlt : i < z.length
  · have hx : z[i]? = some z[i] := List.getElem?_eq_getElem hlt
    have w1 : IntKind.i64.wrap ((i : Int) + 1) = ((i + 1 : Nat) : Int) := by rw [zU (by omega) (by omega)]; omega
    have hr : AV.agg [.raw (.int .i64 z[i].id), .raw (.int .i64 z[i].dev), .raw (.int .i64 z[i].prio), .raw (.int .i64 z[i].kind), .raw (.int .u32 z[i].r.lo), .raw (.int .u32 z[i].r.hi), .raw (.int .i64 z[i].port)] = zE z[i] := rfl
    (try ((first | with_reducible refine zh ?_ | with_reducible refine zm ?_ | with_reducible refine zo ?_); simp [zu, a0, a1, a7, a8, hlt, hx, zs, hr])); repeat' (first | ((first | refine zd ?_ | refine zg ?_ | refine dN (by decide +kernel) ?_ | (refine za ?_ ?_ <;> (intro hg; simp only [hg])) | fail) <;> simp [zu, a0, a1, a7, a8, hlt, hx, zs, hr]) | refine zf ?_ | refine zc ?_ | (refine zp ?_; simp only [zq]; try simp) | ((first | refine zl (by simp) ?_ | refine zx (by simp) (by simp) (by simp (maxDischargeDepth := 30) [zu, a0, a1, a7, a8, hlt, hx, zs, hr]) ?_ | fail); simp) | (refine zb (fun hc => ?_) (fun hc => ?_) <;> try simp at hc) | fail)
    refine PCalls.use (hg z[i] (List.getElem_mem _)) ?_
    cases hp : p z[i] with
    | true =>
      (try ((first | with_reducible refine zh ?_ | with_reducible refine zm ?_ | with_reducible refine zo ?_); simp [zu, a0, a1, a7, a8, hlt, hx, zs, hr])); repeat' (first | ((first | refine zd ?_ | refine zg ?_ | refine dN (by decide +kernel) ?_ | (refine za ?_ ?_ <;> (intro hg; simp only [hg])) | fail) <;> simp [zu, a0, a1, a7, a8, hlt, hx, zs, hr]) | refine zf ?_ | refine zc ?_ | (refine zp ?_; simp only [zq]; try simp) | ((first | refine zl (by simp) ?_ | refine zx (by simp) (by simp) (by simp (maxDischargeDepth := 30) [zu, a0, a1, a7, a8, hlt, hx, zs, hr]) ?_ | fail); simp) | (refine zb (fun hc => ?_) (fun hc => ?_) <;> try simp at hc) | fail)
      exact (zga hx hp hn).symm
    | false =>
      (try ((first | with_reducible refine zh ?_ | with_reducible refine zm ?_ | with_reducible refine zo ?_); simp [zu, a0, a1, a7, a8, hlt, hx, zs, hr])); repeat' (first | ((first | refine zd ?_ | refine zg ?_ | refine dN (by decide +kernel) ?_ | (refine za ?_ ?_ <;> (intro hg; simp only [hg])) | fail) <;> simp [zu, a0, a1, a7, a8, hlt, hx, zs, hr]) | refine zf ?_ | refine zc ?_ | (refine zp ?_; simp only [zq]; try simp) | ((first | refine zl (by simp) ?_ | refine zx (by simp) (by simp) (by simp (maxDischargeDepth := 30) [zu, a0, a1, a7, a8, hlt, hx, zs, hr]) ?_ | fail); simp) | (refine zb (fun hc => ?_) (fun hc => ?_) <;> try simp at hc) | fail)
      refine hI1 (z.length - (i + 1)) _ _ (by omega) ⟨rfl, by simp [a0], by simp [a1], by simp [a7], i + 1, by simp [w1], by omega, rfl, fun j hj y hy => ?_⟩
      by_cases e : j = i
      · subst e; rw [hx] at hy; injection hy with hy; subst hy; exact hp
      · exact hn j (by omega) y hy
  · have hi' : i = z.length := by omega
    subst hi'
    have w1 : IntKind.i64.wrap (-1) = -1 := zU (by omega) (by omega)
    (try ((first | with_reducible refine zh ?_ | with_reducible refine zm ?_ | with_reducible refine zo ?_); simp [zu, a0, a1, a7, a8, w1])); repeat' (first | ((first | refine zd ?_ | refine zg ?_ | refine dN (by decide +kernel) ?_ | (refine za ?_ ?_ <;> (intro hg; simp only [hg])) | fail) <;> simp [zu, a0, a1, a7, a8, w1]) | refine zf ?_ | refine zc ?_ | (refine zp ?_; simp only [zq]; try simp) | ((first | refine zl (by simp) ?_ | refine zx (by simp) (by simp) (by simp (maxDischargeDepth := 30) [zu, a0, a1, a7, a8, w1]) ?_ | fail); simp) | (refine zb (fun hc => ?_) (fun hc => ?_) <;> try simp at hc) | fail)
    exact (zgb hn).1.symm
theorem zh0 {g : FuncId} {caps : List AV} {p : Ru → Bool} (z : List Ru) (fz : Bool) (hl : z.length < 2 ^ 60) (hg : ∀ r ∈ z, PCalls Tryz.prog g (zE r :: caps) (.raw (.bool (p r)))) :
    PCalls Tryz.prog 179 [zu z fz, .fn (.func g) [] caps] (.raw (.bool (z.any p))) := by
  refine zJ Tryz.func179 rfl (N := 9) rfl rfl (by simp) (by simp [noIds]) fun σ => ?_
  (try ((first | with_reducible refine zh ?_ | with_reducible refine zm ?_ | with_reducible refine zo ?_); simp)); repeat' (first | ((first | refine zd ?_ | refine zg ?_ | refine dN (by decide +kernel) ?_ | (refine za ?_ ?_ <;> (intro hg; simp only [hg])) | fail) <;> simp) | refine zf ?_ | refine zc ?_ | (refine zp ?_; simp only [zq]; try simp) | ((first | refine zl (by simp) ?_ | refine zx (by simp) (by simp) (by simp (maxDischargeDepth := 30)) ?_ | fail); simp) | (refine zb (fun hc => ?_) (fun hc => ?_) <;> try simp at hc) | fail)
  refine PCalls.use (zgw z fz hl hg) ?_
  have := zgW p z
  (try ((first | with_reducible refine zh ?_ | with_reducible refine zm ?_ | with_reducible refine zo ?_); simp)); repeat' (first | ((first | refine zd ?_ | refine zg ?_ | refine dN (by decide +kernel) ?_ | (refine za ?_ ?_ <;> (intro hg; simp only [hg])) | fail) <;> simp) | refine zf ?_ | refine zc ?_ | (refine zp ?_; simp only [zq]; try simp) | ((first | refine zl (by simp) ?_ | refine zx (by simp) (by simp) (by simp (maxDischargeDepth := 30)) ?_ | fail); simp) | (refine zb (fun hc => ?_) (fun hc => ?_) <;> try simp at hc) | fail)
  simpa using this
theorem zjk {g : FuncId} {caps : List AV} {p : Int → Bool} (z : List Int) (fz : Bool) (hl : z.length < 2 ^ 60) (hg : ∀ r ∈ z, PCalls Tryz.prog g (iAV r :: caps) (.raw (.bool (p r)))) :
    PCalls Tryz.prog 115 [zy z fz, .fn (.func g) [] caps] (.raw (.int .i64 (idxOf p z))) := by
  refine zJ Tryz.func115 rfl (N := 19) rfl rfl (by simp) (by simp [noIds]) fun σ => ?_
  (try ((first | with_reducible refine zh ?_ | with_reducible refine zm ?_ | with_reducible refine zo ?_); simp [zy])); repeat' (first | ((first | refine zd ?_ | refine zg ?_ | refine dN (by decide +kernel) ?_ | (refine za ?_ ?_ <;> (intro hg; simp only [hg])) | fail) <;> simp [zy]) | refine zf ?_ | refine zc ?_ | (refine zp ?_; simp only [zq]; try simp) | ((first | refine zl (by simp) ?_ | refine zx (by simp) (by simp) (by simp (maxDischargeDepth := 30) [zy]) ?_ | fail); simp) | (refine zb (fun hc => ?_) (fun hc => ?_) <;> try simp at hc) | fail)
  refine zZ (fun n A τ => τ = σ ∧ A 0 = zy z fz ∧ A 1 = .fn (.func g) [] caps ∧ A 7 = .raw (.int .i64 z.length) ∧ ∃ i : Nat, A 8 = .raw (.int .i64 i) ∧ i ≤ z.length ∧ n = z.length - i ∧ ∀ j, j < i → ∀ y, z[j]? = some y → p y = false) z.length ?_ ?_
  · exact ⟨rfl, by simp [zy], by simp, by simp, 0, by simp, by omega, by omega, fun j h => by omega⟩
  rintro n A τ ⟨rfl, a0, a1, a7, i, a8, hi, rfl, hn⟩ I1 hI1
  by_cases hlt : i < z.length
  · have hx : z[i]? = some z[i] := List.getElem?_eq_getElem hlt
    have w1 : IntKind.i64.wrap ((i : Int) + 1) = ((i + 1 : Nat) : Int) := by rw [zU (by omega) (by omega)]; omega
    have hr : AV.raw (.int .i64 z[i]) = iAV z[i] := rfl
    (try ((first | with_reducible refine zh ?_ | with_reducible refine zm ?_ | with_reducible refine zo ?_); simp [zy, a0, a1, a7, a8, hlt, hx, zbJ, hr])); repeat' (first | ((first | refine zd ?_ | refine zg ?_ | refine dN (by decide +kernel) ?_ | (refine za ?_ ?_ <;> (intro hg; simp only [hg])) | fail) <;> simp [zy, a0, a1, a7, a8, hlt, hx, zbJ, hr]) | refine zf ?_ | refine zc ?_ | (refine zp ?_; simp only [zq]; try simp) | ((first | refine zl (by simp) ?_ | refine zx (by simp) (by simp) (by simp (maxDischargeDepth := 30) [zy, a0, a1, a7, a8, hlt, hx, zbJ, hr]) ?_ | fail); simp) | (refine zb (fun hc => ?_) (fun hc => ?_) <;> try simp at hc) | fail)
    refine PCalls.use (hg z[i] (List.getElem_mem _)) ?_
    cases hp : p z[i] with
    | true =>
      (try ((first | with_reducible refine zh ?_ | with_reducible refine zm ?_ | with_reducible refine zo ?_); simp [zy, a0, a1, a7, a8, hlt, hx, zbJ, hr])); repeat' (first | ((first | refine zd ?_ | refine zg ?_ | refine dN (by decide +kernel) ?_ | (refine za ?_ ?_ <;> (intro hg; simp only [hg])) | fail) <;> simp [zy, a0, a1, a7, a8, hlt, hx, zbJ, hr]) | refine zf ?_ | refine zc ?_ | (refine zp ?_; simp only [zq]; try simp) | ((first | refine zl (by simp) ?_ | refine zx (by simp) (by simp) (by simp (maxDischargeDepth := 30) [zy, a0, a1, a7, a8, hlt, hx, zbJ, hr]) ?_ | fail); simp) | (refine zb (fun hc => ?_) (fun hc => ?_) <;> try simp at hc) | fail)
      exact (zga hx hp hn).symm
    | false =>
      (try ((first | with_reducible refine zh ?_ | with_reducible refine zm ?_ | with_reducible refine zo ?_); simp [zy, a0, a1, a7, a8, hlt, hx, zbJ, hr])); repeat' (first | ((first | refine zd ?_ | refine zg ?_ | refine dN (by decide +kernel) ?_ | (refine za ?_ ?_ <;> (intro hg; simp only [hg])) | fail) <;> simp [zy, a0, a1, a7, a8, hlt, hx, zbJ, hr]) | refine zf ?_ | refine zc ?_ | (refine zp ?_; simp only [zq]; try simp) | ((first | refine zl (by simp) ?_ | refine zx (by simp) (by simp) (by simp (maxDischargeDepth := 30) [zy, a0, a1, a7, a8, hlt, hx, zbJ, hr]) ?_ | fail); simp) | (refine zb (fun hc => ?_) (fun hc => ?_) <;> try simp at hc) | fail)
      refine hI1 (z.length - (i + 1)) _ _ (by omega) ⟨rfl, by simp [a0], by simp [a1], by simp [a7], i + 1, by simp [w1], by omega, rfl, fun j hj y hy => ?_⟩
      by_cases e : j = i
      · subst e; rw [hx] at hy; injection hy with hy; subst hy; exact hp
      · exact hn j (by omega) y hy
  · have hi' : i = z.length := by omega
    subst hi'
    have w1 : IntKind.i64.wrap (-1) = -1 := zU (by omega) (by omega)
    (try ((first | with_reducible refine zh ?_ | with_reducible refine zm ?_ | with_reducible refine zo ?_); simp [zy, a0, a1, a7, a8, w1])); repeat' (first | ((first | refine zd ?_ | refine zg ?_ | refine dN (by decide +kernel) ?_ | (refine za ?_ ?_ <;> (intro hg; simp only [hg])) | fail) <;> simp [zy, a0, a1, a7, a8, w1]) | refine zf ?_ | refine zc ?_ | (refine zp ?_; simp only [zq]; try simp) | ((first | refine zl (by simp) ?_ | refine zx (by simp) (by simp) (by simp (maxDischargeDepth := 30) [zy, a0, a1, a7, a8, w1]) ?_ | fail); simp) | (refine zb (fun hc => ?_) (fun hc => ?_) <;> try simp at hc) | fail)
    exact (zgb hn).1.symm
theorem zhs {g : FuncId} {caps : List AV} {p : Int → Bool} (z : List Int) (fz : Bool) (hl : z.length < 2 ^ 60) (hg : ∀ r ∈ z, PCalls Tryz.prog g (iAV r :: caps) (.raw (.bool (p r)))) :
    PCalls Tryz.prog 63 [zy z fz, .fn (.func g) [] caps] (.raw (.bool (z.any p))) := by
  refine zJ Tryz.func63 rfl (N := 9) rfl rfl (by simp) (by simp [noIds]) fun σ => ?_
  (try ((first | with_reducible refine zh ?_ | with_reducible refine zm ?_ | with_reducible refine zo ?_); simp)); repeat' (first | ((first | refine zd ?_ | refine zg ?_ | refine dN (by decide +kernel) ?_ | (refine za ?_ ?_ <;> (intro hg; simp only [hg])) | fail) <;> simp) | refine zf ?_ | refine zc ?_ | (refine zp ?_; simp only [zq]; try simp) | ((first | refine zl (by simp) ?_ | refine zx (by simp) (by simp) (by simp (maxDischargeDepth := 30)) ?_ | fail); simp) | (refine zb (fun hc => ?_) (fun hc => ?_) <;> try simp at hc) | fail)
  refine PCalls.use (zjk z fz hl hg) ?_
  have := zgW p z
  (try ((first | with_reducible refine zh ?_ | with_reducible refine zm ?_ | with_reducible refine zo ?_); simp)); repeat' (first | ((first | refine zd ?_ | refine zg ?_ | refine dN (by decide +kernel) ?_ | (refine za ?_ ?_ <;> (intro hg; simp only [hg])) | fail) <;> simp) | refine zf ?_ | refine zc ?_ | (refine zp ?_; simp only [zq]; try simp) | ((first | refine zl (by simp) ?_ | refine zx (by simp) (by simp) (by simp (maxDischargeDepth := 30)) ?_ | fail); simp) | (refine zb (fun hc => ?_) (fun hc => ?_) <;> try simp at hc) | fail)
  simpa using this
end Go.Proofs.YtanimmdlgmkmkaaGreat.Av
namespace Go.Proofs.YtanimmdlgmkmkaaGreat.Av
open Go
set_option linter.unusedSimpArgs false
set_option linter.unusedVariables false
set_option maxRecDepth 100000
set_option maxHeartbeats 2000000
set_option pp.maxSteps 300
theorem zjl {T : Type} [DecidableEq T] {x y : List T} {i : Nat} (h : x.take i = y.take i) {a : T} (hx : x[i]? = some a) (hy : y[i]? = some a) : x.take (i + 1) = y.take (i + 1) := by
  rw [List.take_add_one, List.take_add_one, h, hx, hy]
end Go.Proofs.YtanimmdlgmkmkaaGreat.Av
namespace Go.Proofs.YtanimmdlgmkmkaaGreat.Av
open Go
set_option linter.unusedSimpArgs false
set_option linter.unusedVariables false
set_option maxRecDepth 100000
set_option maxHeartbeats 2000000
set_option pp.maxSteps 300
def ptV (p : Pt) : Value := .agg #[.int .i64 p.dev, .int .i64 p.port]
def enc (m : List (Pt × Pt)) : List (Value × AV) := m.map fun e => (ptV e.1, zQ e.2)
def upd (m : List (Pt × Pt)) (k v : Pt) : List (Pt × Pt) := m.filter (fun e => decide (k ≠ e.1)) ++ [(k, v)]
theorem ziS (k q : Pt) : zas Tryz.prog 4 41 (zQ k) (z0 (ptV q)) = some (decide (k = q)) := by
  have : decide (k = q) = (decide (k.dev = q.dev) && decide (k.port = q.port)) := by
    cases k; cases q; simp
  rw [this]
  simp [zas, zQ, ptV, zch, zbs, zdD, zaJ]
theorem zh1 (k : Pt) : ∀ m : List (Pt × Pt), zbR Tryz.prog 41 (zQ k) (enc m) = some (enc (m.filter fun e => decide (k = e.1)), enc (m.filter fun e => decide (k ≠ e.1)))
  | [] => rfl
  | e :: m => by
    have ih := zh1 k m
    simp only [enc, List.map_cons] at ih ⊢
    simp only [zbR, ziS]
    by_cases h : k = e.1
    · simp [h] at ih ⊢; rw [ih]
    · simp [h] at ih ⊢; rw [ih]
def zd9 (m : List (Pt × Pt)) : Prop := (m.map (·.1)).Nodup
theorem zmn {m : List (Pt × Pt)} (h : zd9 m) (k : Pt) : (m.filter fun e => decide (k = e.1)) = [] ∨ ∃ v, (m.filter fun e => decide (k = e.1)) = [(k, v)] := by
  induction m with
  | nil => exact .inl rfl
  | cons e m ih =>
    have h' := List.nodup_cons.1 (show (e.1 :: m.map (·.1)).Nodup from h)
    by_cases hk : k = e.1
    · right
      refine ⟨e.2, ?_⟩
      have : (m.filter fun e => decide (k = e.1)) = [] := by
        rw [List.filter_eq_nil_iff]
        intro x hx hkx
        simp only [decide_eq_true_eq] at hkx
        exact h'.1 (by rw [← hk, hkx]; exact List.mem_map.2 ⟨x, hx, rfl⟩)
      rw [List.filter_cons_of_pos (by simp [hk]), this, hk]
    · rw [List.filter_cons_of_neg (by simpa using hk)]
      exact ih h'.2
theorem zh2 {m : List (Pt × Pt)} (h : zd9 m) (k v : Pt) : zd9 (upd m k v) := by
  unfold zd9 upd at *
  rw [List.map_append, List.nodup_append]
  refine ⟨h.sublist (List.Sublist.map _ List.filter_sublist), by simp, fun a ha b hb e => ?_⟩
  simp only [List.map_cons, List.map_nil, List.mem_singleton] at hb
  subst hb; subst e
  obtain ⟨x, hx, rfl⟩ := List.mem_map.1 ha
  simpa using (List.mem_filter.1 hx).2
theorem zpn (k : Pt) : Instr.sameBits 10000 (ptV k) (ptV k) = true := by
  have : (10000 : Nat) = 9999 + 1 := rfl
  rw [this]
  simp [ptV, Instr.sameBits]
theorem zlc (k : Pt) : zfB Tryz.prog 41 (zQ k) = true := by simp [zfB, zQ, zbs]
theorem zpe {m : zX} {i : Id} {L : List (Pt × Pt)} (hm : m i = some (.map (enc L))) (hk : zd9 L) (k v : Pt) : za1 Tryz.prog m 210 (.mp i) (zQ k) (zQ v) = some (.wrm i (enc (upd L k v))) := by
  have hkv : zij (zQ k) = some (ptV k) := rfl
  unfold za1
  simp only [znF, hkv, hm, zlc, zo8, and_self, if_true, zh1]
  rcases zmn hk k with h | ⟨w, h⟩
  · rw [h]
    simp [enc, upd]
  · rw [h]
    simp [enc, upd, zpn]
theorem zqk {m : zX} {i : Id} {L : List (Pt × Pt)} (hm : m i = some (.map (enc L))) (hk : zd9 L) (k : Pt) :
    zbp Tryz.prog m 210 (.mp i) (zQ k) true = some (match L.find? (fun e => decide (k = e.1)) with | some e => .tup [zQ e.2, .raw (.bool true)] | none => .tup [zQ ⟨0, 0⟩, .raw (.bool false)]) := by
  unfold zbp
  simp only [znF, hm, zlc, zo8, and_self, if_true, zh1]
  have hf : L.find? (fun e => decide (k = e.1)) = (L.filter fun e => decide (k = e.1)).head? := by simp
  rw [hf]
  rcases zmn hk k with h | ⟨w, h⟩
  · rw [h]; simp [enc, zQ, zaJ]
  · rw [h]; simp [enc]
def zbx (L : List Lk) : List (Pt × Pt) := L.foldl (fun m l => upd (upd m l.a l.b) l.b l.a) []
theorem zgc (L : List Lk) : zd9 (zbx L) := by
  have : ∀ (L : List Lk) m, zd9 m → zd9 (L.foldl (fun m l => upd (upd m l.a l.b) l.b l.a) m) := by
    intro L
    induction L with
    | nil => exact fun m h => h
    | cons l L ih => exact fun m h => ih _ (zh2 (zh2 h _ _) _ _)
  exact this L [] (by simp [zd9])
theorem zmW {L : List Lk} {k : Nat} {l : Lk} (h : L[k]? = some l) : zbx (L.take (k + 1)) = upd (upd (zbx (L.take k)) l.a l.b) l.b l.a := by
  rw [List.take_add_one, h]
  simp [zbx, List.foldl_append]
theorem znH (m : List (Pt × Pt)) : zcV ((enc m).map (·.2)) = true := by
  induction m with
  | nil => rfl
  | cons e m ih => simp only [enc, List.map_cons, zcV] at ih ⊢; rw [ih]; rfl
theorem zaz (l : Lk) : (zbU l).cells = [.raw (.int .i64 l.a.dev), .raw (.int .i64 l.a.port), .raw (.int .i64 l.b.dev), .raw (.int .i64 l.b.port)] := rfl
theorem zgX (t : Tp) (f : Fl) (hl : t.links.length < 2 ^ 42) : MCalls Tryz.prog 177 [zat t f] 0 (.map (enc (zbx t.links))) .mp := by
  refine zmT (znH _) fun σ => ?_
  refine zeC Tryz.func177 rfl (N := 26) rfl rfl (by simp) ?_
  (try ((first | with_reducible refine zh ?_ | with_reducible refine zm ?_ | with_reducible refine zo ?_); simp [zat, zw, zy])); repeat' (first | ((first | refine zd ?_ | refine zg ?_ | refine dN (by decide +kernel) ?_ | (refine za ?_ ?_ <;> (intro hg; simp only [hg])) | fail) <;> simp [zat, zw, zy]) | refine zf ?_ | refine zc ?_ | (refine zp ?_; simp only [zq]; try simp) | ((first | refine zl (by simp) ?_ | refine zx (by simp) (by simp) (by simp (maxDischargeDepth := 30) [zat, zw, zy]) ?_ | fail); simp) | (refine zb (fun hc => ?_) (fun hc => ?_) <;> try simp at hc) | fail)
  refine zZ (fun n A τ => Ext σ τ ∧ A 3 = .mp ⟨6, σ.nx 6, 0⟩ ∧ A 8 = zw t.links f.l ∧ A 9 = .raw (.int .i64 t.links.length) ∧ ∃ k : Nat, A 10 = .raw (.int .i64 k) ∧ k ≤ t.links.length ∧ τ.m ⟨6, σ.nx 6, 0⟩ = some (.map (enc (zbx (t.links.take k)))) ∧ n = t.links.length - k) t.links.length ?_ ?_
  · exact ⟨by simp (maxDischargeDepth := 30), by simp [St.new], by simp [zw], by simp, 0, by simp, by omega, by simp [St.new, zbx, enc], by omega⟩
  rintro n A τ ⟨hE, a3, a8, a9, k, a10, hk, hm, rfl⟩ I1 hI1
  have f6 : σ.m ⟨6, σ.nx 6, 0⟩ = none := zk _ _ _
  by_cases hlt : k < t.links.length
  · have hx : t.links[k]? = some t.links[k] := List.getElem?_eq_getElem hlt
    have w1 : IntKind.i64.wrap ((k : Int) + 1) = ((k + 1 : Nat) : Int) := by rw [zU (by omega) (by omega)]; omega
    have hj := zmW hx
    have fa : AV.agg [.raw (.int .i64 t.links[k].a.dev), .raw (.int .i64 t.links[k].a.port)] = zQ t.links[k].a := rfl
    have fb : AV.agg [.raw (.int .i64 t.links[k].b.dev), .raw (.int .i64 t.links[k].b.port)] = zQ t.links[k].b := rfl
    have hu1 : ∀ m : zX, m ⟨6, σ.nx 6, 0⟩ = some (.map (enc (zbx (t.links.take k)))) → za1 Tryz.prog m 210 (.mp ⟨6, σ.nx 6, 0⟩) (zQ t.links[k].a) (zQ t.links[k].b) = some (.wrm ⟨6, σ.nx 6, 0⟩ (enc (upd (zbx (t.links.take k)) t.links[k].a t.links[k].b))) := fun m h => zpe h (zgc _) _ _
    have hu2 : ∀ m : zX, m ⟨6, σ.nx 6, 0⟩ = some (.map (enc (upd (zbx (t.links.take k)) t.links[k].a t.links[k].b))) → za1 Tryz.prog m 210 (.mp ⟨6, σ.nx 6, 0⟩) (zQ t.links[k].b) (zQ t.links[k].a) = some (.wrm ⟨6, σ.nx 6, 0⟩ (enc (zbx (t.links.take (k + 1))))) := fun m h => by
      rw [hj]; exact zpe h (zh2 (zgc _) _ _) _ _
    clear hj
    (try ((first | with_reducible refine zh ?_ | with_reducible refine zm ?_ | with_reducible refine zo ?_); simp [a3, a8, a9, a10, hlt, hx, hm, zw, zaz, fa, fb, hu1, hu2, w1])); repeat' (first | ((first | refine zd ?_ | refine zg ?_ | refine dN (by decide +kernel) ?_ | (refine za ?_ ?_ <;> (intro hg; simp only [hg])) | fail) <;> simp [a3, a8, a9, a10, hlt, hx, hm, zw, zaz, fa, fb, hu1, hu2, w1]) | refine zf ?_ | refine zc ?_ | (refine zp ?_; simp only [zq]; try simp) | ((first | refine zl (by simp) ?_ | refine zx (by simp) (by simp) (by simp (maxDischargeDepth := 30) [a3, a8, a9, a10, hlt, hx, hm, zw, zaz, fa, fb, hu1, hu2, w1]) ?_ | fail); simp) | (refine zb (fun hc => ?_) (fun hc => ?_) <;> try simp at hc) | fail)
    exact hI1 (t.links.length - (k + 1)) _ _ (by omega) ⟨Ext.setF (Ext.setF (by simp [hE]) f6) f6, by simp [a3], by simp [a8, zw], by simp [a9], k + 1, by simp, by omega, by simp [St.set, St.new, hm], rfl⟩
  · have : k = t.links.length := by omega
    subst this
    rw [List.take_length] at hm
    (try ((first | with_reducible refine zh ?_ | with_reducible refine zm ?_ | with_reducible refine zo ?_); simp [a3, a8, a9, a10])); repeat' (first | ((first | refine zd ?_ | refine zg ?_ | refine dN (by decide +kernel) ?_ | (refine za ?_ ?_ <;> (intro hg; simp only [hg])) | fail) <;> simp [a3, a8, a9, a10]) | refine zf ?_ | refine zc ?_ | (refine zp ?_; simp only [zq]; try simp) | (refine zb (fun hc => ?_) (fun hc => ?_) <;> try simp at hc) | fail)
    exact zbH (.inr rfl) (by simp) ⟨_, rfl, hm, f6, hE⟩
def zcl (t : Tp) (p : Pt) : Option Pt := ((zbx t.links).find? fun e => decide (p = e.1)).map (·.2)
theorem zmX (t : Tp) (f : Fl) (p : Pt) (hl : t.links.length < 2 ^ 42) :
    PCalls Tryz.prog 159 [zat t f, zQ p] (.tup [zQ ((zcl t p).getD ⟨0, 0⟩), .raw (.bool (zcl t p).isSome)]) := by
  have hj := zgX t f hl
  refine zJ Tryz.func159 rfl (N := 17) rfl rfl (by simp) (by simp [noIds, zQ]) fun σ => ?_
  have hpc : ∀ q : Pt, (zQ q).cells = [.raw (.int .i64 q.dev), .raw (.int .i64 q.port)] := fun q => rfl
  have htc : (zat t f).cells = [zy t.ports f.p, zw t.links f.l] := rfl
  have hfo : ∀ q : Pt, AV.agg [.raw (.int .i64 q.dev), .raw (.int .i64 q.port)] = zQ q := fun q => rfl
  have hft : AV.agg [zy t.ports f.p, zw t.links f.l] = zat t f := rfl
  have ho1 : cellOK (zy t.ports f.p) = true := rfl
  have ho2 : cellOK (zw t.links f.l) = true := rfl
  simp only [cellOK] at ho1 ho2
  have hlk : ∀ m : zX, ∀ i, m i = some (.map (enc (zbx t.links))) → zbp Tryz.prog m 210 (.mp i) (zQ p) true = some (.tup [zQ ((zcl t p).getD ⟨0, 0⟩), .raw (.bool (zcl t p).isSome)]) := fun m i h => by
    rw [zqk h (zgc _)]
    unfold zcl
    cases (zbx t.links).find? fun e => decide (p = e.1) <;> rfl
  obtain ⟨q, hq⟩ : ∃ q, (zcl t p).getD ⟨0, 0⟩ = q := ⟨_, rfl⟩
  obtain ⟨b, hb⟩ : ∃ b, (zcl t p).isSome = b := ⟨_, rfl⟩
  rw [hq, hb] at hlk ⊢
  (try ((first | with_reducible refine zh ?_ | with_reducible refine zm ?_ | with_reducible refine zo ?_); simp [hpc, htc, hfo, hft, ho1, ho2])); repeat' (first | ((first | refine zd ?_ | refine zg ?_ | refine dN (by decide +kernel) ?_ | (refine za ?_ ?_ <;> (intro hg; simp only [hg])) | fail) <;> simp [hpc, htc, hfo, hft, ho1, ho2]) | refine zf ?_ | refine zc ?_ | (refine zp ?_; simp only [zq]; try simp) | ((first | refine zl (by simp) ?_ | refine zx (by simp) (by simp) (by simp (maxDischargeDepth := 30) [hpc, htc, hfo, hft, ho1, ho2]) ?_ | fail); simp) | (refine zb (fun hc => ?_) (fun hc => ?_) <;> try simp at hc) | fail)
  refine zdt (fun o => o.dst == some 10) zhn (by decide +kernel) ?_
  (try ((first | with_reducible refine zh ?_ | with_reducible refine zm ?_ | with_reducible refine zo ?_); simp [hpc, htc, hfo, hft, ho1, ho2])); repeat' (first | ((first | refine zd ?_ | refine zg ?_ | refine dN (by decide +kernel) ?_ | (refine za ?_ ?_ <;> (intro hg; simp only [hg])) | fail) <;> simp [hpc, htc, hfo, hft, ho1, ho2]) | refine zf ?_ | refine zc ?_ | (refine zp ?_; simp only [zq]; try simp) | ((first | refine zl (by simp) ?_ | refine zx (by simp) (by simp) (by simp (maxDischargeDepth := 30) [hpc, htc, hfo, hft, ho1, ho2]) ?_ | fail); simp) | (refine zb (fun hc => ?_) (fun hc => ?_) <;> try simp at hc) | fail)
  refine .inr ⟨_, _, _, hj, ?_⟩
  have hpp : ∀ q : Pt, setPart (AV.agg [.raw (.int .i64 0), .raw (.int .i64 0)]) 0 [.raw (.int .i64 q.dev), .raw (.int .i64 q.port)] = zQ q := fun q => rfl
  have hpq : ∀ q : Pt, setPart (zQ ⟨0, 0⟩) 0 [.raw (.int .i64 q.dev), .raw (.int .i64 q.port)] = zQ q := fun q => rfl
  (try ((first | with_reducible refine zh ?_ | with_reducible refine zm ?_ | with_reducible refine zo ?_); simp [hpc, htc, hfo, hft, ho1, ho2, hlk, hpp, hpq])); repeat' (first | ((first | refine zd ?_ | refine zg ?_ | refine dN (by decide +kernel) ?_ | (refine za ?_ ?_ <;> (intro hg; simp only [hg])) | fail) <;> simp [hpc, htc, hfo, hft, ho1, ho2, hlk, hpp, hpq]) | refine zf ?_ | refine zc ?_ | (refine zp ?_; simp only [zq]; try simp) | (refine zb (fun hc => ?_) (fun hc => ?_) <;> try simp at hc) | fail)
  refine zx (.inr rfl) rfl (Ext.setF (by simp (maxDischargeDepth := 30)) ?_) ?_
  · have := zk σ 4 2
    simpa [St.new] using this
  · simp [St.set, St.new, hfo, hpc]
end Go.Proofs.YtanimmdlgmkmkaaGreat.Av
namespace Go.Proofs.YtanimmdlgmkmkaaGreat.Av
open Go
set_option linter.unusedSimpArgs false
set_option linter.unusedVariables false
set_option maxRecDepth 100000
set_option maxHeartbeats 2000000
set_option pp.maxSteps 300
theorem zkm (n : Int) : PCalls Tryz.prog 173 [.raw (.int .i64 n)] (.raw (.bool (decide (n < 1) || decide (4 < n)))) := by
  refine zJ Tryz.func173 rfl (N := 9) rfl rfl (by simp) (by simp [noIds]) fun σ => ?_
  obtain ⟨b1, h1⟩ : ∃ b, decide (n < 1) = b := ⟨_, rfl⟩
  obtain ⟨b2, h2⟩ : ∃ b, decide (4 < n) = b := ⟨_, rfl⟩
  rw [h1, h2]
  (try ((first | with_reducible refine zh ?_ | with_reducible refine zm ?_ | with_reducible refine zo ?_); simp [h1, h2])); repeat' (first | ((first | refine zd ?_ | refine zg ?_ | refine dN (by decide +kernel) ?_ | (refine za ?_ ?_ <;> (intro hg; simp only [hg])) | fail) <;> simp [h1, h2]) | refine zf ?_ | refine zc ?_ | (refine zp ?_; simp only [zq]; try simp) | ((first | refine zl (by simp) ?_ | refine zx (by simp) (by simp) (by simp (maxDischargeDepth := 30) [h1, h2]) ?_ | fail); simp) | (refine zb (fun hc => ?_) (fun hc => ?_) <;> try simp at hc) | fail)
def zdX (t : Tp) (l : Lk) : Bool := !hasB t l.a || (!hasB t l.b || decide (l.a = l.b))
theorem zO (t : Tp) (f : Fl) : (zat t f).cells = [zy t.ports f.p, zw t.links f.l] := rfl
theorem zaL (t : Tp) (f : Fl) : AV.agg [zy t.ports f.p, zw t.links f.l] = zat t f := rfl
theorem zbc (r : Ru) : AV.agg [.raw (.int .i64 r.dev), .raw (.int .i64 r.port)] = zQ ⟨r.dev, r.port⟩ := rfl
theorem zkn (t : Tp) (f : Fl) (l : Lk) (hl : t.ports.length < 2 ^ 60) : PCalls Tryz.prog 175 [zbU l, .pp [zy t.ports f.p, zw t.links f.l] 0] (.raw (.bool (zdX t l))) := by
  refine zJ Tryz.func175 rfl (N := 23) rfl rfl (by simp) (by simp [noIds]) fun σ => ?_
  have fa : AV.agg [.raw (.int .i64 l.a.dev), .raw (.int .i64 l.a.port)] = zQ l.a := rfl
  have fb : AV.agg [.raw (.int .i64 l.b.dev), .raw (.int .i64 l.b.port)] = zQ l.b := rfl
  obtain ⟨b1, h1⟩ : ∃ b, hasB t l.a = b := ⟨_, rfl⟩
  obtain ⟨b2, h2⟩ : ∃ b, hasB t l.b = b := ⟨_, rfl⟩
  have hd : decide (l.a = l.b) = (decide (l.a.dev = l.b.dev) && decide (l.a.port = l.b.port)) := by
    rcases l with ⟨⟨a1, a2⟩, ⟨b1, b2⟩⟩; simp
  obtain ⟨b3, h3⟩ : ∃ b, decide (l.a = l.b) = b := ⟨_, rfl⟩
  have heq : zas Tryz.prog 4 41 (zQ l.a) (zQ l.b) = some b3 := by
    have := ziS l.a l.b
    rw [h3] at this
    exact this
  have hg : Tryz.prog.eqGuardType Tryz.prog.depth 41 = false := zmU
  have hbin : zae Tryz.prog .eql 41 (zQ l.a) (zQ l.b) = some (.raw (.bool b3)) := by
    have e1 : ∀ x y : Pt, zae Tryz.prog .eql 41 (zQ x) (zQ y) = if Tryz.prog.eqGuardType Tryz.prog.depth 41 = false then (zas Tryz.prog 4 41 (zQ x) (zQ y)).bind fun b => (zbQ .eql b).map .raw else none := fun x y => rfl
    rw [e1, if_pos hg, heq]
    rfl
  have c1 := h1 ▸ zgV t f l.a hl
  have c2 := h2 ▸ zgV t f l.b hl
  unfold zdX
  rw [h1, h2, h3]
  (try ((first | with_reducible refine zh ?_ | with_reducible refine zm ?_ | with_reducible refine zo ?_); simp [zaz, fa, fb, zaL, -zae, hbin])); repeat' (first | ((first | refine zd ?_ | refine zg ?_ | refine dN (by decide +kernel) ?_ | (refine za ?_ ?_ <;> (intro hg; simp only [hg])) | fail) <;> simp [zaz, fa, fb, zaL, -zae, hbin]) | refine zf ?_ | refine zc ?_ | (refine zp ?_; simp only [zq]; try simp) | ((first | refine zl (by simp) ?_ | refine zx (by simp) (by simp) (by simp (maxDischargeDepth := 30) [zaz, fa, fb, zaL, -zae, hbin]) ?_ | fail); simp) | (refine zb (fun hc => ?_) (fun hc => ?_) <;> try simp at hc) | fail)
  refine PCalls.use c1 ?_
  (try ((first | with_reducible refine zh ?_ | with_reducible refine zm ?_ | with_reducible refine zo ?_); simp [zaz, fa, fb, zaL, -zae, hbin])); repeat' (first | ((first | refine zd ?_ | refine zg ?_ | refine dN (by decide +kernel) ?_ | (refine za ?_ ?_ <;> (intro hg; simp only [hg])) | fail) <;> simp [zaz, fa, fb, zaL, -zae, hbin]) | refine zf ?_ | refine zc ?_ | (refine zp ?_; simp only [zq]; try simp) | ((first | refine zl (by simp) ?_ | refine zx (by simp) (by simp) (by simp (maxDischargeDepth := 30) [zaz, fa, fb, zaL, -zae, hbin]) ?_ | fail); simp) | (refine zb (fun hc => ?_) (fun hc => ?_) <;> try simp at hc) | fail)
  refine PCalls.use c2 ?_
  (try ((first | with_reducible refine zh ?_ | with_reducible refine zm ?_ | with_reducible refine zo ?_); simp [zaz, fa, fb, zaL, -zae, hbin])); repeat' (first | ((first | refine zd ?_ | refine zg ?_ | refine dN (by decide +kernel) ?_ | (refine za ?_ ?_ <;> (intro hg; simp only [hg])) | fail) <;> simp [zaz, fa, fb, zaL, -zae, hbin]) | refine zf ?_ | refine zc ?_ | (refine zp ?_; simp only [zq]; try simp) | ((first | refine zl (by simp) ?_ | refine zx (by simp) (by simp) (by simp (maxDischargeDepth := 30) [zaz, fa, fb, zaL, -zae, hbin]) ?_ | fail); simp) | (refine zb (fun hc => ?_) (fun hc => ?_) <;> try simp at hc) | fail)
theorem zko (t : Tp) (f : Fl) (r : Ru) (hl : t.ports.length < 2 ^ 60) : PCalls Tryz.prog 180 [zE r, .pp [zy t.ports f.p, zw t.links f.l] 0] (.raw (.bool (!hasB t ⟨r.dev, r.port⟩))) := by
  refine zJ Tryz.func180 rfl (N := 12) rfl rfl (by simp) (by simp [noIds]) fun σ => ?_
  (try ((first | with_reducible refine zh ?_ | with_reducible refine zm ?_ | with_reducible refine zo ?_); simp [zs, zbc, zaL])); repeat' (first | ((first | refine zd ?_ | refine zg ?_ | refine dN (by decide +kernel) ?_ | (refine za ?_ ?_ <;> (intro hg; simp only [hg])) | fail) <;> simp [zs, zbc, zaL]) | refine zf ?_ | refine zc ?_ | (refine zp ?_; simp only [zq]; try simp) | ((first | refine zl (by simp) ?_ | refine zx (by simp) (by simp) (by simp (maxDischargeDepth := 30) [zs, zbc, zaL]) ?_ | fail); simp) | (refine zb (fun hc => ?_) (fun hc => ?_) <;> try simp at hc) | fail)
  refine PCalls.use (zgV t f ⟨r.dev, r.port⟩ hl) ?_
  (try ((first | with_reducible refine zh ?_ | with_reducible refine zm ?_ | with_reducible refine zo ?_); simp)); repeat' (first | ((first | refine zd ?_ | refine zg ?_ | refine dN (by decide +kernel) ?_ | (refine za ?_ ?_ <;> (intro hg; simp only [hg])) | fail) <;> simp) | refine zf ?_ | refine zc ?_ | (refine zp ?_; simp only [zq]; try simp) | ((first | refine zl (by simp) ?_ | refine zx (by simp) (by simp) (by simp (maxDischargeDepth := 30)) ?_ | fail); simp) | (refine zb (fun hc => ?_) (fun hc => ?_) <;> try simp at hc) | fail)
def zdJ (t : Tp) (l : List Ru) : Bool := !(l.any fun r => !hasB t ⟨r.dev, r.port⟩)
theorem zmY (t : Tp) (f : Fl) (l : List Ru) (g : Bool) (hl : t.ports.length < 2 ^ 60) (hl2 : l.length < 2 ^ 60) : PCalls Tryz.prog 127 [zat t f, zu l g] (.raw (.bool (zdJ t l))) := by
  have hc := zh0 (g := 180) (caps := [.pp [zy t.ports f.p, zw t.links f.l] 0]) (p := fun r => !hasB t ⟨r.dev, r.port⟩) l g hl2 (fun r _ => zko t f r hl)
  refine zJ Tryz.func127 rfl (N := 9) rfl rfl (by simp) (by simp [noIds]) fun σ => ?_
  repeat (refine zf ?_)
  refine zg ?_
  have ho1 : cellOK (zy t.ports f.p) = true := rfl
  have ho2 : cellOK (zw t.links f.l) = true := rfl
  simp only [cellOK] at ho1 ho2
  simp [zO, ho1, ho2]
  refine zaf ⟨2, σ.nx 2, 2⟩ ?_
  generalize hτ : St.del _ _ = τ
  generalize hA : (fun t => zF _ _ _) = A
  have a1 : A 1 = zu l g := by rw [← hA]; simp [zu]
  have a2 : A 2 = .pp [zy t.ports f.p, zw t.links f.l] 0 := by rw [← hA, ← hτ]; simp [zF, St.new, St.del, zO]
  have hE : Ext σ τ := by
    rw [← hτ]
    refine ⟨fun i o h => ?_, fun s => ?_⟩
    · rw [zR (fun e => by rw [e, zk] at h; cases h)]
      exact zaP _ _ h
    · exact St.new_le σ 2 2 (.buf [zat t f]) s
  clear hτ hA
  (try ((first | with_reducible refine zh ?_ | with_reducible refine zm ?_ | with_reducible refine zo ?_); simp [a1, a2])); repeat' (first | ((first | refine zd ?_ | refine zg ?_ | refine dN (by decide +kernel) ?_ | (refine za ?_ ?_ <;> (intro hg; simp only [hg])) | fail) <;> simp [a1, a2]) | refine zf ?_ | refine zc ?_ | (refine zp ?_; simp only [zq]; try simp) | ((first | refine zl (by simp) ?_ | refine zx (by simp) (by simp) (by simp (maxDischargeDepth := 30) [a1, a2]) ?_ | fail); simp) | (refine zb (fun hc => ?_) (fun hc => ?_) <;> try simp at hc) | fail)
  refine PCalls.use hc ?_
  (try ((first | with_reducible refine zh ?_ | with_reducible refine zm ?_ | with_reducible refine zo ?_); simp [a1, a2, hE])); repeat' (first | ((first | refine zd ?_ | refine zg ?_ | refine dN (by decide +kernel) ?_ | (refine za ?_ ?_ <;> (intro hg; simp only [hg])) | fail) <;> simp [a1, a2, hE]) | refine zf ?_ | refine zc ?_ | (refine zp ?_; simp only [zq]; try simp) | ((first | refine zl (by simp) ?_ | refine zx (by simp) (by simp) (by simp (maxDischargeDepth := 30) [a1, a2, hE]) ?_ | fail); simp) | (refine zb (fun hc => ?_) (fun hc => ?_) <;> try simp at hc) | fail)
  simp [zdJ]
def zgd (t : Tp) : Bool := t.ports.any fun n => decide (n < 1) || decide (4 < n)
def zdf (t : Tp) : Bool := !decide (t.ports.length = 0) && (!decide (8 < t.ports.length) && (!decide (16 < t.links.length) && (!zgd t && (!t.links.any (zdX t) && decide ((zbx t.links).length = 2 * t.links.length)))))
theorem zl5 (t : Tp) (f : Fl) (hl : t.ports.length < 2 ^ 60) (hl2 : t.links.length < 2 ^ 42) : PCalls Tryz.prog 125 [zat t f] (.raw (.bool (zdf t))) := by
  have hj := zgX t f hl2
  have hc1 := zhs (g := 173) (caps := []) (p := fun n => decide (n < 1) || decide (4 < n)) t.ports f.p hl (fun n _ => zkm n)
  have hc2 := zhZ (g := 175) (caps := [.pp [zy t.ports f.p, zw t.links f.l] 0]) (p := zdX t) t.links f.l (by omega) (fun l _ => zkn t f l hl)
  have hlen : ∀ L : List Lk, (zbx L).length ≤ 2 * L.length := by
    have : ∀ (L : List Lk) m, (L.foldl (fun m l => upd (upd m l.a l.b) l.b l.a) m).length ≤ m.length + 2 * L.length := by
      intro L
      induction L with
      | nil => intro m; simp
      | cons l L ih =>
        intro m
        have h1 := ih (upd (upd m l.a l.b) l.b l.a)
        have hu : ∀ m k v, (upd m k v).length ≤ m.length + 1 := fun m k v => by
          unfold upd
          have := List.length_filter_le (fun e : Pt × Pt => decide (k ≠ e.1)) m
          simp only [List.length_append, List.length_singleton]; omega
        have h2 := hu (upd m l.a l.b) l.b l.a
        have h3 := hu m l.a l.b
        simp only [List.foldl_cons, List.length_cons]
        omega
    intro L
    simpa [zbx] using this L []
  have hle := hlen t.links
  unfold zdf
  obtain ⟨b4, h4⟩ : ∃ b, zgd t = b := ⟨_, rfl⟩
  obtain ⟨b5, h5⟩ : ∃ b, t.links.any (zdX t) = b := ⟨_, rfl⟩
  rw [show (t.ports.any fun n => decide (n < 1) || decide (4 < n)) = b4 from h4] at hc1
  obtain ⟨n, hn⟩ : ∃ n, t.ports.length = n := ⟨_, rfl⟩
  obtain ⟨k, hk⟩ : ∃ k, t.links.length = k := ⟨_, rfl⟩
  obtain ⟨c, hcc⟩ : ∃ c, (zbx t.links).length = c := ⟨_, rfl⟩
  rw [h5] at hc2 ⊢
  rw [h4, hn, hk, hcc]
  rw [hk, hcc] at hle
  rw [hn] at hl
  rw [hk] at hl2
  refine zJ Tryz.func125 rfl (N := 34) rfl rfl (by simp) (by simp [noIds]) fun σ => ?_
  repeat (refine zf ?_)
  refine zg ?_
  have ho1 : cellOK (zy t.ports f.p) = true := rfl
  have ho2 : cellOK (zw t.links f.l) = true := rfl
  simp only [cellOK] at ho1 ho2
  simp [zO, ho1, ho2]
  refine zaf ⟨1, σ.nx 1, 2⟩ ?_
  generalize hτ : St.del _ _ = τ
  generalize hA : (fun t => zF _ _ _) = A
  have a1 : A 1 = .pp [zy t.ports f.p, zw t.links f.l] 0 := by rw [← hA, ← hτ]; simp [zF, St.new, St.del, zO]
  have hE : Ext σ τ := by
    rw [← hτ]
    refine ⟨fun i o h => ?_, fun s => ?_⟩
    · rw [zR (fun e => by rw [e, zk] at h; cases h)]
      exact zaP _ _ h
    · exact St.new_le σ 1 2 (.buf [zat t f]) s
  clear hτ hA
  have li : ∀ g, zaa Tryz.prog τ.m 22 (zy t.ports g) = some (.raw (.int .i64 n)) := fun g => by simp [zy, hn]
  have ll : ∀ g, zaa Tryz.prog τ.m 23 (zw t.links g) = some (.raw (.int .i64 k)) := fun g => by simp [zw, hk]
  have lm : ∀ (m : zX) i, m i = some (.map (enc (zbx t.links))) → zaa Tryz.prog m 210 (.mp i) = some (.raw (.int .i64 c)) := fun m i h => by simp [h, enc, hcc]
  have ll2 : ∀ (m : zX) g, zaa Tryz.prog m 23 (zw t.links g) = some (.raw (.int .i64 k)) := fun m g => by simp [zw, hk]
  have w2 : IntKind.i64.wrap (2 * (k : Int)) = 2 * (k : Int) := zU (by omega) (by omega)
  clear hn hk hcc
  by_cases q1 : n = 0
  · (try ((first | with_reducible refine zh ?_ | with_reducible refine zm ?_ | with_reducible refine zo ?_); simp [a1, hE, -zaa, li, ll, q1])); repeat' (first | ((first | refine zd ?_ | refine zg ?_ | refine dN (by decide +kernel) ?_ | (refine za ?_ ?_ <;> (intro hg; simp only [hg])) | fail) <;> simp [a1, hE, -zaa, li, ll, q1]) | refine zf ?_ | refine zc ?_ | (refine zp ?_; simp only [zq]; try simp) | ((first | refine zl (by simp) ?_ | refine zx (by simp) (by simp) (by simp (maxDischargeDepth := 30) [a1, hE, -zaa, li, ll, q1]) ?_ | fail); simp) | (refine zb (fun hc => ?_) (fun hc => ?_) <;> try simp at hc) | fail)
    all_goals (intros; omega)
  by_cases q2 : 8 < n
  · have q2i : (8 : Int) < (n : Int) := by omega
    (try ((first | with_reducible refine zh ?_ | with_reducible refine zm ?_ | with_reducible refine zo ?_); simp [a1, hE, -zaa, li, ll, q1, q2, q2i])); repeat' (first | ((first | refine zd ?_ | refine zg ?_ | refine dN (by decide +kernel) ?_ | (refine za ?_ ?_ <;> (intro hg; simp only [hg])) | fail) <;> simp [a1, hE, -zaa, li, ll, q1, q2, q2i]) | refine zf ?_ | refine zc ?_ | (refine zp ?_; simp only [zq]; try simp) | ((first | refine zl (by simp) ?_ | refine zx (by simp) (by simp) (by simp (maxDischargeDepth := 30) [a1, hE, -zaa, li, ll, q1, q2, q2i]) ?_ | fail); simp) | (refine zb (fun hc => ?_) (fun hc => ?_) <;> try simp at hc) | fail)
    all_goals (intros; omega)
  have q2i : ¬ (8 : Int) < (n : Int) := by omega
  by_cases q3 : 16 < k
  · have q3i : (16 : Int) < (k : Int) := by omega
    (try ((first | with_reducible refine zh ?_ | with_reducible refine zm ?_ | with_reducible refine zo ?_); simp [a1, hE, -zaa, li, ll, q1, q2, q2i, q3, q3i])); repeat' (first | ((first | refine zd ?_ | refine zg ?_ | refine dN (by decide +kernel) ?_ | (refine za ?_ ?_ <;> (intro hg; simp only [hg])) | fail) <;> simp [a1, hE, -zaa, li, ll, q1, q2, q2i, q3, q3i]) | refine zf ?_ | refine zc ?_ | (refine zp ?_; simp only [zq]; try simp) | ((first | refine zl (by simp) ?_ | refine zx (by simp) (by simp) (by simp (maxDischargeDepth := 30) [a1, hE, -zaa, li, ll, q1, q2, q2i, q3, q3i]) ?_ | fail); simp) | (refine zb (fun hc => ?_) (fun hc => ?_) <;> try simp at hc) | fail)
    all_goals (intros; omega)
  have q3i : ¬ (16 : Int) < (k : Int) := by omega
  (try ((first | with_reducible refine zh ?_ | with_reducible refine zm ?_ | with_reducible refine zo ?_); simp [a1, hE, -zaa, li, ll, q1, q2, q2i, q3, q3i])); repeat' (first | ((first | refine zd ?_ | refine zg ?_ | refine dN (by decide +kernel) ?_ | (refine za ?_ ?_ <;> (intro hg; simp only [hg])) | fail) <;> simp [a1, hE, -zaa, li, ll, q1, q2, q2i, q3, q3i]) | refine zf ?_ | refine zc ?_ | (refine zp ?_; simp only [zq]; try simp) | ((first | refine zl (by simp) ?_ | refine zx (by simp) (by simp) (by simp (maxDischargeDepth := 30) [a1, hE, -zaa, li, ll, q1, q2, q2i, q3, q3i]) ?_ | fail); simp) | (refine zb (fun hc => ?_) (fun hc => ?_) <;> try simp at hc) | fail)
  refine PCalls.use hc1 ?_
  cases b4 with
  | true =>
    (try ((first | with_reducible refine zh ?_ | with_reducible refine zm ?_ | with_reducible refine zo ?_); simp [a1, hE, -zaa, li, ll, q1, q2, q2i, q3, q3i])); repeat' (first | ((first | refine zd ?_ | refine zg ?_ | refine dN (by decide +kernel) ?_ | (refine za ?_ ?_ <;> (intro hg; simp only [hg])) | fail) <;> simp [a1, hE, -zaa, li, ll, q1, q2, q2i, q3, q3i]) | refine zf ?_ | refine zc ?_ | (refine zp ?_; simp only [zq]; try simp) | ((first | refine zl (by simp) ?_ | refine zx (by simp) (by simp) (by simp (maxDischargeDepth := 30) [a1, hE, -zaa, li, ll, q1, q2, q2i, q3, q3i]) ?_ | fail); simp) | (refine zb (fun hc => ?_) (fun hc => ?_) <;> try simp at hc) | fail)
  | false =>
    (try ((first | with_reducible refine zh ?_ | with_reducible refine zm ?_ | with_reducible refine zo ?_); simp [a1, hE, -zaa, li, ll, q1, q2, q2i, q3, q3i])); repeat' (first | ((first | refine zd ?_ | refine zg ?_ | refine dN (by decide +kernel) ?_ | (refine za ?_ ?_ <;> (intro hg; simp only [hg])) | fail) <;> simp [a1, hE, -zaa, li, ll, q1, q2, q2i, q3, q3i]) | refine zf ?_ | refine zc ?_ | (refine zp ?_; simp only [zq]; try simp) | ((first | refine zl (by simp) ?_ | refine zx (by simp) (by simp) (by simp (maxDischargeDepth := 30) [a1, hE, -zaa, li, ll, q1, q2, q2i, q3, q3i]) ?_ | fail); simp) | (refine zb (fun hc => ?_) (fun hc => ?_) <;> try simp at hc) | fail)
    refine PCalls.use hc2 ?_
    cases b5 with
    | true =>
      (try ((first | with_reducible refine zh ?_ | with_reducible refine zm ?_ | with_reducible refine zo ?_); simp [a1, hE, -zaa, li, ll, q1, q2, q2i, q3, q3i])); repeat' (first | ((first | refine zd ?_ | refine zg ?_ | refine dN (by decide +kernel) ?_ | (refine za ?_ ?_ <;> (intro hg; simp only [hg])) | fail) <;> simp [a1, hE, -zaa, li, ll, q1, q2, q2i, q3, q3i]) | refine zf ?_ | refine zc ?_ | (refine zp ?_; simp only [zq]; try simp) | ((first | refine zl (by simp) ?_ | refine zx (by simp) (by simp) (by simp (maxDischargeDepth := 30) [a1, hE, -zaa, li, ll, q1, q2, q2i, q3, q3i]) ?_ | fail); simp) | (refine zb (fun hc => ?_) (fun hc => ?_) <;> try simp at hc) | fail)
    | false =>
      (try ((first | with_reducible refine zh ?_ | with_reducible refine zm ?_ | with_reducible refine zo ?_); simp [a1, hE, -zaa, li, ll, q1, q2, q2i, q3, q3i])); repeat' (first | ((first | refine zd ?_ | refine zg ?_ | refine dN (by decide +kernel) ?_ | (refine za ?_ ?_ <;> (intro hg; simp only [hg])) | fail) <;> simp [a1, hE, -zaa, li, ll, q1, q2, q2i, q3, q3i]) | refine zf ?_ | refine zc ?_ | (refine zp ?_; simp only [zq]; try simp) | ((first | refine zl (by simp) ?_ | refine zx (by simp) (by simp) (by simp (maxDischargeDepth := 30) [a1, hE, -zaa, li, ll, q1, q2, q2i, q3, q3i]) ?_ | fail); simp) | (refine zb (fun hc => ?_) (fun hc => ?_) <;> try simp at hc) | fail)
      refine zdt (fun o => o.dst == some 27) zhn (by decide +kernel) ?_
      (try ((first | with_reducible refine zh ?_ | with_reducible refine zm ?_ | with_reducible refine zo ?_); simp [a1, hE, -zaa, li, ll, q1, q2, q2i, q3, q3i, zaL])); repeat' (first | ((first | refine zd ?_ | refine zg ?_ | refine dN (by decide +kernel) ?_ | (refine za ?_ ?_ <;> (intro hg; simp only [hg])) | fail) <;> simp [a1, hE, -zaa, li, ll, q1, q2, q2i, q3, q3i, zaL]) | refine zf ?_ | refine zc ?_ | (refine zp ?_; simp only [zq]; try simp) | ((first | refine zl (by simp) ?_ | refine zx (by simp) (by simp) (by simp (maxDischargeDepth := 30) [a1, hE, -zaa, li, ll, q1, q2, q2i, q3, q3i, zaL]) ?_ | fail); simp) | (refine zb (fun hc => ?_) (fun hc => ?_) <;> try simp at hc) | fail)
      refine .inr ⟨_, _, _, hj, ?_⟩
      (try ((first | with_reducible refine zh ?_ | with_reducible refine zm ?_ | with_reducible refine zo ?_); simp [a1, hE, -zaa, ll2, lm, q1, q2, q3, zaL, w2])); repeat' (first | ((first | refine zd ?_ | refine zg ?_ | refine dN (by decide +kernel) ?_ | (refine za ?_ ?_ <;> (intro hg; simp only [hg])) | fail) <;> simp [a1, hE, -zaa, ll2, lm, q1, q2, q3, zaL, w2]) | refine zf ?_ | refine zc ?_ | (refine zp ?_; simp only [zq]; try simp) | ((first | refine zl (by simp) ?_ | refine zx (by simp) (by simp) (by simp (maxDischargeDepth := 30) [a1, hE, -zaa, ll2, lm, q1, q2, q3, zaL, w2]) ?_ | fail); simp) | (refine zb (fun hc => ?_) (fun hc => ?_) <;> try simp at hc) | fail)
      rw [show decide ((c : Int) = 2 * (k : Int)) = decide (c = 2 * k) by (congr 1; exact propext (by omega))]
      simp [q1, q2, q3]
end Go.Proofs.YtanimmdlgmkmkaaGreat.Av
namespace Go.Proofs.YtanimmdlgmkmkaaGreat.Av
open Go
set_option linter.unusedSimpArgs false
set_option linter.unusedVariables false
set_option maxRecDepth 100000
set_option maxHeartbeats 2000000
set_option pp.maxSteps 300
theorem zak {P : Program} {op : BinOp} {t : TypeId} {a b : Value} : zae P op t (.raw a) (.raw b) = zgG P op t (.raw a) (.raw b) := rfl
theorem zr1 (a b : Lk) : zas Tryz.prog 4 160 (zbU a) (zbU b) = some (decide (a = b)) := by
  have : decide (a = b) = (decide (a.a.dev = b.a.dev) && decide (a.a.port = b.a.port) && (decide (a.b.dev = b.b.dev) && decide (a.b.port = b.b.port))) := by
    rcases a with ⟨⟨a1, a2⟩, ⟨a3, a4⟩⟩; rcases b with ⟨⟨b1, b2⟩, ⟨b3, b4⟩⟩
    rw [Bool.eq_iff_iff]; simp
  rw [this]
  simp [zas, zbU, zch, zbs, zdD]
theorem zfI (a b : Lk) : zae Tryz.prog .neq 160 (zbU a) (zbU b) = some (.raw (.bool (!decide (a = b)))) := by
  have e1 : ∀ x y : Lk, zae Tryz.prog .neq 160 (zbU x) (zbU y) = if Tryz.prog.eqGuardType Tryz.prog.depth 160 = false then (zas Tryz.prog 4 160 (zbU x) (zbU y)).bind fun b => (zbQ .neq b).map .raw else none := fun x y => rfl
  rw [e1, if_pos zqf, zr1]
  rfl
end Go.Proofs.YtanimmdlgmkmkaaGreat.Av
namespace Go.Proofs.YtanimmdlgmkmkaaGreat.Av
open Go
set_option linter.unusedSimpArgs false
set_option linter.unusedVariables false
set_option maxRecDepth 100000
set_option maxHeartbeats 2000000
set_option pp.maxSteps 300
theorem zgY (t : Tp) (f : Fl) (p : Pt) (hl : t.ports.length < 2 ^ 60) : PCalls Tryz.prog 171 [zat t f, zQ p] (.raw (.bool (hasB t p))) := by
  refine zJ Tryz.func171 rfl (N := 32) rfl rfl (by simp) (by simp [noIds]) fun σ => ?_
  by_cases h1 : 0 ≤ p.dev
  · obtain ⟨k, hk⟩ : ∃ k : Nat, p.dev = k := ⟨p.dev.toNat, by omega⟩
    by_cases h2 : k < t.ports.length
    · have hx : t.ports[k]? = some t.ports[k] := List.getElem?_eq_getElem h2
      (try ((first | with_reducible refine zh ?_ | with_reducible refine zm ?_ | with_reducible refine zo ?_); simp [zat, zQ, zy, zw, iAV, hk, h2, hx])); repeat' (first | ((first | refine zd ?_ | refine zg ?_ | refine dN (by decide +kernel) ?_ | (refine za ?_ ?_ <;> (intro hg; simp only [hg])) | fail) <;> simp [zat, zQ, zy, zw, iAV, hk, h2, hx]) | refine zf ?_ | refine zc ?_ | (refine zp ?_; simp only [zq]; try simp) | ((first | refine zl (by simp) ?_ | refine zx (by simp) (by simp) (by simp (maxDischargeDepth := 30) [zat, zQ, zy, zw, iAV, hk, h2, hx]) ?_ | fail); simp) | (refine zb (fun hc => ?_) (fun hc => ?_) <;> try simp at hc) | fail)
      all_goals (simp_all [hasB] <;> intros <;> omega)
    · have hx : t.ports[k]? = none := List.getElem?_eq_none (by omega)
      (try ((first | with_reducible refine zh ?_ | with_reducible refine zm ?_ | with_reducible refine zo ?_); simp [zat, zQ, zy, zw, iAV, hk, h2, hx])); repeat' (first | ((first | refine zd ?_ | refine zg ?_ | refine dN (by decide +kernel) ?_ | (refine za ?_ ?_ <;> (intro hg; simp only [hg])) | fail) <;> simp [zat, zQ, zy, zw, iAV, hk, h2, hx]) | refine zf ?_ | refine zc ?_ | (refine zp ?_; simp only [zq]; try simp) | ((first | refine zl (by simp) ?_ | refine zx (by simp) (by simp) (by simp (maxDischargeDepth := 30) [zat, zQ, zy, zw, iAV, hk, h2, hx]) ?_ | fail); simp) | (refine zb (fun hc => ?_) (fun hc => ?_) <;> try simp at hc) | fail)
      all_goals (simp_all [hasB] <;> intros <;> omega)
  · (try ((first | with_reducible refine zh ?_ | with_reducible refine zm ?_ | with_reducible refine zo ?_); simp [zat, zQ, zy, zw, iAV, h1])); repeat' (first | ((first | refine zd ?_ | refine zg ?_ | refine dN (by decide +kernel) ?_ | (refine za ?_ ?_ <;> (intro hg; simp only [hg])) | fail) <;> simp [zat, zQ, zy, zw, iAV, h1]) | refine zf ?_ | refine zc ?_ | (refine zp ?_; simp only [zq]; try simp) | ((first | refine zl (by simp) ?_ | refine zx (by simp) (by simp) (by simp (maxDischargeDepth := 30) [zat, zQ, zy, zw, iAV, h1]) ?_ | fail); simp) | (refine zb (fun hc => ?_) (fun hc => ?_) <;> try simp at hc) | fail)
    all_goals (simp_all [hasB] <;> intros <;> omega)
theorem zkp (t : Tp) (f : Fl) (l : List Ru) (g : Bool) (hl : t.ports.length < 2 ^ 60) (hl2 : l.length < 2 ^ 60) : PCalls Tryz.prog 124 [zat t f, zu l g] (.raw (.bool (zdJ t l))) := by
  refine zJ Tryz.func124 rfl (N := 28) rfl rfl (by simp) (by simp [noIds]) fun σ => ?_
  have ho1 : cellOK (zy t.ports f.p) = true := rfl
  have ho2 : cellOK (zw t.links f.l) = true := rfl
  simp only [cellOK] at ho1 ho2
  (try ((first | with_reducible refine zh ?_ | with_reducible refine zm ?_ | with_reducible refine zo ?_); simp [zO, ho1, ho2])); repeat' (first | ((first | refine zd ?_ | refine zg ?_ | refine dN (by decide +kernel) ?_ | (refine za ?_ ?_ <;> (intro hg; simp only [hg])) | fail) <;> simp [zO, ho1, ho2]) | refine zf ?_ | refine zc ?_ | (refine zp ?_; simp only [zq]; try simp) | ((first | refine zl (by simp) ?_ | refine zx (by simp) (by simp) (by simp (maxDischargeDepth := 30) [zO, ho1, ho2]) ?_ | fail); simp) | (refine zb (fun hc => ?_) (fun hc => ?_) <;> try simp at hc) | fail)
  refine zZ (fun n A τ => τ = σ.new 2 2 (.buf [zat t f]) ∧ A 1 = zu l g ∧ A 2 = .rp ⟨2, σ.nx 2, 2⟩ 0 0 ∧ ∃ i : Nat, A 5 = .raw (.int .i64 i) ∧ i ≤ l.length ∧ n = l.length - i ∧ ∀ r ∈ l.take i, hasB t ⟨r.dev, r.port⟩ = true) l.length ?_ ?_
  · exact ⟨rfl, by simp, by simp, 0, by simp, by omega, by omega, by simp⟩
  rintro n A τ ⟨rfl, a1, a2, i, a5, hi, rfl, hok⟩ I1 hI1
  by_cases hlt : i < l.length
  · have hx : l[i]? = some l[i] := List.getElem?_eq_getElem hlt
    have w1 : IntKind.i64.wrap ((i : Int) + 1) = ((i + 1 : Nat) : Int) := by rw [zU (by omega) (by omega)]; omega
    obtain ⟨b, hb⟩ : ∃ b, hasB t ⟨l[i].dev, l[i].port⟩ = b := ⟨_, rfl⟩
    have hc := hb ▸ zgY t f ⟨l[i].dev, l[i].port⟩ hl
    (try ((first | with_reducible refine zh ?_ | with_reducible refine zm ?_ | with_reducible refine zo ?_); simp [zu, a1, a2, a5, hlt, hx, zO, zaL, zs, zbc, ho1, ho2, w1])); repeat' (first | ((first | refine zd ?_ | refine zg ?_ | refine dN (by decide +kernel) ?_ | (refine za ?_ ?_ <;> (intro hg; simp only [hg])) | fail) <;> simp [zu, a1, a2, a5, hlt, hx, zO, zaL, zs, zbc, ho1, ho2, w1]) | refine zf ?_ | refine zc ?_ | (refine zp ?_; simp only [zq]; try simp) | ((first | refine zl (by simp) ?_ | refine zx (by simp) (by simp) (by simp (maxDischargeDepth := 30) [zu, a1, a2, a5, hlt, hx, zO, zaL, zs, zbc, ho1, ho2, w1]) ?_ | fail); simp) | (refine zb (fun hc => ?_) (fun hc => ?_) <;> try simp at hc) | fail)
    refine PCalls.use hc ?_
    cases b with
    | true =>
      (try ((first | with_reducible refine zh ?_ | with_reducible refine zm ?_ | with_reducible refine zo ?_); simp [zu, a1, a2, a5, hlt, hx, zO, zaL, zs, zbc, ho1, ho2, w1])); repeat' (first | ((first | refine zd ?_ | refine zg ?_ | refine dN (by decide +kernel) ?_ | (refine za ?_ ?_ <;> (intro hg; simp only [hg])) | fail) <;> simp [zu, a1, a2, a5, hlt, hx, zO, zaL, zs, zbc, ho1, ho2, w1]) | refine zf ?_ | refine zc ?_ | (refine zp ?_; simp only [zq]; try simp) | ((first | refine zl (by simp) ?_ | refine zx (by simp) (by simp) (by simp (maxDischargeDepth := 30) [zu, a1, a2, a5, hlt, hx, zO, zaL, zs, zbc, ho1, ho2, w1]) ?_ | fail); simp) | (refine zb (fun hc => ?_) (fun hc => ?_) <;> try simp at hc) | fail)
      refine hI1 (l.length - (i + 1)) _ _ (by omega) ⟨by simp, by simp [a1, zu], by simp [a2], i + 1, by simp [w1], by omega, rfl, fun r hr => ?_⟩
      rw [List.take_add_one, hx] at hr
      rcases List.mem_append.1 hr with hr | hr
      · exact hok r hr
      · simp at hr; subst hr; exact hb
    | false =>
      have hf : zdJ t l = false := by
        unfold zdJ
        rw [List.any_eq_true.2 ⟨l[i], List.getElem_mem _, by simp [hb]⟩]; rfl
      (try ((first | with_reducible refine zh ?_ | with_reducible refine zm ?_ | with_reducible refine zo ?_); simp [zu, a1, a2, a5, hlt, hx, zO, zaL, zs, zbc, ho1, ho2, w1])); repeat' (first | ((first | refine zd ?_ | refine zg ?_ | refine dN (by decide +kernel) ?_ | (refine za ?_ ?_ <;> (intro hg; simp only [hg])) | fail) <;> simp [zu, a1, a2, a5, hlt, hx, zO, zaL, zs, zbc, ho1, ho2, w1]) | refine zf ?_ | refine zc ?_ | (refine zp ?_; simp only [zq]; try simp) | ((first | refine zl (by simp) ?_ | refine zx (by simp) (by simp) (by simp (maxDischargeDepth := 30) [zu, a1, a2, a5, hlt, hx, zO, zaL, zs, zbc, ho1, ho2, w1]) ?_ | fail); simp) | (refine zb (fun hc => ?_) (fun hc => ?_) <;> try simp at hc) | fail)
      exact hf
  · have : i = l.length := by omega
    subst this
    rw [List.take_length] at hok
    have hf : zdJ t l = true := by
      unfold zdJ
      rw [List.any_eq_false.2 (fun r hr => by simp [hok r hr])]; rfl
    (try ((first | with_reducible refine zh ?_ | with_reducible refine zm ?_ | with_reducible refine zo ?_); simp [zu, a1, a2, a5])); repeat' (first | ((first | refine zd ?_ | refine zg ?_ | refine dN (by decide +kernel) ?_ | (refine za ?_ ?_ <;> (intro hg; simp only [hg])) | fail) <;> simp [zu, a1, a2, a5]) | refine zf ?_ | refine zc ?_ | (refine zp ?_; simp only [zq]; try simp) | ((first | refine zl (by simp) ?_ | refine zx (by simp) (by simp) (by simp (maxDischargeDepth := 30) [zu, a1, a2, a5]) ?_ | fail); simp) | (refine zb (fun hc => ?_) (fun hc => ?_) <;> try simp at hc) | fail)
    exact hf
end Go.Proofs.YtanimmdlgmkmkaaGreat.Av
namespace Go.Proofs.YtanimmdlgmkmkaaGreat.Av
open Go
set_option linter.unusedSimpArgs false
set_option linter.unusedVariables false
set_option maxRecDepth 100000
set_option maxHeartbeats 2000000
set_option pp.maxSteps 2500
theorem nnx {σ : St} {slot sz s : Nat} {o : Ob} : (σ.new slot sz o).nx s = if s = slot then σ.nx s + 1 else σ.nx s := rfl
def zbh : List Lk → Pt → Option Pt
  | [], _ => none
  | l :: ls, p => if l.a = p then some l.b else if l.b = p then some l.a else zbh ls p
theorem zkq (t : Tp) (f : Fl) (p : Pt) (hl : t.links.length < 2 ^ 60) :
    PCalls Tryz.prog 120 [zat t f, zQ p] (.tup [zQ ((zbh t.links p).getD ⟨0, 0⟩), .raw (.bool (zbh t.links p).isSome)]) := by
  refine zJ Tryz.func120 rfl (N := 43) rfl rfl (by simp) (by simp [noIds, zQ]) fun σ => ?_
  have ho1 : cellOK (zy t.ports f.p) = true := rfl
  have ho2 : cellOK (zw t.links f.l) = true := rfl
  simp only [cellOK] at ho1 ho2
  have hbin : ∀ x y : Pt, zae Tryz.prog .eql 41 (zQ x) (zQ y) = some (.raw (.bool (decide (x = y)))) := fun x y => by
    have e1 : zae Tryz.prog .eql 41 (zQ x) (zQ y) = if Tryz.prog.eqGuardType Tryz.prog.depth 41 = false then (zas Tryz.prog 4 41 (zQ x) (zQ y)).bind fun b => (zbQ .eql b).map .raw else none := rfl
    have := ziS x y
    rw [e1, if_pos zmU]
    rw [show zas Tryz.prog 4 41 (zQ x) (zQ y) = some (decide (x = y)) from this]
    rfl
  have hpc : ∀ q : Pt, (zQ q).cells = [.raw (.int .i64 q.dev), .raw (.int .i64 q.port)] := fun q => rfl
  have hn3 : (σ.new 2 2 (Ob.buf [zat t f])).nx 3 = σ.nx 3 := by simp [St.new]
  have hn4 : ((σ.new 2 2 (Ob.buf [zat t f])).new 3 2 (Ob.buf [zQ p])).nx 4 = σ.nx 4 := by simp [St.new]
  have hz : AV.agg [.raw (.int .i64 0), .raw (.int .i64 0)] = zQ ⟨0, 0⟩ := rfl
  (try ((first | with_reducible refine zh ?_ | with_reducible refine zm ?_ | with_reducible refine zo ?_); simp [zO, ho1, ho2, hpc])); repeat' (first | ((first | refine zd ?_ | refine zg ?_ | refine dN (by decide +kernel) ?_ | (refine za ?_ ?_ <;> (intro hg; simp only [hg])) | fail) <;> simp [zO, ho1, ho2, hpc]) | refine zf ?_ | refine zc ?_ | (refine zp ?_; simp only [zq]; try simp) | ((first | refine zl (by simp) ?_ | refine zx (by simp) (by simp) (by simp (maxDischargeDepth := 30) [zO, ho1, ho2, hpc]) ?_ | fail); simp) | (refine zb (fun hc => ?_) (fun hc => ?_) <;> try simp at hc) | fail)
  refine zZ (fun n A τ => τ = ((σ.new 2 2 (.buf [zat t f])).new 3 2 (.buf [zQ p])).new 4 2 (.buf [zQ ⟨0, 0⟩]) ∧ A 2 = .rp ⟨2, σ.nx 2, 2⟩ 0 0 ∧ A 3 = .rp ⟨3, σ.nx 3, 2⟩ 0 0 ∧ A 4 = .rp ⟨4, σ.nx 4, 2⟩ 0 0 ∧ A 5 = .raw (.bool false) ∧ ∃ i : Nat, A 6 = .raw (.int .i64 i) ∧ i ≤ t.links.length ∧ n = t.links.length - i ∧ zbh t.links p = zbh (t.links.drop i) p) t.links.length ?_ ?_
  · refine ⟨by simp [hz, hpc], by simp, by simp [hpc, hn3], by simp [hpc, hn4], by simp, 0, by simp, by omega, by omega, by simp⟩
  rintro n A τ ⟨rfl, a2, a3, a4, a5, i, a6, hi, rfl, hall⟩ I1 hI1
  obtain ⟨τ, hτ⟩ : ∃ τ, ((σ.new 2 2 (.buf [zat t f])).new 3 2 (.buf [zQ p])).new 4 2 (.buf [zQ ⟨0, 0⟩]) = τ := ⟨_, rfl⟩
  have m2 : τ.m ⟨2, σ.nx 2, 2⟩ = some (.buf [zat t f]) := by rw [← hτ]; simp [St.new]
  have m3 : τ.m ⟨3, σ.nx 3, 2⟩ = some (.buf [zQ p]) := by rw [← hτ]; simp [St.new]
  have m4 : τ.m ⟨4, σ.nx 4, 2⟩ = some (.buf [zQ ⟨0, 0⟩]) := by rw [← hτ]; simp [St.new]
  have fs : ∀ q, Ext σ (τ.set ⟨4, σ.nx 4, 2⟩ (.buf [zQ q])) := fun q => by
    rw [← hτ]
    repeat (first | exact Ext.refl _ | refine zv ?_ | refine Ext.setF ?_ (by simp [nnx, St.set, zk]))
  rw [hτ] at hI1 ⊢
  have hsp : ∀ x y : Int, setPart (zQ ⟨0, 0⟩) 0 [.raw (.int .i64 x), .raw (.int .i64 y)] = zQ ⟨x, y⟩ := fun _ _ => rfl
  have fa : ∀ l : Lk, AV.agg [.raw (.int .i64 l.a.dev), .raw (.int .i64 l.a.port)] = zQ l.a := fun _ => rfl
  have fb : ∀ l : Lk, AV.agg [.raw (.int .i64 l.b.dev), .raw (.int .i64 l.b.port)] = zQ l.b := fun _ => rfl
  have fp : ∀ q : Pt, AV.agg [.raw (.int .i64 q.dev), .raw (.int .i64 q.port)] = zQ q := fun _ => rfl
  by_cases hlt : i < t.links.length
  · have hx : t.links[i]? = some t.links[i] := List.getElem?_eq_getElem hlt
    have w1 : IntKind.i64.wrap ((i : Int) + 1) = ((i + 1 : Nat) : Int) := by rw [zU (by omega) (by omega)]; omega
    have hd : t.links.drop i = t.links[i] :: t.links.drop (i + 1) := List.drop_eq_getElem_cons hlt
    rw [hd] at hall
    simp only [zbh] at hall
    by_cases q1 : t.links[i].a = p
    · rw [if_pos q1] at hall
      rw [hall]
      (try ((first | with_reducible refine zh ?_ | with_reducible refine zm ?_ | with_reducible refine zo ?_); simp [zw, a2, a3, a4, a5, a6, hlt, hx, zO, m2, m3, m4, ho1, ho2, hpc, hsp, zaz, fa, fb, fp, -zae, hbin, zak, w1, q1])); repeat' (first | ((first | refine zd ?_ | refine zg ?_ | refine dN (by decide +kernel) ?_ | (refine za ?_ ?_ <;> (intro hg; simp only [hg])) | fail) <;> simp [zw, a2, a3, a4, a5, a6, hlt, hx, zO, m2, m3, m4, ho1, ho2, hpc, hsp, zaz, fa, fb, fp, -zae, hbin, zak, w1, q1]) | refine zf ?_ | refine zc ?_ | (refine zp ?_; simp only [zq]; try simp) | ((first | refine zl (by simp) ?_ | refine zx (by simp) (by simp) (by simp (maxDischargeDepth := 30) [zw, a2, a3, a4, a5, a6, hlt, hx, zO, m2, m3, m4, ho1, ho2, hpc, hsp, zaz, fa, fb, fp, -zae, hbin, zak, w1, q1]) ?_ | fail); simp) | (refine zb (fun hc => ?_) (fun hc => ?_) <;> try simp at hc) | fail)
      refine zx (.inr rfl) rfl (fs _) ?_
      simp [hsp, hpc, St.set, fp, a4, a5, m4]
    · by_cases q2 : t.links[i].b = p
      · rw [if_neg q1, if_pos q2] at hall
        rw [hall]
        (try ((first | with_reducible refine zh ?_ | with_reducible refine zm ?_ | with_reducible refine zo ?_); simp [zw, a2, a3, a4, a5, a6, hlt, hx, zO, m2, m3, m4, ho1, ho2, hpc, hsp, zaz, fa, fb, fp, -zae, hbin, zak, w1, q1, q2])); repeat' (first | ((first | refine zd ?_ | refine zg ?_ | refine dN (by decide +kernel) ?_ | (refine za ?_ ?_ <;> (intro hg; simp only [hg])) | fail) <;> simp [zw, a2, a3, a4, a5, a6, hlt, hx, zO, m2, m3, m4, ho1, ho2, hpc, hsp, zaz, fa, fb, fp, -zae, hbin, zak, w1, q1, q2]) | refine zf ?_ | refine zc ?_ | (refine zp ?_; simp only [zq]; try simp) | ((first | refine zl (by simp) ?_ | refine zx (by simp) (by simp) (by simp (maxDischargeDepth := 30) [zw, a2, a3, a4, a5, a6, hlt, hx, zO, m2, m3, m4, ho1, ho2, hpc, hsp, zaz, fa, fb, fp, -zae, hbin, zak, w1, q1, q2]) ?_ | fail); simp) | (refine zb (fun hc => ?_) (fun hc => ?_) <;> try simp at hc) | fail)
        refine zx (.inr rfl) rfl (fs _) ?_
        simp [hsp, hpc, St.set, fp, a4, a5, m4]
      · rw [if_neg q1, if_neg q2] at hall
        (try ((first | with_reducible refine zh ?_ | with_reducible refine zm ?_ | with_reducible refine zo ?_); simp [zw, a2, a3, a4, a5, a6, hlt, hx, zO, m2, m3, m4, ho1, ho2, hpc, hsp, zaz, fa, fb, fp, -zae, hbin, zak, w1, q1, q2])); repeat' (first | ((first | refine zd ?_ | refine zg ?_ | refine dN (by decide +kernel) ?_ | (refine za ?_ ?_ <;> (intro hg; simp only [hg])) | fail) <;> simp [zw, a2, a3, a4, a5, a6, hlt, hx, zO, m2, m3, m4, ho1, ho2, hpc, hsp, zaz, fa, fb, fp, -zae, hbin, zak, w1, q1, q2]) | refine zf ?_ | refine zc ?_ | (refine zp ?_; simp only [zq]; try simp) | ((first | refine zl (by simp) ?_ | refine zx (by simp) (by simp) (by simp (maxDischargeDepth := 30) [zw, a2, a3, a4, a5, a6, hlt, hx, zO, m2, m3, m4, ho1, ho2, hpc, hsp, zaz, fa, fb, fp, -zae, hbin, zak, w1, q1, q2]) ?_ | fail); simp) | (refine zb (fun hc => ?_) (fun hc => ?_) <;> try simp at hc) | fail)
        exact hI1 (t.links.length - (i + 1)) _ _ (by omega) ⟨rfl, by simp [a2], by simp [a3], by simp [a4], by simp [a5], i + 1, by simp, by omega, rfl, hall⟩
  · have : i = t.links.length := by omega
    subst this
    rw [List.drop_length] at hall
    simp only [zbh] at hall
    rw [hall]
    (try ((first | with_reducible refine zh ?_ | with_reducible refine zm ?_ | with_reducible refine zo ?_); simp [zw, a2, a3, a4, a5, a6, m2, m3, m4, zO, ho1, ho2, hpc, hz, hsp])); repeat' (first | ((first | refine zd ?_ | refine zg ?_ | refine dN (by decide +kernel) ?_ | (refine za ?_ ?_ <;> (intro hg; simp only [hg])) | fail) <;> simp [zw, a2, a3, a4, a5, a6, m2, m3, m4, zO, ho1, ho2, hpc, hz, hsp]) | refine zf ?_ | refine zc ?_ | (refine zp ?_; simp only [zq]; try simp) | ((first | refine zl (by simp) ?_ | refine zx (by simp) (by simp) (by simp (maxDischargeDepth := 30) [zw, a2, a3, a4, a5, a6, m2, m3, m4, zO, ho1, ho2, hpc, hz, hsp]) ?_ | fail); simp) | (refine zb (fun hc => ?_) (fun hc => ?_) <;> try simp at hc) | fail)
    refine zx (.inr rfl) rfl (fs _) ?_
    simp [hsp, hpc, St.set, fp, a4, a5, m4]
    rfl
end Go.Proofs.YtanimmdlgmkmkaaGreat.Av
namespace Go.Proofs.YtanimmdlgmkmkaaGreat.Av
open Go
set_option linter.unusedSimpArgs false
set_option linter.unusedVariables false
set_option maxRecDepth 100000
set_option maxHeartbeats 2000000
set_option pp.maxSteps 600
structure Tk where
  path : List Int
  out : Int
  last : Pt
deriving DecidableEq
def tkAV (t : Tk) (f : Bool) : AV := .agg [zy t.path f, .raw (.int .i64 t.out), .raw (.int .i64 t.last.dev), .raw (.int .i64 t.last.port)]
end Go.Proofs.YtanimmdlgmkmkaaGreat.Av
namespace Go.Proofs.YtanimmdlgmkmkaaGreat.Av
open Go
set_option linter.unusedSimpArgs false
set_option linter.unusedVariables false
set_option maxRecDepth 100000
set_option maxHeartbeats 1000000
set_option pp.maxSteps 300
theorem zoB (a b : Int) (f : Bool) : PCalls Tryz.prog 242 [zy [a, b] f] (.raw (.int .i64 (if a = 0 then b else a))) := by
  refine zJ Tryz.func242 rfl (N := 18) rfl rfl (by simp) (by simp [noIds]) fun σ => ?_
  (try ((first | with_reducible refine zh ?_ | with_reducible refine zm ?_ | with_reducible refine zo ?_); simp [zy, iAV])); repeat' (first | ((first | refine zd ?_ | refine zg ?_ | refine dN (by decide +kernel) ?_ | (refine za ?_ ?_ <;> (intro hg; simp only [hg])) | fail) <;> simp [zy, iAV]) | refine zf ?_ | refine zc ?_ | (refine zp ?_; simp only [zq]; try simp) | ((first | refine zl (by simp) ?_ | refine zx (by simp) (by simp) (by simp (maxDischargeDepth := 30) [zy, iAV]) ?_ | fail); simp) | (refine zb (fun hc => ?_) (fun hc => ?_) <;> try simp at hc) | fail)
  refine zZ (fun n A τ => τ = σ ∧ A 3 = .raw (.int .i64 0) ∧ A 6 = zy [a, b] f ∧ A 7 = .raw (.int .i64 2) ∧ ∃ i : Nat, A 8 = .raw (.int .i64 i) ∧ i ≤ 2 ∧ n = 2 - i ∧ (0 < i → a = 0) ∧ (1 < i → b = 0)) 2 ?_ ?_
  · exact ⟨by simp, by simp, by simp [zy, iAV], by simp, 0, by simp, by omega, by omega, fun h => by omega, fun h => by omega⟩
  rintro n A τ ⟨rfl, a3, a6, a7, i, a8, hi, rfl, h0, h1⟩ I1 hI1
  by_cases hlt : i < 2
  · rcases (show i = 0 ∨ i = 1 by omega) with rfl | rfl
    · have w1 : IntKind.i64.wrap 1 = 1 := zU (by omega) (by omega)
      (try ((first | with_reducible refine zh ?_ | with_reducible refine zm ?_ | with_reducible refine zo ?_); simp [a3, a6, a7, a8, zy, iAV, w1])); repeat' (first | ((first | refine zd ?_ | refine zg ?_ | refine dN (by decide +kernel) ?_ | (refine za ?_ ?_ <;> (intro hg; simp only [hg])) | fail) <;> simp [a3, a6, a7, a8, zy, iAV, w1]) | refine zf ?_ | refine zc ?_ | (refine zp ?_; simp only [zq]; try simp) | ((first | refine zl (by simp) ?_ | refine zx (by simp) (by simp) (by simp (maxDischargeDepth := 30) [a3, a6, a7, a8, zy, iAV, w1]) ?_ | fail); simp) | (refine zb (fun hc => ?_) (fun hc => ?_) <;> try simp at hc) | fail)
      · simp_all
      · exact hI1 1 _ _ (by omega) ⟨by simp, by simp [a3], by simp [a6, zy, iAV], by simp [a7], 1, by simp, by omega, by omega, fun _ => by simpa using hc, fun h => by omega⟩
    · have ha := h0 (by omega)
      have w1 : IntKind.i64.wrap 2 = 2 := zU (by omega) (by omega)
      (try ((first | with_reducible refine zh ?_ | with_reducible refine zm ?_ | with_reducible refine zo ?_); simp [a3, a6, a7, a8, zy, iAV, w1])); repeat' (first | ((first | refine zd ?_ | refine zg ?_ | refine dN (by decide +kernel) ?_ | (refine za ?_ ?_ <;> (intro hg; simp only [hg])) | fail) <;> simp [a3, a6, a7, a8, zy, iAV, w1]) | refine zf ?_ | refine zc ?_ | (refine zp ?_; simp only [zq]; try simp) | ((first | refine zl (by simp) ?_ | refine zx (by simp) (by simp) (by simp (maxDischargeDepth := 30) [a3, a6, a7, a8, zy, iAV, w1]) ?_ | fail); simp) | (refine zb (fun hc => ?_) (fun hc => ?_) <;> try simp at hc) | fail)
      · simp_all
      · exact hI1 0 _ _ (by omega) ⟨by simp, by simp [a3], by simp [a6, zy, iAV], by simp [a7], 2, by simp, by omega, by omega, fun _ => ha, fun _ => by simpa using hc⟩
  · have : i = 2 := by omega
    subst this
    have ha := h0 (by omega)
    have hb := h1 (by omega)
    subst ha; subst hb
    (try ((first | with_reducible refine zh ?_ | with_reducible refine zm ?_ | with_reducible refine zo ?_); simp [a3, a6, a7, a8, zy, iAV])); repeat' (first | ((first | refine zd ?_ | refine zg ?_ | refine dN (by decide +kernel) ?_ | (refine za ?_ ?_ <;> (intro hg; simp only [hg])) | fail) <;> simp [a3, a6, a7, a8, zy, iAV]) | refine zf ?_ | refine zc ?_ | (refine zp ?_; simp only [zq]; try simp) | ((first | refine zl (by simp) ?_ | refine zx (by simp) (by simp) (by simp (maxDischargeDepth := 30) [a3, a6, a7, a8, zy, iAV]) ?_ | fail); simp) | (refine zb (fun hc => ?_) (fun hc => ?_) <;> try simp at hc) | fail)
def zcm (r : Ru) : Bool := decide (1 ≤ r.id) && decide (r.id ≤ 1048576) && (decide (0 ≤ r.dev) && decide (r.dev ≤ 7)) && (decide (0 ≤ r.prio) && decide (r.prio ≤ 1024)) && (decide (0 ≤ r.kind) && decide (r.kind ≤ 3)) &&
  (decide (0 ≤ r.port) && decide (r.port ≤ 3)) && (decide (r.kind = 0) || decide (r.port = 0)) && decide (r.r.lo ≤ r.r.hi)
theorem ziT (r : Ru) : PCalls Tryz.prog 178 [zE r] (.raw (.bool (zcm r))) := by
  obtain ⟨b1, h1⟩ : ∃ b, (decide (1 ≤ r.id) && decide (r.id ≤ 1048576)) = b := ⟨_, rfl⟩
  obtain ⟨b2, h2⟩ : ∃ b, (decide (0 ≤ r.dev) && decide (r.dev ≤ 7)) = b := ⟨_, rfl⟩
  obtain ⟨b3, h3⟩ : ∃ b, (decide (0 ≤ r.prio) && decide (r.prio ≤ 1024)) = b := ⟨_, rfl⟩
  obtain ⟨b4, h4⟩ : ∃ b, (decide (0 ≤ r.kind) && decide (r.kind ≤ 3)) = b := ⟨_, rfl⟩
  obtain ⟨b5, h5⟩ : ∃ b, (decide (0 ≤ r.port) && decide (r.port ≤ 3)) = b := ⟨_, rfl⟩
  obtain ⟨b6, h6⟩ : ∃ b, decide (r.kind = 0) = b := ⟨_, rfl⟩
  obtain ⟨b7, h7⟩ : ∃ b, decide (r.port = 0) = b := ⟨_, rfl⟩
  obtain ⟨b8, h8⟩ : ∃ b, decide (r.r.lo ≤ r.r.hi) = b := ⟨_, rfl⟩
  have c1 := h1 ▸ zcX r.id 1 1048576
  have c2 := h2 ▸ zcX r.dev 0 7
  have c3 := h3 ▸ zcX r.prio 0 1024
  have c4 := h4 ▸ zcX r.kind 0 3
  have c5 := h5 ▸ zcX r.port 0 3
  have e : zcm r = (b1 && b2 && b3 && b4 && b5 && (b6 || b7) && b8) := by unfold zcm; rw [h1, h2, h3, h4, h5, h6, h7, h8]
  rw [e]
  clear e
  refine zJ Tryz.func178 rfl (N := 49) rfl rfl (by simp) (by simp [noIds]) fun σ => ?_
  (try ((first | with_reducible refine zh ?_ | with_reducible refine zm ?_ | with_reducible refine zo ?_); simp [zE, h6, h7, h8])); repeat' (first | ((first | refine zd ?_ | refine zg ?_ | refine dN (by decide +kernel) ?_ | (refine za ?_ ?_ <;> (intro hg; simp only [hg])) | fail) <;> simp [zE, h6, h7, h8]) | refine zf ?_ | refine zc ?_ | (refine zp ?_; simp only [zq]; try simp) | ((first | refine zl (by simp) ?_ | refine zx (by simp) (by simp) (by simp (maxDischargeDepth := 30) [zE, h6, h7, h8]) ?_ | fail); simp) | (refine zb (fun hc => ?_) (fun hc => ?_) <;> try simp at hc) | fail)
  repeat' (first | refine PCalls.use c1 ?_ | refine PCalls.use c2 ?_ | refine PCalls.use c3 ?_ | refine PCalls.use c4 ?_ | refine PCalls.use c5 ?_); all_goals (try ((first | with_reducible refine zh ?_ | with_reducible refine zm ?_ | with_reducible refine zo ?_); simp [zE, h6, h7, h8])); repeat' (first | ((first | refine zd ?_ | refine zg ?_ | refine dN (by decide +kernel) ?_ | (refine za ?_ ?_ <;> (intro hg; simp only [hg])) | fail) <;> simp [zE, h6, h7, h8]) | refine zf ?_ | refine zc ?_ | (refine zp ?_; simp only [zq]; try simp) | ((first | refine zl (by simp) ?_ | refine zx (by simp) (by simp) (by simp (maxDischargeDepth := 30) [zE, h6, h7, h8]) ?_ | fail); simp) | (refine zb (fun hc => ?_) (fun hc => ?_) <;> try simp at hc) | fail)
theorem zgZ (r : Ru) (hr : -9223372036854775808 ≤ r.id) (hr2 : r.id < 9223372036854775808) : PCalls Tryz.prog 172 [zE r] (.raw (.bool (zcm r))) := by
  obtain ⟨b1, h1⟩ : ∃ b, (decide (0 ≤ r.id - 1) && decide (r.id - 1 ≤ 1048575)) = b := ⟨_, rfl⟩
  obtain ⟨b2, h2⟩ : ∃ b, (decide (0 ≤ r.dev) && decide (r.dev ≤ 7)) = b := ⟨_, rfl⟩
  obtain ⟨b3, h3⟩ : ∃ b, (decide (0 ≤ r.prio) && decide (r.prio ≤ 1024)) = b := ⟨_, rfl⟩
  obtain ⟨b4, h4⟩ : ∃ b, (decide (0 ≤ r.kind) && decide (r.kind ≤ 3)) = b := ⟨_, rfl⟩
  obtain ⟨b5, h5⟩ : ∃ b, (decide (0 ≤ r.port) && decide (r.port ≤ 3)) = b := ⟨_, rfl⟩
  obtain ⟨b6, h6⟩ : ∃ b, decide (r.kind = 0) = b := ⟨_, rfl⟩
  obtain ⟨b7, h7⟩ : ∃ b, decide (r.port = 0) = b := ⟨_, rfl⟩
  obtain ⟨b8, h8⟩ : ∃ b, decide (r.r.lo ≤ r.r.hi) = b := ⟨_, rfl⟩
  obtain ⟨X, w⟩ : ∃ X, IntKind.i64.wrap (r.id - 1) = X := ⟨_, rfl⟩
  have hX : (decide (0 ≤ X) && decide (X ≤ 1048575)) = b1 := by
    by_cases q : r.id = -9223372036854775808
    · have e : X = 9223372036854775807 := by rw [← w, q]; decide
      rw [← h1, e, q]; decide
    · rw [← w, zU (by omega) (by omega)]; exact h1
  have c1 := hX ▸ zcf X 1048575
  have c2 := h2 ▸ zcf r.dev 7
  have c3 := h3 ▸ zcf r.prio 1024
  have c4 := h4 ▸ zcf r.kind 3
  have c5 := h5 ▸ zcf r.port 3
  have e : zcm r = (b1 && b2 && b3 && b4 && b5 && (b6 || b7) && b8) := by
    unfold zcm; rw [← h1, h2, h3, h4, h5, h6, h7, h8]
    rw [show decide (0 ≤ r.id - 1) = decide (1 ≤ r.id) by (congr 1; exact propext (by omega)), show decide (r.id - 1 ≤ 1048575) = decide (r.id ≤ 1048576) by (congr 1; exact propext (by omega))]
  rw [e]
  clear e
  refine zJ Tryz.func172 rfl (N := 52) rfl rfl (by simp) (by simp [noIds]) fun σ => ?_
  (try ((first | with_reducible refine zh ?_ | with_reducible refine zm ?_ | with_reducible refine zo ?_); simp [zE, h6, h7, h8, w])); repeat' (first | ((first | refine zd ?_ | refine zg ?_ | refine dN (by decide +kernel) ?_ | (refine za ?_ ?_ <;> (intro hg; simp only [hg])) | fail) <;> simp [zE, h6, h7, h8, w]) | refine zf ?_ | refine zc ?_ | (refine zp ?_; simp only [zq]; try simp) | ((first | refine zl (by simp) ?_ | refine zx (by simp) (by simp) (by simp (maxDischargeDepth := 30) [zE, h6, h7, h8, w]) ?_ | fail); simp) | (refine zb (fun hc => ?_) (fun hc => ?_) <;> try simp at hc) | fail)
  repeat' (first | refine PCalls.use c1 ?_ | refine PCalls.use c2 ?_ | refine PCalls.use c3 ?_ | refine PCalls.use c4 ?_ | refine PCalls.use c5 ?_); all_goals (try ((first | with_reducible refine zh ?_ | with_reducible refine zm ?_ | with_reducible refine zo ?_); simp [zE, h6, h7, h8, w])); repeat' (first | ((first | refine zd ?_ | refine zg ?_ | refine dN (by decide +kernel) ?_ | (refine za ?_ ?_ <;> (intro hg; simp only [hg])) | fail) <;> simp [zE, h6, h7, h8, w]) | refine zf ?_ | refine zc ?_ | (refine zp ?_; simp only [zq]; try simp) | ((first | refine zl (by simp) ?_ | refine zx (by simp) (by simp) (by simp (maxDischargeDepth := 30) [zE, h6, h7, h8, w]) ?_ | fail); simp) | (refine zb (fun hc => ?_) (fun hc => ?_) <;> try simp at hc) | fail)
def zdK (x y : Ru) : Int := if cmpI y.prio x.prio = 0 then cmpI x.id y.id else cmpI y.prio x.prio
theorem zl6 (x y : Ru) : PCalls Tryz.prog 235 [zE x, zE y] (.raw (.int .i64 (zdK x y))) := by
  refine zJ Tryz.func235 rfl (N := 17) rfl rfl (by simp) (by simp [noIds]) fun σ => ?_
  (try ((first | with_reducible refine zh ?_ | with_reducible refine zm ?_ | with_reducible refine zo ?_); simp [zE])); repeat' (first | ((first | refine zd ?_ | refine zg ?_ | refine dN (by decide +kernel) ?_ | (refine za ?_ ?_ <;> (intro hg; simp only [hg])) | fail) <;> simp [zE]) | refine zf ?_ | refine zc ?_ | (refine zp ?_; simp only [zq]; try simp) | ((first | refine zl (by simp) ?_ | refine zx (by simp) (by simp) (by simp (maxDischargeDepth := 30) [zE]) ?_ | fail); simp) | (refine zb (fun hc => ?_) (fun hc => ?_) <;> try simp at hc) | fail)
  refine zdt (fun o => o.dst == some 9 || o.dst == some 14 || o.dst == some 16) zhn (by decide +kernel) ?_
  (try ((first | with_reducible refine zh ?_ | with_reducible refine zm ?_ | with_reducible refine zo ?_); simp [zE])); repeat' (first | ((first | refine zd ?_ | refine zg ?_ | refine dN (by decide +kernel) ?_ | (refine za ?_ ?_ <;> (intro hg; simp only [hg])) | fail) <;> simp [zE]) | refine zf ?_ | refine zc ?_ | (refine zp ?_; simp only [zq]; try simp) | ((first | refine zl (by simp) ?_ | refine zx (by simp) (by simp) (by simp (maxDischargeDepth := 30) [zE]) ?_ | fail); simp) | (refine zb (fun hc => ?_) (fun hc => ?_) <;> try simp at hc) | fail)
  refine .inl ⟨_, .inl (zen _ _), ?_⟩
  (try ((first | with_reducible refine zh ?_ | with_reducible refine zm ?_ | with_reducible refine zo ?_); simp [zE])); repeat' (first | ((first | refine zd ?_ | refine zg ?_ | refine dN (by decide +kernel) ?_ | (refine za ?_ ?_ <;> (intro hg; simp only [hg])) | fail) <;> simp [zE]) | refine zf ?_ | refine zc ?_ | (refine zp ?_; simp only [zq]; try simp) | ((first | refine zl (by simp) ?_ | refine zx (by simp) (by simp) (by simp (maxDischargeDepth := 30) [zE]) ?_ | fail); simp) | (refine zb (fun hc => ?_) (fun hc => ?_) <;> try simp at hc) | fail)
  refine .inl ⟨_, .inl (zen _ _), ?_⟩
  (try ((first | with_reducible refine zh ?_ | with_reducible refine zm ?_ | with_reducible refine zo ?_); simp [zE])); repeat' (first | ((first | refine zd ?_ | refine zg ?_ | refine dN (by decide +kernel) ?_ | (refine za ?_ ?_ <;> (intro hg; simp only [hg])) | fail) <;> simp [zE]) | refine zf ?_ | refine zc ?_ | (refine zp ?_; simp only [zq]; try simp) | ((first | refine zl (by simp) ?_ | refine zx (by simp) (by simp) (by simp (maxDischargeDepth := 30) [zE]) ?_ | fail); simp) | (refine zb (fun hc => ?_) (fun hc => ?_) <;> try simp at hc) | fail)
  refine .inl ⟨_, .inr ⟨[zy [cmpI y.prio x.prio, cmpI x.id y.id] false], ?_, zoB _ _ _, rfl⟩, ?_⟩
  · exact ⟨_, _, rfl, .inr ⟨[.raw (.int .i64 (cmpI y.prio x.prio)), .raw (.int .i64 (cmpI x.id y.id))], by simp [St.new], by simp, by simp [zy, iAV]⟩, rfl⟩
  unfold zdK
  simp
  refine zml ?_
  refine zx (.inr rfl) rfl (by simp (maxDischargeDepth := 30)) ?_
  simp
end Go.Proofs.YtanimmdlgmkmkaaGreat.Av
namespace Go.Proofs.YtanimmdlgmkmkaaGreat.Av
open Go
set_option linter.unusedSimpArgs false
set_option linter.unusedVariables false
set_option maxRecDepth 100000
set_option maxHeartbeats 2000000
set_option pp.maxSteps 300
theorem ziU {P : Program} {f : FuncId} {sz : Nat} {fl : Bool} {σ : St} {K : AV → St → Prop} (h : ∀ b cap, ACalls P f [.raw (.slice b 0 cap)] σ K) : ACalls P f [.sl sz [] fl] σ K := by
  refine ⟨(h none 0).1, fun S vs hS hl => ?_⟩
  simp only [LRel, VRel] at hl
  obtain ⟨v, us, rfl, ⟨base, cap, rfl, _⟩, rfl⟩ := hl
  exact (h base cap).2 S _ hS ⟨_, _, rfl, rfl, rfl⟩
theorem ziV : ∀ z : List Ru, z8 (zM (z.map zE)) = true := fun z => by
  induction z with
  | nil => rfl
  | cons r z ih => simp [zM, zE, z8, cellOK] at ih ⊢; try exact ih
theorem zgx (l : List Ru) (f : Bool) {σ : St} {K : AV → St → Prop} (hl : l.length < 2932031007403) (h : ∀ v τ, OwnL σ τ 7 v (l.map zE) → Ext σ τ → K v τ) : ACalls Tryz.prog 129 [zu l f] σ K := by
  cases l with
  | nil =>
    simp only [zu, List.map_nil]
    refine ziU fun b cap => ?_
    refine zeC Tryz.func129 rfl (N := 8) rfl rfl (by simp) ?_
    cases b with
    | none =>
      (try ((first | with_reducible refine zh ?_ | with_reducible refine zm ?_ | with_reducible refine zo ?_); simp)); repeat' (first | ((first | refine zd ?_ | refine zg ?_ | refine dN (by decide +kernel) ?_ | (refine za ?_ ?_ <;> (intro hg; simp only [hg])) | fail) <;> simp) | refine zf ?_ | refine zc ?_ | (refine zp ?_; simp only [zq]; try simp) | (refine zb (fun hc => ?_) (fun hc => ?_) <;> try simp at hc) | fail)
      exact zbH (.inr rfl) (by simp) (h _ _ OwnL.nil (Ext.refl _))
    | some b =>
      (try ((first | with_reducible refine zh ?_ | with_reducible refine zm ?_ | with_reducible refine zo ?_); simp [-zG])); repeat' (first | ((first | refine zd ?_ | refine zg ?_ | refine dN (by decide +kernel) ?_ | (refine za ?_ ?_ <;> (intro hg; simp only [hg])) | fail) <;> simp [-zG]) | refine zf ?_ | refine zc ?_ | (refine zp ?_; simp only [zq]; try simp) | (refine zb (fun hc => ?_) (fun hc => ?_) <;> try simp at hc) | fail)
      refine zal zce (σ0 := σ) (es := []) (OwnL.of rfl (by simp) (zk _ _ _) rfl) (Ext.new _ _ _ _) (ys := []) (by simp) (.inl rfl) rfl (by simp) ?_
      intro v1 τ1 hO1 hE1 _ _
      rw [List.nil_append] at hO1
      (try ((first | with_reducible refine zh ?_ | with_reducible refine zm ?_ | with_reducible refine zo ?_); simp [-zG])); repeat' (first | ((first | refine zd ?_ | refine zg ?_ | refine dN (by decide +kernel) ?_ | (refine za ?_ ?_ <;> (intro hg; simp only [hg])) | fail) <;> simp [-zG]) | refine zf ?_ | refine zc ?_ | (refine zp ?_; simp only [zq]; try simp) | (refine zb (fun hc => ?_) (fun hc => ?_) <;> try simp at hc) | fail)
      exact zbH (.inr rfl) (by simp) (h _ _ hO1 hE1)
  | cons r l =>
    refine zeC Tryz.func129 rfl (N := 8) rfl rfl (by simp) ?_
    (try ((first | with_reducible refine zh ?_ | with_reducible refine zm ?_ | with_reducible refine zo ?_); simp [zu, -zG])); repeat' (first | ((first | refine zd ?_ | refine zg ?_ | refine dN (by decide +kernel) ?_ | (refine za ?_ ?_ <;> (intro hg; simp only [hg])) | fail) <;> simp [zu, -zG]) | refine zf ?_ | refine zc ?_ | (refine zp ?_; simp only [zq]; try simp) | (refine zb (fun hc => ?_) (fun hc => ?_) <;> try simp at hc) | fail)
    refine zal zce (σ0 := σ) (es := []) (OwnL.of rfl (by simp) (zk _ _ _) rfl) (Ext.new _ _ _ _) (ys := (r :: l).map zE) (by simp) (.inr rfl) (ziV _) (by simp at hl ⊢; omega) ?_
    intro v1 τ1 hO1 hE1 _ _
    rw [List.nil_append] at hO1
    (try ((first | with_reducible refine zh ?_ | with_reducible refine zm ?_ | with_reducible refine zo ?_); simp [-zG])); repeat' (first | ((first | refine zd ?_ | refine zg ?_ | refine dN (by decide +kernel) ?_ | (refine za ?_ ?_ <;> (intro hg; simp only [hg])) | fail) <;> simp [-zG]) | refine zf ?_ | refine zc ?_ | (refine zp ?_; simp only [zq]; try simp) | (refine zb (fun hc => ?_) (fun hc => ?_) <;> try simp at hc) | fail)
    exact zbH (.inr rfl) (by simp) (h _ _ hO1 hE1)
def zbb : List Ru → Ru
  | [] => ⟨0, 0, 0, 0, ⟨0, 0⟩, 0⟩
  | r :: l => l.foldl (fun m x => if zdK x m < 0 then x else m) r
theorem zjY {z : List Ru} {k : Nat} {x : Ru} (h1 : 1 ≤ k) (hx : z[k]? = some x) : zbb (z.take (k + 1)) = if zdK x (zbb (z.take k)) < 0 then x else zbb (z.take k) := by
  rw [List.take_add_one, hx]
  cases z with
  | nil => simp at hx
  | cons r l =>
    obtain ⟨j, rfl⟩ : ∃ j, k = j + 1 := ⟨k - 1, by omega⟩
    simp [zbb, List.foldl_append]
    rfl
theorem zA (x : Ru) : AV.agg [.raw (.int .i64 x.id), .raw (.int .i64 x.dev), .raw (.int .i64 x.prio), .raw (.int .i64 x.kind), .raw (.int .u32 x.r.lo), .raw (.int .u32 x.r.hi), .raw (.int .i64 x.port)] = zE x := rfl
theorem zbv (a b : Ru) : setPart (zE a) 0 [.raw (.int .i64 b.id), .raw (.int .i64 b.dev), .raw (.int .i64 b.prio), .raw (.int .i64 b.kind), .raw (.int .u32 b.r.lo), .raw (.int .u32 b.r.hi), .raw (.int .i64 b.port)] = zE b := rfl
theorem zV (a : Ru) : z8 (zE a).cells = true := rfl
theorem zkr (z : List Ru) (hne : z ≠ []) (f : Bool) (hl : z.length < 2932031007403) : PCalls Tryz.prog 234 [zu z f, .fn (.func 235) [] []] (zE (zbb z)) := by
  refine zJ Tryz.func234 rfl (N := 33) rfl rfl (by simp) (by simp [noIds, zE]) fun σ => ?_
  have hpos : 0 < z.length := List.length_pos_iff.2 hne
  have hx0 : z[0]? = some z[0] := List.getElem?_eq_getElem hpos
  have hlt1 : ¬ ((z.length : Int) < 1) := by omega
  (try ((first | with_reducible refine zh ?_ | with_reducible refine zm ?_ | with_reducible refine zo ?_); simp [zu, zs, hx0, hlt1, hpos])); repeat' (first | ((first | refine zd ?_ | refine zg ?_ | refine dN (by decide +kernel) ?_ | (refine za ?_ ?_ <;> (intro hg; simp only [hg])) | fail) <;> simp [zu, zs, hx0, hlt1, hpos]) | refine zf ?_ | refine zc ?_ | (refine zp ?_; simp only [zq]; try simp) | ((first | refine zl (by simp) ?_ | refine zx (by simp) (by simp) (by simp (maxDischargeDepth := 30) [zu, zs, hx0, hlt1, hpos]) ?_ | fail); simp) | (refine zb (fun hc => ?_) (fun hc => ?_) <;> try simp at hc) | fail)
  refine zZ (fun n A τ => A 0 = zu z f ∧ A 1 = .fn (.func 235) [] [] ∧ A 4 = .rp ⟨4, σ.nx 4, 7⟩ 0 0 ∧ A 5 = .rp ⟨5, σ.nx 5, 7⟩ 0 0 ∧ (∃ y, τ.m ⟨4, σ.nx 4, 7⟩ = some (.buf [zE y])) ∧ Ext σ τ ∧
    ∃ (k : Nat), A 6 = .raw (.int .i64 k) ∧ 1 ≤ k ∧ k ≤ z.length ∧ τ.m ⟨5, σ.nx 5, 7⟩ = some (.buf [zE (zbb (z.take k))]) ∧ n = z.length - k) (z.length - 1) ?_ ?_
  · refine ⟨by simp [zu], by simp, by simp, by simp [St.new], ⟨⟨0, 0, 0, 0, ⟨0, 0⟩, 0⟩, ?_⟩, ?_, 1, by simp, by omega, by omega, ?_, ?_⟩
    · simp [St.new, St.set, zE]
    · refine Ext.setF (by simp (maxDischargeDepth := 30)) ?_
      have := zk σ 5 7
      simpa [St.new] using this
    · have e : z.take 1 = [z[0]] := by
        cases z with
        | nil => exact absurd rfl hne
        | cons r l => rfl
      rw [e]
      simp [St.new, St.set, zbb, zE]
    · rfl
  rintro n A τ ⟨a0, a1, a4, a5, ⟨y, m4⟩, hE, k, a6, h1, hk, m5, rfl⟩ I1 hI1
  have f4 : σ.m ⟨4, σ.nx 4, 7⟩ = none := zk _ _ _
  have f5 : σ.m ⟨5, σ.nx 5, 7⟩ = none := zk _ _ _
  by_cases hlt : k < z.length
  · have hx : z[k]? = some z[k] := List.getElem?_eq_getElem hlt
    have w1 : IntKind.i64.wrap ((k : Int) + 1) = ((k + 1 : Nat) : Int) := by rw [zU (by omega) (by omega)]; omega
    (try ((first | with_reducible refine zh ?_ | with_reducible refine zm ?_ | with_reducible refine zo ?_); simp [zu, a0, a1, a4, a5, a6, hlt, hx, m4, m5, zs, zA])); repeat' (first | ((first | refine zd ?_ | refine zg ?_ | refine dN (by decide +kernel) ?_ | (refine za ?_ ?_ <;> (intro hg; simp only [hg])) | fail) <;> simp [zu, a0, a1, a4, a5, a6, hlt, hx, m4, m5, zs, zA]) | refine zf ?_ | refine zc ?_ | (refine zp ?_; simp only [zq]; try simp) | ((first | refine zl (by simp) ?_ | refine zx (by simp) (by simp) (by simp (maxDischargeDepth := 30) [zu, a0, a1, a4, a5, a6, hlt, hx, m4, m5, zs, zA]) ?_ | fail); simp) | (refine zb (fun hc => ?_) (fun hc => ?_) <;> try simp at hc) | fail)
    refine PCalls.use (zl6 _ _) ?_
    by_cases hs : zdK z[k] (zbb (z.take k)) < 0
    · (try ((first | with_reducible refine zh ?_ | with_reducible refine zm ?_ | with_reducible refine zo ?_); simp [zu, a0, a1, a4, a5, a6, hlt, hx, m4, m5, zs, zA, zbv, hs, w1])); repeat' (first | ((first | refine zd ?_ | refine zg ?_ | refine dN (by decide +kernel) ?_ | (refine za ?_ ?_ <;> (intro hg; simp only [hg])) | fail) <;> simp [zu, a0, a1, a4, a5, a6, hlt, hx, m4, m5, zs, zA, zbv, hs, w1]) | refine zf ?_ | refine zc ?_ | (refine zp ?_; simp only [zq]; try simp) | ((first | refine zl (by simp) ?_ | refine zx (by simp) (by simp) (by simp (maxDischargeDepth := 30) [zu, a0, a1, a4, a5, a6, hlt, hx, m4, m5, zs, zA, zbv, hs, w1]) ?_ | fail); simp) | (refine zb (fun hc => ?_) (fun hc => ?_) <;> try simp at hc) | fail)
      exact hI1 (z.length - (k + 1)) _ _ (by omega) ⟨by simp [a0], by simp [a1], by simp [a4], by simp [a5], ⟨y, by rw [zbg (by simp)]; exact m4⟩, hE.setF f5, k + 1, by simp, by omega, by omega, by rw [zbC m5, zjY h1 hx, if_pos hs], rfl⟩
    · (try ((first | with_reducible refine zh ?_ | with_reducible refine zm ?_ | with_reducible refine zo ?_); simp [zu, a0, a1, a4, a5, a6, hlt, hx, m4, m5, zs, zA, zbv, hs, w1])); repeat' (first | ((first | refine zd ?_ | refine zg ?_ | refine dN (by decide +kernel) ?_ | (refine za ?_ ?_ <;> (intro hg; simp only [hg])) | fail) <;> simp [zu, a0, a1, a4, a5, a6, hlt, hx, m4, m5, zs, zA, zbv, hs, w1]) | refine zf ?_ | refine zc ?_ | (refine zp ?_; simp only [zq]; try simp) | ((first | refine zl (by simp) ?_ | refine zx (by simp) (by simp) (by simp (maxDischargeDepth := 30) [zu, a0, a1, a4, a5, a6, hlt, hx, m4, m5, zs, zA, zbv, hs, w1]) ?_ | fail); simp) | (refine zb (fun hc => ?_) (fun hc => ?_) <;> try simp at hc) | fail)
      exact hI1 (z.length - (k + 1)) _ _ (by omega) ⟨by simp [a0], by simp [a1], by simp [a4], by simp [a5], ⟨y, m4⟩, hE, k + 1, by simp, by omega, by omega, by rw [m5, zjY h1 hx, if_neg hs], rfl⟩
  · have : k = z.length := by omega
    subst this
    rw [List.take_length] at m5
    (try ((first | with_reducible refine zh ?_ | with_reducible refine zm ?_ | with_reducible refine zo ?_); simp [zu, a0, a1, a4, a5, a6, m4, m5, zs, zA, zbv])); repeat' (first | ((first | refine zd ?_ | refine zg ?_ | refine dN (by decide +kernel) ?_ | (refine za ?_ ?_ <;> (intro hg; simp only [hg])) | fail) <;> simp [zu, a0, a1, a4, a5, a6, m4, m5, zs, zA, zbv]) | refine zf ?_ | refine zc ?_ | (refine zp ?_; simp only [zq]; try simp) | (refine zb (fun hc => ?_) (fun hc => ?_) <;> try simp at hc) | fail)
    refine zx (.inr rfl) rfl (hE.setF f4) ?_
    simp [a4, m4, St.set, zs]
    exact zA _
theorem ACalls.args {P : Program} {f : FuncId} {as_ bs : List AV} {σ : St} {K : AV → St → Prop} (hw : ∀ S vs, LRel S as_ vs → LRel S bs vs) (h : ACalls P f bs σ K) : ACalls P f as_ σ K :=
  ⟨h.1, fun S vs hS hl => h.2 S vs hS (hw S vs hl)⟩
def OwnP (σ0 τ : St) (n : Nat) (v : AV) (es : List AV) : Prop :=
  (es = [] ∧ v = .sl 0 [] true) ∨ ∃ j rest, v = .rs j 0 es.length ∧ j.sz = n ∧ τ.m j = some (.buf (es ++ rest)) ∧ σ0.m j = none
theorem OwnL.toP {σ0 τ : St} {n : Nat} {v : AV} {es : List AV} (h : OwnL σ0 τ n v es) : OwnP σ0 τ n v es := by
  rcases h with h | ⟨j, h1, h2, h3, h4⟩
  · exact .inl h
  · exact .inr ⟨j, [], h1, h2, by rw [List.append_nil]; exact h3, h4⟩
theorem OwnP.ext {σ0 τ ρ : St} {n : Nat} {v : AV} {es : List AV} (h : OwnP σ0 τ n v es) (k : Ext τ ρ) : OwnP σ0 ρ n v es := by
  rcases h with h | ⟨j, r, h1, h2, h3, h4⟩
  · exact .inl h
  · exact .inr ⟨j, r, h1, h2, k.m _ _ h3, h4⟩
theorem PCalls.useP {P : Program} {f : FuncId} {σ0 σ : St} {n : Nat} {a v r : AV} {es : List AV} {K : AV → St → Prop} (h : PCalls P f [.sl n es false, a] r) (hr : r.plain = true) (hO : OwnP σ0 σ n v es) (k : K r σ) : ACalls P f [v, a] σ K := by
  rcases hO with ⟨rfl, rfl⟩ | ⟨j, rest, rfl, hj, hm, hn⟩
  · refine ACalls.args (bs := [.sl n [] false, a]) (fun S vs hl => ?_) (h.use k)
    simp only [LRel] at hl ⊢
    obtain ⟨w, ws, e2, h2, v, us, e, h1, h3⟩ := hl
    exact ⟨w, ws, e2, zcu _ _ h2, v, us, e, h1, h3⟩
  · refine RCalls.use (.inr ⟨[.sl n es false, a], ?_, h, hr⟩) k
    simp only [zdj]
    exact ⟨_, _, rfl, .inr ⟨es ++ rest, hm, by simp, by simp [hj]⟩, _, _, rfl, .inl rfl, rfl⟩
theorem zld {g : FuncId} {caps : List AV} {p : Ru → Bool} (l : List Ru) {σ0 σ : St} {v : AV} {K : AV → St → Prop} (hO : OwnL σ0 σ 7 v (l.map zE)) (hE : Ext σ0 σ) (hl : l.length < 2932031007403)
    (hg : ∀ r ∈ l, PCalls Tryz.prog g (zE r :: caps) (.raw (.bool (p r)))) (h : ∀ v' τ, OwnP σ0 τ 7 v' ((l.filter fun r => !p r).map zE) → Ext σ0 τ → K v' τ) : ACalls Tryz.prog 232 [v, .fn (.func g) [] caps] σ K := by
  refine zeC Tryz.func232 rfl (N := 42) rfl rfl (by simp) ?_
  (try ((first | with_reducible refine zh ?_ | with_reducible refine zm ?_ | with_reducible refine zo ?_); simp)); repeat' (first | ((first | refine zd ?_ | refine zg ?_ | refine dN (by decide +kernel) ?_ | (refine za ?_ ?_ <;> (intro hg; simp only [hg])) | fail) <;> simp) | refine zf ?_ | refine zc ?_ | (refine zp ?_; simp only [zq]; try simp) | ((first | refine zl (by simp) ?_ | refine zx (by simp) (by simp) (by simp (maxDischargeDepth := 30)) ?_ | fail); simp) | (refine zb (fun hc => ?_) (fun hc => ?_) <;> try simp at hc) | fail)
  refine PCalls.useP (zgw l false (by omega) hg) rfl hO.toP ?_
  cases ha : l.any p with
  | false =>
    have hi : idxOf p l = -1 := by unfold idxOf; rw [ha]; rfl
    have hfl : (l.filter fun r => !p r) = l := by
      rw [List.filter_eq_self]
      intro r hr
      rw [List.any_eq_false] at ha
      simpa using ha r hr
    have w1 : IntKind.i64.wrap (-1) = -1 := zU (by omega) (by omega)
    rw [hfl] at h
    (try ((first | with_reducible refine zh ?_ | with_reducible refine zm ?_ | with_reducible refine zo ?_); simp [hi, w1])); repeat' (first | ((first | refine zd ?_ | refine zg ?_ | refine dN (by decide +kernel) ?_ | (refine za ?_ ?_ <;> (intro hg; simp only [hg])) | fail) <;> simp [hi, w1]) | refine zf ?_ | refine zc ?_ | (refine zp ?_; simp only [zq]; try simp) | (refine zb (fun hc => ?_) (fun hc => ?_) <;> try simp at hc) | fail)
    exact zbH (.inr rfl) (by simp) (h _ _ hO.toP hE)
  | true =>
    have hi : idxOf p l = (l.findIdx p : Nat) := by unfold idxOf; rw [ha]; rfl
    have hlt0 : l.findIdx p < l.length := List.findIdx_lt_length.2 (by simpa using ha)
    obtain ⟨i0, hi0⟩ : ∃ i0, l.findIdx p = i0 := ⟨_, rfl⟩
    rw [hi0] at hi hlt0
    have hne : ¬ ((i0 : Int) = -1) := by omega
    have w0 : IntKind.i64.wrap ((i0 : Int) + 1) = ((i0 + 1 : Nat) : Int) := by rw [zU (by omega) (by omega)]; omega
    have w1 : IntKind.i64.wrap (-1) = -1 := zU (by omega) (by omega)
    rcases hO with ⟨he, _⟩ | ⟨j, hv, hj, hm, hn⟩
    · have : l = [] := by simpa using he
      subst this
      simp at ha
    rw [List.length_map] at hv
    subst hv
    (try ((first | with_reducible refine zh ?_ | with_reducible refine zm ?_ | with_reducible refine zo ?_); simp [hi, w1, hne, w0])); repeat' (first | ((first | refine zd ?_ | refine zg ?_ | refine dN (by decide +kernel) ?_ | (refine za ?_ ?_ <;> (intro hg; simp only [hg])) | fail) <;> simp [hi, w1, hne, w0]) | refine zf ?_ | refine zc ?_ | (refine zp ?_; simp only [zq]; try simp) | ((first | refine zl (by simp) ?_ | refine zx (by simp) (by simp) (by simp (maxDischargeDepth := 30) [hi, w1, hne, w0]) ?_ | fail); simp) | (refine zb (fun hc => ?_) (fun hc => ?_) <;> try simp at hc) | fail)
    have hfirst : ∀ r ∈ l.take i0, p r = false := fun r hr => by
      obtain ⟨q, hq⟩ := List.getElem?_of_mem hr
      obtain ⟨hq1, hq2⟩ := List.getElem?_eq_some_iff.1 hq
      rw [List.length_take] at hq1
      rw [List.getElem_take] at hq2
      have := List.not_of_lt_findIdx (p := p) (xs := l) (i := q) (by omega)
      rw [hq2] at this
      simpa using this
    have hp0 : p l[i0] = true := by
      have := List.findIdx_getElem (p := p) (xs := l) (w := by omega)
      simpa only [hi0] using this
    have htk : ∀ k, (hk : k < l.length) → (l.take (k + 1)).filter (fun r => !p r) = (l.take k).filter (fun r => !p r) ++ if p l[k] = true then [] else [l[k]] := fun k hk => by
      rw [List.take_add_one, List.getElem?_eq_getElem hk, List.filter_append]
      congr 1
      cases hb : p l[k] <;> simp [hb]
    refine zZ (fun n A τ => A 0 = .rs j 0 l.length ∧ A 1 = .fn (.func g) [] caps ∧ Ext σ0 τ ∧ ∃ (k : Nat) (q : List Ru), A 6 = .raw (.int .i64 k) ∧ A 5 = .raw (.int .i64 (((l.take k).filter fun r => !p r).length : Nat)) ∧ k ≤ l.length ∧
      ((l.take k).filter fun r => !p r).length < k ∧ q.length = l.length ∧ q.take ((l.take k).filter fun r => !p r).length = (l.take k).filter (fun r => !p r) ∧ q.drop k = l.drop k ∧ τ.m j = some (.buf (q.map zE)) ∧ n = l.length - k) (l.length - (i0 + 1)) ?_ ?_
    · have e1 : (l.take (i0 + 1)).filter (fun r => !p r) = l.take i0 := by
        rw [htk i0 hlt0, if_pos hp0, List.append_nil, List.filter_eq_self]
        intro r hr; simp [hfirst r hr]
      refine ⟨by simp, by simp, hE, i0 + 1, l, by simp, ?_, by omega, ?_, rfl, ?_, rfl, hm, rfl⟩
      · rw [e1, List.length_take, Nat.min_eq_left (by omega)]; simp
      · rw [e1, List.length_take, Nat.min_eq_left (by omega)]; omega
      · rw [e1, List.length_take, Nat.min_eq_left (by omega)]
    rintro n A τ ⟨a0, a1, hE, k, q, a6, a5, hk, hik, hq, hq1, hq2, hmq, rfl⟩ I1 hI1
    obtain ⟨i, hii⟩ : ∃ i, ((l.take k).filter fun r => !p r).length = i := ⟨_, rfl⟩
    rw [hii] at a5 hik hq1
    by_cases hlt : k < l.length
    · have hx : q[k]? = some l[k] := by
        have := congrArg (·[0]?) hq2
        simpa [List.getElem?_drop, List.getElem?_eq_getElem hlt] using this
      have hxi : q[i]? = some q[i] := List.getElem?_eq_getElem (by omega)
      have w2 : IntKind.i64.wrap ((k : Int) + 1) = ((k + 1 : Nat) : Int) := by rw [zU (by omega) (by omega)]; omega
      have w3 : IntKind.i64.wrap ((i : Int) + 1) = ((i + 1 : Nat) : Int) := by rw [zU (by omega) (by omega)]; omega
      have hjf : j ≠ ⟨7, τ.nx 7, 7⟩ := fun e => by rw [e, zk] at hmq; cases hmq
      have hil : i < l.length := by omega
      (try ((first | with_reducible refine zh ?_ | with_reducible refine zm ?_ | with_reducible refine zo ?_); simp [a0, a1, a6, a5, hlt, hx, hmq, hj, hjf, zs, zA, w2, w3])); repeat' (first | ((first | refine zd ?_ | refine zg ?_ | refine dN (by decide +kernel) ?_ | (refine za ?_ ?_ <;> (intro hg; simp only [hg])) | fail) <;> simp [a0, a1, a6, a5, hlt, hx, hmq, hj, hjf, zs, zA, w2, w3]) | refine zf ?_ | refine zc ?_ | (refine zp ?_; simp only [zq]; try simp) | ((first | refine zl (by simp) ?_ | refine zx (by simp) (by simp) (by simp (maxDischargeDepth := 30) [a0, a1, a6, a5, hlt, hx, hmq, hj, hjf, zs, zA, w2, w3]) ?_ | fail); simp) | (refine zb (fun hc => ?_) (fun hc => ?_) <;> try simp at hc) | fail)
      refine PCalls.use (hg l[k] (List.getElem_mem _)) ?_
      cases hpk : p l[k] with
      | true =>
        (try ((first | with_reducible refine zh ?_ | with_reducible refine zm ?_ | with_reducible refine zo ?_); simp [a0, a1, a6, a5, hlt, hx, hmq, hj, hjf, zs, zA, w2, w3])); repeat' (first | ((first | refine zd ?_ | refine zg ?_ | refine dN (by decide +kernel) ?_ | (refine za ?_ ?_ <;> (intro hg; simp only [hg])) | fail) <;> simp [a0, a1, a6, a5, hlt, hx, hmq, hj, hjf, zs, zA, w2, w3]) | refine zf ?_ | refine zc ?_ | (refine zp ?_; simp only [zq]; try simp) | ((first | refine zl (by simp) ?_ | refine zx (by simp) (by simp) (by simp (maxDischargeDepth := 30) [a0, a1, a6, a5, hlt, hx, hmq, hj, hjf, zs, zA, w2, w3]) ?_ | fail); simp) | (refine zb (fun hc => ?_) (fun hc => ?_) <;> try simp at hc) | fail)
        have e := htk k hlt
        rw [if_pos hpk, List.append_nil] at e
        refine hI1 (l.length - (k + 1)) _ _ (by omega) ⟨by simp [a0], by simp [a1], by simp [hE], k + 1, q, by simp, by rw [e, hii]; simp [a5], by omega, by rw [e, hii]; omega, hq, by rw [e, hii]; exact hq1, ?_, by simp [St.set, St.new, hjf, hmq], rfl⟩
        have := congrArg (List.drop 1) hq2
        simpa [List.drop_drop, Nat.add_comm] using this
      | false =>
        have hsp : setPart (zE q[i]) 0 (zE l[k]).cells = zE l[k] := rfl
        rw [zs] at hsp
        (try ((first | with_reducible refine zh ?_ | with_reducible refine zm ?_ | with_reducible refine zo ?_); simp [a0, a1, a6, a5, hlt, hil, hx, hxi, hmq, hj, hjf, zs, zA, hsp, w2, w3])); repeat' (first | ((first | refine zd ?_ | refine zg ?_ | refine dN (by decide +kernel) ?_ | (refine za ?_ ?_ <;> (intro hg; simp only [hg])) | fail) <;> simp [a0, a1, a6, a5, hlt, hil, hx, hxi, hmq, hj, hjf, zs, zA, hsp, w2, w3]) | refine zf ?_ | refine zc ?_ | (refine zp ?_; simp only [zq]; try simp) | ((first | refine zl (by simp) ?_ | refine zx (by simp) (by simp) (by simp (maxDischargeDepth := 30) [a0, a1, a6, a5, hlt, hil, hx, hxi, hmq, hj, hjf, zs, zA, hsp, w2, w3]) ?_ | fail); simp) | (refine zb (fun hc => ?_) (fun hc => ?_) <;> try simp at hc) | fail)
        have e := htk k hlt
        rw [if_neg (by simp [hpk])] at e
        have el : (((l.take k).filter fun r => !p r) ++ [l[k]]).length = i + 1 := by rw [List.length_append, hii]; rfl
        refine hI1 (l.length - (k + 1)) _ _ (by omega) ⟨by simp [a0], by simp [a1], Ext.setF (by simp [hE]) hn, k + 1, q.set i l[k], by simp, by rw [e, el]; simp, by omega, by rw [e, el]; omega, by simpa using hq, ?_, ?_, by simp [St.set, St.new, hjf, hmq, List.map_set], rfl⟩
        · rw [e, el, ← hq1, List.take_succ_eq_append_getElem (by simp; omega)]
          simp
          rw [List.take_set, List.set_eq_of_length_le (by simp; omega)]
        · have := congrArg (List.drop 1) hq2
          rw [List.drop_set_of_lt (by omega)]
          simpa [List.drop_drop, Nat.add_comm] using this
    · have : k = l.length := by omega
      subst this
      rw [List.take_length] at *
      have hil : i ≤ l.length := by omega
      obtain ⟨m, hm'⟩ : ∃ m, l.length - i = m + 1 := ⟨l.length - i - 1, by omega⟩
      have ecut : zbf j 0 i l.length = .rs j i (m + 1) := by unfold zbf; rw [if_pos (.inr (by omega)), hm', Nat.zero_add]
      obtain ⟨rest, hcl⟩ : ∃ rest, zds Tryz.prog τ.m 26 (.rs j i (m + 1)) = some (.wrv j ((l.filter fun r => !p r).map zE ++ rest) (.tup [])) := by
        have hle : i + (m + 1) ≤ q.length := by omega
        refine ⟨List.replicate (m + 1) (zE ⟨0, 0, 0, 0, ⟨0, 0⟩, 0⟩) ++ (q.map zE).drop (i + (m + 1)), ?_⟩
        rw [← hq1, List.map_take]
        simp [zds, hmq, hj, z8, cellOK, hle, zE]
      (try ((first | with_reducible refine zh ?_ | with_reducible refine zm ?_ | with_reducible refine zo ?_); simp [a0, a1, a6, a5, hj, hil, ecut, hcl])); repeat' (first | ((first | refine zd ?_ | refine zg ?_ | refine dN (by decide +kernel) ?_ | (refine za ?_ ?_ <;> (intro hg; simp only [hg])) | fail) <;> simp [a0, a1, a6, a5, hj, hil, ecut, hcl]) | refine zf ?_ | refine zc ?_ | (refine zp ?_; simp only [zq]; try simp) | (refine zb (fun hc => ?_) (fun hc => ?_) <;> try simp at hc) | fail)
      have ec0 : zbf j 0 0 i = .rs j 0 ((l.filter fun r => !p r).map zE).length := by
        unfold zbf; rw [if_pos (.inl rfl), List.length_map, hii]; simp
      exact zbH (.inr rfl) (x := zbf j 0 0 i) (by simp) (by
        rw [ec0]
        exact h _ _ (.inr ⟨j, rest, rfl, hj, zbC hmq, hn⟩) (Ext.setF hE hn))
end Go.Proofs.YtanimmdlgmkmkaaGreat.Av
namespace Go.Proofs.YtanimmdlgmkmkaaGreat.Av
open Go
set_option linter.unusedSimpArgs false
set_option linter.unusedVariables false
set_option maxRecDepth 100000
set_option maxHeartbeats 2000000
set_option pp.maxSteps 300
theorem zjm {g : FuncId} {caps : List AV} {p : Ru → Bool} (r : Ru) (hg : PCalls Tryz.prog g (zE r :: caps) (.raw (.bool (p r)))) : PCalls Tryz.prog 233 [zE r, .pp [.fn (.func g) [] caps] 0] (.raw (.bool (!p r))) := by
  refine zJ Tryz.func233 rfl (N := 8) rfl rfl (by simp) (by simp [noIds]) fun σ => ?_
  (try ((first | with_reducible refine zh ?_ | with_reducible refine zm ?_ | with_reducible refine zo ?_); simp [zs, zV])); repeat' (first | ((first | refine zd ?_ | refine zg ?_ | refine dN (by decide +kernel) ?_ | (refine za ?_ ?_ <;> (intro hg; simp only [hg])) | fail) <;> simp [zs, zV]) | refine zf ?_ | refine zc ?_ | (refine zp ?_; simp only [zq]; try simp) | ((first | refine zl (by simp) ?_ | refine zx (by simp) (by simp) (by simp (maxDischargeDepth := 30) [zs, zV]) ?_ | fail); simp) | (refine zb (fun hc => ?_) (fun hc => ?_) <;> try simp at hc) | fail)
  rw [zA]
  refine PCalls.use hg ?_
  (try ((first | with_reducible refine zh ?_ | with_reducible refine zm ?_ | with_reducible refine zo ?_); simp)); repeat' (first | ((first | refine zd ?_ | refine zg ?_ | refine dN (by decide +kernel) ?_ | (refine za ?_ ?_ <;> (intro hg; simp only [hg])) | fail) <;> simp) | refine zf ?_ | refine zc ?_ | (refine zp ?_; simp only [zq]; try simp) | ((first | refine zl (by simp) ?_ | refine zx (by simp) (by simp) (by simp (maxDischargeDepth := 30)) ?_ | fail); simp) | (refine zb (fun hc => ?_) (fun hc => ?_) <;> try simp at hc) | fail)
theorem zhG {g : FuncId} {caps : List AV} {p : Ru → Bool} (l : List Ru) (f : Bool) (hl : l.length < 2932031007403) (hg : ∀ r ∈ l, PCalls Tryz.prog g (zE r :: caps) (.raw (.bool (p r)))) :
    PCalls Tryz.prog 215 [zu l f, .fn (.func g) [] caps] (.tup [zE (zbb (l.filter p)), .raw (.bool (l.any p))]) := by
  refine zJ Tryz.func215 rfl (N := 16) rfl rfl (by simp) (by simp [noIds, zE]) fun σ => ?_
  repeat (refine zf ?_)
  refine zg ?_
  simp
  refine zaf ⟨3, σ.nx 3, 1⟩ ?_
  generalize hτ : St.del _ _ = τ
  generalize hA : (fun t => zF _ _ _) = A
  have a0 : A 0 = zu l f := by rw [← hA]; simp [zu]
  have a3 : A 3 = .pp [.fn (.func g) [] caps] 0 := by rw [← hA, ← hτ]; simp [zF, St.new, St.del]
  have a4 : A 4 = .rp ⟨4, σ.nx 4, 7⟩ 0 0 := by rw [← hA, ← hτ]; simp [zF, St.new, St.del]
  have m4 : τ.m ⟨4, σ.nx 4, 7⟩ = some (.buf [zE ⟨0, 0, 0, 0, ⟨0, 0⟩, 0⟩]) := by rw [← hτ]; simp [St.new, St.del, zE]
  have hE : Ext σ τ := by
    rw [← hτ]
    refine ⟨fun i o h => ?_, fun s => ?_⟩
    · rw [zR (fun e => by rw [e, zk] at h; cases h)]
      exact zaP _ _ (zaP _ _ h)
    · exact Nat.le_trans (St.new_le σ 3 1 (.buf [.fn (.func g) [] caps]) s) (St.new_le (σ.new 3 1 (.buf [.fn (.func g) [] caps])) 4 7 (.buf [zE ⟨0, 0, 0, 0, ⟨0, 0⟩, 0⟩]) s)
  clear hτ hA
  have f4 : σ.m ⟨4, σ.nx 4, 7⟩ = none := zk _ _ _
  (try ((first | with_reducible refine zh ?_ | with_reducible refine zm ?_ | with_reducible refine zo ?_); simp [a0, a3, a4, m4])); repeat' (first | ((first | refine zd ?_ | refine zg ?_ | refine dN (by decide +kernel) ?_ | (refine za ?_ ?_ <;> (intro hg; simp only [hg])) | fail) <;> simp [a0, a3, a4, m4]) | refine zf ?_ | refine zc ?_ | (refine zp ?_; simp only [zq]; try simp) | ((first | refine zl (by simp) ?_ | refine zx (by simp) (by simp) (by simp (maxDischargeDepth := 30) [a0, a3, a4, m4]) ?_ | fail); simp) | (refine zb (fun hc => ?_) (fun hc => ?_) <;> try simp at hc) | fail)
  refine zgx l f hl fun v τ1 hO hE1 => ?_
  (try ((first | with_reducible refine zh ?_ | with_reducible refine zm ?_ | with_reducible refine zo ?_); simp [a0, a3, a4])); repeat' (first | ((first | refine zd ?_ | refine zg ?_ | refine dN (by decide +kernel) ?_ | (refine za ?_ ?_ <;> (intro hg; simp only [hg])) | fail) <;> simp [a0, a3, a4]) | refine zf ?_ | refine zc ?_ | (refine zp ?_; simp only [zq]; try simp) | ((first | refine zl (by simp) ?_ | refine zx (by simp) (by simp) (by simp (maxDischargeDepth := 30) [a0, a3, a4]) ?_ | fail); simp) | (refine zb (fun hc => ?_) (fun hc => ?_) <;> try simp at hc) | fail)
  refine zld (σ0 := τ) l hO hE1 hl (fun r hr => zjm r (hg r hr)) fun v' τ2 hP hE2 => ?_
  have hfl : (l.filter fun r => !(!p r)) = l.filter p := by simp
  rw [hfl] at hP
  have m4' : τ2.m ⟨4, σ.nx 4, 7⟩ = some (.buf [zE ⟨0, 0, 0, 0, ⟨0, 0⟩, 0⟩]) := hE2.m _ _ m4
  have hE3 : Ext σ τ2 := hE.trans hE2
  cases ha : l.any p with
  | false =>
    have hnil : l.filter p = [] := by
      rw [List.filter_eq_nil_iff]
      intro r hr
      rw [List.any_eq_false] at ha
      exact ha r hr
    rw [hnil] at hP ⊢
    have hlen : ∃ z, (v' = .sl 0 [] true ∨ v' = .rs z 0 0) := by
      rcases hP with ⟨_, h⟩ | ⟨z, rest, h, _⟩
      · exact ⟨⟨0, 0, 0⟩, .inl h⟩
      · exact ⟨z, .inr h⟩
    have hz : setPart (zE ⟨0, 0, 0, 0, ⟨0, 0⟩, 0⟩) 0 [.raw (.int .i64 0), .raw (.int .i64 0), .raw (.int .i64 0), .raw (.int .i64 0), .raw (.int .u32 0), .raw (.int .u32 0), .raw (.int .i64 0)] = zE ⟨0, 0, 0, 0, ⟨0, 0⟩, 0⟩ := rfl
    obtain ⟨z, rfl | rfl⟩ := hlen
    · (try ((first | with_reducible refine zh ?_ | with_reducible refine zm ?_ | with_reducible refine zo ?_); simp [a0, a3, a4, m4'])); repeat' (first | ((first | refine zd ?_ | refine zg ?_ | refine dN (by decide +kernel) ?_ | (refine za ?_ ?_ <;> (intro hg; simp only [hg])) | fail) <;> simp [a0, a3, a4, m4']) | refine zf ?_ | refine zc ?_ | (refine zp ?_; simp only [zq]; try simp) | (refine zb (fun hc => ?_) (fun hc => ?_) <;> try simp at hc) | fail)
      exact zx (.inr rfl) rfl (hE3.setF f4) (by simp [a4, m4', St.set, zbb, hz, zs]; rfl)
    · (try ((first | with_reducible refine zh ?_ | with_reducible refine zm ?_ | with_reducible refine zo ?_); simp [a0, a3, a4, m4'])); repeat' (first | ((first | refine zd ?_ | refine zg ?_ | refine dN (by decide +kernel) ?_ | (refine za ?_ ?_ <;> (intro hg; simp only [hg])) | fail) <;> simp [a0, a3, a4, m4']) | refine zf ?_ | refine zc ?_ | (refine zp ?_; simp only [zq]; try simp) | (refine zb (fun hc => ?_) (fun hc => ?_) <;> try simp at hc) | fail)
      exact zx (.inr rfl) rfl (hE3.setF f4) (by simp [a4, m4', St.set, zbb, hz, zs]; rfl)
  | true =>
    have hne : l.filter p ≠ [] := by
      intro e
      rw [List.filter_eq_nil_iff] at e
      obtain ⟨r, hr, h⟩ := List.any_eq_true.1 ha
      exact e r hr h
    have hlf : (l.filter p).length ≤ l.length := List.length_filter_le _ _
    have hmin := zkr (l.filter p) hne false (by omega)
    have hpos : 0 < (l.filter p).length := List.length_pos_iff.2 hne
    have hP' := hP
    rcases hP with ⟨h, _⟩ | ⟨z, rest, rfl, hz7, hz, hzn⟩
    · exact absurd (by simpa using h) hne
    rw [List.length_map] at hP' ⊢
    have hl0 : ¬ ((l.filter p).length = 0) := by omega
    (try ((first | with_reducible refine zh ?_ | with_reducible refine zm ?_ | with_reducible refine zo ?_); simp [a0, a3, a4, m4', hl0])); repeat' (first | ((first | refine zd ?_ | refine zg ?_ | refine dN (by decide +kernel) ?_ | (refine za ?_ ?_ <;> (intro hg; simp only [hg])) | fail) <;> simp [a0, a3, a4, m4', hl0]) | refine zf ?_ | refine zc ?_ | (refine zp ?_; simp only [zq]; try simp) | ((first | refine zl (by simp) ?_ | refine zx (by simp) (by simp) (by simp (maxDischargeDepth := 30) [a0, a3, a4, m4', hl0]) ?_ | fail); simp) | (refine zb (fun hc => ?_) (fun hc => ?_) <;> try simp at hc) | fail)
    refine PCalls.useP hmin rfl hP' ?_
    (try ((first | with_reducible refine zh ?_ | with_reducible refine zm ?_ | with_reducible refine zo ?_); simp [a0, a3, a4, m4', zs, zbv])); repeat' (first | ((first | refine zd ?_ | refine zg ?_ | refine dN (by decide +kernel) ?_ | (refine za ?_ ?_ <;> (intro hg; simp only [hg])) | fail) <;> simp [a0, a3, a4, m4', zs, zbv]) | refine zf ?_ | refine zc ?_ | (refine zp ?_; simp only [zq]; try simp) | (refine zb (fun hc => ?_) (fun hc => ?_) <;> try simp at hc) | fail)
    exact zx (.inr rfl) rfl (hE3.setF f4) (by simp [a4, m4', St.set, zs]; exact zA _)
def zcA (d a : Int) (r : Ru) : Bool := decide (1 < r.kind) && zcY r d a
def zcB (d a : Int) (r : Ru) : Bool := decide (r.kind ≤ 1) && zcY r d a
theorem zmZ (r : Ru) (d a : Int) : PCalls Tryz.prog 216 [zE r, .pp [.raw (.int .i64 d)] 0, .pp [.raw (.int .u32 a)] 0] (.raw (.bool (zcA d a r))) := by
  refine zJ Tryz.func216 rfl (N := 14) rfl rfl (by simp) (by simp [noIds]) fun σ => ?_
  obtain ⟨b, hb⟩ : ∃ b, decide (1 < r.kind) = b := ⟨_, rfl⟩
  unfold zcA
  rw [hb]
  (try ((first | with_reducible refine zh ?_ | with_reducible refine zm ?_ | with_reducible refine zo ?_); simp [zs, zV, hb, zA])); repeat' (first | ((first | refine zd ?_ | refine zg ?_ | refine dN (by decide +kernel) ?_ | (refine za ?_ ?_ <;> (intro hg; simp only [hg])) | fail) <;> simp [zs, zV, hb, zA]) | refine zf ?_ | refine zc ?_ | (refine zp ?_; simp only [zq]; try simp) | ((first | refine zl (by simp) ?_ | refine zx (by simp) (by simp) (by simp (maxDischargeDepth := 30) [zs, zV, hb, zA]) ?_ | fail); simp) | (refine zb (fun hc => ?_) (fun hc => ?_) <;> try simp at hc) | fail)
  refine PCalls.use (zhE r d a) ?_
  (try ((first | with_reducible refine zh ?_ | with_reducible refine zm ?_ | with_reducible refine zo ?_); simp)); repeat' (first | ((first | refine zd ?_ | refine zg ?_ | refine dN (by decide +kernel) ?_ | (refine za ?_ ?_ <;> (intro hg; simp only [hg])) | fail) <;> simp) | refine zf ?_ | refine zc ?_ | (refine zp ?_; simp only [zq]; try simp) | ((first | refine zl (by simp) ?_ | refine zx (by simp) (by simp) (by simp (maxDischargeDepth := 30)) ?_ | fail); simp) | (refine zb (fun hc => ?_) (fun hc => ?_) <;> try simp at hc) | fail)
theorem zm0 (r : Ru) (d a : Int) : PCalls Tryz.prog 218 [zE r, .pp [.raw (.int .i64 d)] 0, .pp [.raw (.int .u32 a)] 0] (.raw (.bool (zcB d a r))) := by
  refine zJ Tryz.func218 rfl (N := 14) rfl rfl (by simp) (by simp [noIds]) fun σ => ?_
  obtain ⟨b, hb⟩ : ∃ b, decide (r.kind ≤ 1) = b := ⟨_, rfl⟩
  unfold zcB
  rw [hb]
  (try ((first | with_reducible refine zh ?_ | with_reducible refine zm ?_ | with_reducible refine zo ?_); simp [zs, zV, hb, zA])); repeat' (first | ((first | refine zd ?_ | refine zg ?_ | refine dN (by decide +kernel) ?_ | (refine za ?_ ?_ <;> (intro hg; simp only [hg])) | fail) <;> simp [zs, zV, hb, zA]) | refine zf ?_ | refine zc ?_ | (refine zp ?_; simp only [zq]; try simp) | ((first | refine zl (by simp) ?_ | refine zx (by simp) (by simp) (by simp (maxDischargeDepth := 30) [zs, zV, hb, zA]) ?_ | fail); simp) | (refine zb (fun hc => ?_) (fun hc => ?_) <;> try simp at hc) | fail)
  refine PCalls.use (zhE r d a) ?_
  (try ((first | with_reducible refine zh ?_ | with_reducible refine zm ?_ | with_reducible refine zo ?_); simp)); repeat' (first | ((first | refine zd ?_ | refine zg ?_ | refine dN (by decide +kernel) ?_ | (refine za ?_ ?_ <;> (intro hg; simp only [hg])) | fail) <;> simp) | refine zf ?_ | refine zc ?_ | (refine zp ?_; simp only [zq]; try simp) | ((first | refine zl (by simp) ?_ | refine zx (by simp) (by simp) (by simp (maxDischargeDepth := 30)) ?_ | fail); simp) | (refine zb (fun hc => ?_) (fun hc => ?_) <;> try simp at hc) | fail)
end Go.Proofs.YtanimmdlgmkmkaaGreat.Av
namespace Go.Proofs.YtanimmdlgmkmkaaGreat.Av
open Go
set_option linter.unusedSimpArgs false
set_option linter.unusedVariables false
set_option maxRecDepth 100000
set_option maxHeartbeats 4000000
set_option pp.maxSteps 300
def zba (d a : Int) (acl : Bool) (r : Ru) : Bool := decide (r.dev = d) && (!decide (a < r.r.lo) && (!decide (r.r.hi < a) && ((decide (r.kind = 2) || decide (r.kind = 3)) == acl)))
def zeJ (x m : Ru) : Bool := decide (m.prio < x.prio) || (decide (x.prio = m.prio) && decide (x.id < m.id))
theorem ziW (x m : Ru) : zdK x m < 0 ↔ zeJ x m = true := by
  unfold zdK cmpI zeJ
  simp only [Bool.or_eq_true, Bool.and_eq_true, decide_eq_true_eq]
  repeat' split
  all_goals omega
theorem zjZ (z : List Ru) (x : Ru) : zbb (z ++ [x]) = if z = [] then x else if zeJ x (zbb z) = true then x else zbb z := by
  cases z with
  | nil => rfl
  | cons r l =>
    simp only [reduceCtorEq, if_false, List.cons_append, zbb, List.foldl_append, List.foldl_cons, List.foldl_nil]
    by_cases h : zdK x (l.foldl (fun m x => if zdK x m < 0 then x else m) r) < 0
    · rw [if_pos h]; exact (if_pos ((ziW _ _).1 h)).symm
    · rw [if_neg h]; exact (if_neg (fun q => h ((ziW _ _).2 q))).symm
theorem pb1 : ∀ b1 b2 b3 b4 b5 acl : Bool, b4 = false → ¬ b5 = acl → (b1 && (!b2 && (!b3 && ((b4 || b5) == acl)))) = false := by decide
theorem pb2 : ∀ b1 b2 b3 b4 b5 acl : Bool, b4 = !false → acl = false → (b1 && (!b2 && (!b3 && ((b4 || b5) == acl)))) = false := by decide
theorem pb3 : ∀ b1 b2 b3 b4 b5 acl : Bool, b3 = !false → (b1 && (!b2 && (!b3 && ((b4 || b5) == acl)))) = false := by decide
theorem pb4 : ∀ b1 b2 b3 b4 b5 acl : Bool, b2 = !false → (b1 && (!b2 && (!b3 && ((b4 || b5) == acl)))) = false := by decide
theorem pb5 : ∀ b1 b2 b3 b4 b5 acl : Bool, (!b1) = !false → (b1 && (!b2 && (!b3 && ((b4 || b5) == acl)))) = false := by decide
theorem pb6 : ∀ b1 b2 b3 b4 b5 acl : Bool, b4 = false → (!b1) = false → b2 = false → b3 = false → b5 = acl → (b1 && (!b2 && (!b3 && ((b4 || b5) == acl)))) = true := by decide
theorem pb7 : ∀ b1 b2 b3 b4 b5 acl : Bool, b4 = !false → (!b1) = false → b2 = false → b3 = false → acl = true → (b1 && (!b2 && (!b3 && ((b4 || b5) == acl)))) = true := by decide
theorem pc1 : ∀ b6 b7 b8 : Bool, b6 = !false → (b6 || (b7 && b8)) = true := by decide
theorem pc2 : ∀ b6 b7 b8 : Bool, b7 = true → b8 = true → (b6 || (b7 && b8)) = true := by decide
theorem pc3 : ∀ b6 b7 b8 : Bool, b6 = false → b7 = !true → (b6 || (b7 && b8)) = false := by decide
theorem pc4 : ∀ b6 b7 b8 : Bool, b6 = false → b8 = false → (b6 || (b7 && b8)) = false := by decide
theorem zfJ (l : List Ru) (f : Bool) (d a : Int) (acl : Bool) (hl : l.length < 2932031007403) :
    PCalls Tryz.prog 202 [zu l f, .raw (.int .i64 d), .raw (.int .u32 a), .raw (.bool acl)] (.tup [zE (zbb (l.filter (zba d a acl))), .raw (.bool (l.any (zba d a acl)))]) := by
  refine zJ Tryz.func202 rfl (N := 83) rfl rfl (by simp) (by simp [noIds, zE]) fun σ => ?_
  have hz : setPart (zE ⟨0, 0, 0, 0, ⟨0, 0⟩, 0⟩) 0 [.raw (.int .i64 0), .raw (.int .i64 0), .raw (.int .i64 0), .raw (.int .i64 0), .raw (.int .u32 0), .raw (.int .u32 0), .raw (.int .i64 0)] = zE ⟨0, 0, 0, 0, ⟨0, 0⟩, 0⟩ := rfl
  (try ((first | with_reducible refine zh ?_ | with_reducible refine zm ?_ | with_reducible refine zo ?_); simp [zu])); repeat' (first | ((first | refine zd ?_ | refine zg ?_ | refine dN (by decide +kernel) ?_ | (refine za ?_ ?_ <;> (intro hg; simp only [hg])) | fail) <;> simp [zu]) | refine zf ?_ | refine zc ?_ | (refine zp ?_; simp only [zq]; try simp) | ((first | refine zl (by simp) ?_ | refine zx (by simp) (by simp) (by simp (maxDischargeDepth := 30) [zu]) ?_ | fail); simp) | (refine zb (fun hc => ?_) (fun hc => ?_) <;> try simp at hc) | fail)
  refine zZ (fun n A τ => Ext σ τ ∧ A 0 = zu l f ∧ A 1 = .raw (.int .i64 d) ∧ A 2 = .raw (.int .u32 a) ∧ A 3 = .raw (.bool acl) ∧ A 8 = .rp ⟨8, σ.nx 8, 7⟩ 0 0 ∧ A 10 = .rp ⟨10, σ.nx 10, 7⟩ 0 0 ∧
    τ.m ⟨8, σ.nx 8, 7⟩ = some (.buf [zE ⟨0, 0, 0, 0, ⟨0, 0⟩, 0⟩]) ∧ ∃ (i : Nat) (q : List Ru), q = (l.take i).filter (zba d a acl) ∧ τ.m ⟨10, σ.nx 10, 7⟩ = some (.buf [zE (zbb q)]) ∧
      A 12 = .raw (.int .i64 i) ∧ A 11 = .raw (.bool (!q.isEmpty)) ∧ i ≤ l.length ∧ n = l.length - i) l.length ?_ ?_
  · refine ⟨by simp (maxDischargeDepth := 30), by simp [zu], by simp, by simp, by simp, by simp, by simp [St.new], by simp [St.new, zE], 0, [], by simp, by simp [St.new, zE, zbb], by simp, by simp, by omega, by omega⟩
  rintro n A τ ⟨hE, a0, a1, a2, a3, a8, a10, m8, i, q, hq, m10, a12, a11, hi, rfl⟩ I1 hI1
  have f8 : σ.m ⟨8, σ.nx 8, 7⟩ = none := zk _ _ _
  have f10 : σ.m ⟨10, σ.nx 10, 7⟩ = none := zk _ _ _
  by_cases hlt : i < l.length
  · have hx : l[i]? = some l[i] := List.getElem?_eq_getElem hlt
    have w1 : IntKind.i64.wrap ((i : Int) + 1) = ((i + 1 : Nat) : Int) := by rw [zU (by omega) (by omega)]; omega
    have htk : (l.take (i + 1)).filter (zba d a acl) = q ++ if zba d a acl l[i] = true then [l[i]] else [] := by
      rw [List.take_add_one, hx, List.filter_append, hq]
      congr 1
      cases hb : zba d a acl l[i] <;> simp [hb]
    obtain ⟨m, hmm⟩ : ∃ m, zbb q = m := ⟨_, rfl⟩
    rw [hmm] at m10
    obtain ⟨e', he⟩ : ∃ e', q.isEmpty = e' := ⟨_, rfl⟩
    rw [he] at a11
    have n8 : (⟨8, σ.nx 8, 7⟩ : Id) ≠ ⟨13, τ.nx 13, 7⟩ := by simp
    obtain ⟨b1, h1⟩ : ∃ b, decide (l[i].dev = d) = b := ⟨_, rfl⟩
    obtain ⟨b2, h2⟩ : ∃ b, decide (a < l[i].r.lo) = b := ⟨_, rfl⟩
    obtain ⟨b3, h3⟩ : ∃ b, decide (l[i].r.hi < a) = b := ⟨_, rfl⟩
    obtain ⟨b4, h4⟩ : ∃ b, decide (l[i].kind = 2) = b := ⟨_, rfl⟩
    obtain ⟨b5, h5⟩ : ∃ b, decide (l[i].kind = 3) = b := ⟨_, rfl⟩
    obtain ⟨b6, h6⟩ : ∃ b, decide (m.prio < l[i].prio) = b := ⟨_, rfl⟩
    obtain ⟨b7, h7⟩ : ∃ b, decide (l[i].prio = m.prio) = b := ⟨_, rfl⟩
    obtain ⟨b8, h8⟩ : ∃ b, decide (l[i].id < m.id) = b := ⟨_, rfl⟩
    have hp : zba d a acl l[i] = (b1 && (!b2 && (!b3 && ((b4 || b5) == acl)))) := by unfold zba; rw [h1, h2, h3, h4, h5]
    have hbt : zeJ l[i] m = (b6 || (b7 && b8)) := by unfold zeJ; rw [h6, h7, h8]
    have h1' : decide (¬ l[i].dev = d) = !b1 := by rw [← h1]; simp
    have fin : ∀ (q' : List Ru) (A' : zN) (τ' : St), Ext σ τ' → A' 0 = zu l f → A' 1 = .raw (.int .i64 d) → A' 2 = .raw (.int .u32 a) → A' 3 = .raw (.bool acl) → A' 8 = .rp ⟨8, σ.nx 8, 7⟩ 0 0 → A' 10 = .rp ⟨10, σ.nx 10, 7⟩ 0 0 →
        τ'.m ⟨8, σ.nx 8, 7⟩ = some (.buf [zE ⟨0, 0, 0, 0, ⟨0, 0⟩, 0⟩]) → q' = (l.take (i + 1)).filter (zba d a acl) → τ'.m ⟨10, σ.nx 10, 7⟩ = some (.buf [zE (zbb q')]) →
        A' 12 = .raw (.int .i64 ((i : Int) + 1)) → A' 11 = .raw (.bool (!q'.isEmpty)) → I1 A' τ' := fun q' A' τ' x1 x2 x3 x4 x5 x6 x7 x8 x9 x10 x11 x12 =>
      hI1 (l.length - (i + 1)) _ _ (by omega) ⟨x1, x2, x3, x4, x5, x6, x7, x8, i + 1, q', x9, x10, by simpa using x11, x12, by omega, rfl⟩
    (try ((first | with_reducible refine zh ?_ | with_reducible refine zm ?_ | with_reducible refine zo ?_); simp [zu, a0, a1, a2, a3, a8, a10, a11, a12, hlt, hx, m8, m10, zs, zV, zA, zbv, w1, h1, h2, h3, h4, h5, h6, h7, h8, h1'])); repeat' (first | ((first | refine zd ?_ | refine zg ?_ | refine dN (by decide +kernel) ?_ | (refine za ?_ ?_ <;> (intro hg; simp only [hg])) | fail) <;> simp [zu, a0, a1, a2, a3, a8, a10, a11, a12, hlt, hx, m8, m10, zs, zV, zA, zbv, w1, h1, h2, h3, h4, h5, h6, h7, h8, h1']) | refine zf ?_ | refine zc ?_ | (refine zp ?_; simp only [zq]; try simp) | ((first | refine zl (by simp) ?_ | refine zx (by simp) (by simp) (by simp (maxDischargeDepth := 30) [zu, a0, a1, a2, a3, a8, a10, a11, a12, hlt, hx, m8, m10, zs, zV, zA, zbv, w1, h1, h2, h3, h4, h5, h6, h7, h8, h1']) ?_ | fail); simp) | (refine zb (fun hc => ?_) (fun hc => ?_) <;> try simp at hc) | fail)
    all_goals first
      | (have e : zba d a acl l[i] = false := by
           rw [hp]; first | exact pb1 _ _ _ _ _ _ ‹_› ‹_› | exact pb2 _ _ _ _ _ _ ‹_› ‹_› | exact pb3 _ _ _ _ _ _ ‹_› | exact pb4 _ _ _ _ _ _ ‹_› | exact pb5 _ _ _ _ _ _ ‹_›
         exact fin q _ _ (by simp [hE]) (by simp [a0]) (by simp [a1]) (by simp [a2]) (by simp [a3]) (by simp [a8]) (by simp [a10]) (by simp [St.new, m8]) (by rw [htk, e]; simp) (by simp [St.new, m10, hmm]) (by simp) (by simp [a11, he]))
      | (have e : zba d a acl l[i] = true := by
           rw [hp]; first | exact pb6 _ _ _ _ _ _ ‹_› ‹_› ‹_› ‹_› ‹_› | exact pb7 _ _ _ _ _ _ ‹_› ‹_› ‹_› ‹_› ‹_›
         first
         | (have hm' : zbb (q ++ [l[i]]) = l[i] := by
              rw [zjZ, hmm]
              first
              | rw [if_pos (by rw [← List.isEmpty_iff, he]; assumption)]
              | (rw [if_pos (c := zeJ l[i] m = true) (by rw [hbt]; first | exact pc1 _ _ _ ‹_› | exact pc2 _ _ _ ‹_› ‹_›)]; split <;> rfl)
            exact fin (q ++ [l[i]]) _ _ (Ext.setF (by simp [hE]) f10) (by simp [a0]) (by simp [a1]) (by simp [a2]) (by simp [a3]) (by simp [a8]) (by simp [a10]) (by simp [St.set, St.new, m8]) (by rw [htk, e]; simp) (by simp [St.set, St.new, m10, hm']) (by simp) (by simp))
         | (have e0 : e' = false := ‹_›
            have hq0 : q ≠ [] := fun h => by rw [← List.isEmpty_iff, he, e0] at h; cases h
            have hm' : zbb (q ++ [l[i]]) = m := by
              rw [zjZ, hmm, if_neg hq0, if_neg]
              rw [hbt]; first | (rw [pc3 _ _ _ ‹_› ‹_›]; simp) | (rw [pc4 _ _ _ ‹_› ‹_›]; simp)
            exact fin (q ++ [l[i]]) _ _ (by simp [hE]) (by simp [a0]) (by simp [a1]) (by simp [a2]) (by simp [a3]) (by simp [a8]) (by simp [a10]) (by simp [St.new, m8]) (by rw [htk, e]; simp) (by simp [St.new, m10, hm']) (by simp) (by simp [a11, e0])))
  · have : i = l.length := by omega
    subst this
    rw [List.take_length] at hq
    subst hq
    have hem : (!(l.filter (zba d a acl)).isEmpty) = l.any (zba d a acl) := by
      rw [Bool.eq_iff_iff]; simp [List.isEmpty_iff, List.filter_eq_nil_iff]
    rw [hem] at a11
    (try ((first | with_reducible refine zh ?_ | with_reducible refine zm ?_ | with_reducible refine zo ?_); simp [zu, a0, a8, a10, a11, a12, m8, m10, zs, zV, zA, zbv])); repeat' (first | ((first | refine zd ?_ | refine zg ?_ | refine dN (by decide +kernel) ?_ | (refine za ?_ ?_ <;> (intro hg; simp only [hg])) | fail) <;> simp [zu, a0, a8, a10, a11, a12, m8, m10, zs, zV, zA, zbv]) | refine zf ?_ | refine zc ?_ | (refine zp ?_; simp only [zq]; try simp) | (refine zb (fun hc => ?_) (fun hc => ?_) <;> try simp at hc) | fail)
    exact zx (.inr rfl) rfl (hE.setF f8) (by simp [a8, m8, St.set, zs]; exact zA _)
end Go.Proofs.YtanimmdlgmkmkaaGreat.Av
namespace Go.Proofs.YtanimmdlgmkmkaaGreat.Av
open Go
set_option linter.unusedSimpArgs false
set_option linter.unusedVariables false
set_option maxRecDepth 100000
set_option maxHeartbeats 2000000
set_option pp.maxSteps 300
def zdL (l : List Ru) (d a : Int) : Bool := l.any (zba d a true) && decide ((zbb (l.filter (zba d a true))).kind = 3)
theorem ziX (l : List Ru) (f : Bool) (d a : Int) (hl : l.length < 2932031007403) : PCalls Tryz.prog 169 [zu l f, .raw (.int .i64 d), .raw (.int .u32 a)] (.raw (.bool (zdL l d a))) := by
  have hf := zfJ l f d a true hl
  unfold zdL
  obtain ⟨b, hb⟩ : ∃ b, l.any (zba d a true) = b := ⟨_, rfl⟩
  obtain ⟨m, hmm⟩ : ∃ m, zbb (l.filter (zba d a true)) = m := ⟨_, rfl⟩
  rw [hb, hmm] at hf ⊢
  refine zJ Tryz.func169 rfl (N := 22) rfl rfl (by simp) (by simp [noIds]) fun σ => ?_
  (try ((first | with_reducible refine zh ?_ | with_reducible refine zm ?_ | with_reducible refine zo ?_); simp)); repeat' (first | ((first | refine zd ?_ | refine zg ?_ | refine dN (by decide +kernel) ?_ | (refine za ?_ ?_ <;> (intro hg; simp only [hg])) | fail) <;> simp) | refine zf ?_ | refine zc ?_ | (refine zp ?_; simp only [zq]; try simp) | ((first | refine zl (by simp) ?_ | refine zx (by simp) (by simp) (by simp (maxDischargeDepth := 30)) ?_ | fail); simp) | (refine zb (fun hc => ?_) (fun hc => ?_) <;> try simp at hc) | fail)
  refine PCalls.use hf ?_
  (try ((first | with_reducible refine zh ?_ | with_reducible refine zm ?_ | with_reducible refine zo ?_); simp [zs, zV, zA])); repeat' (first | ((first | refine zd ?_ | refine zg ?_ | refine dN (by decide +kernel) ?_ | (refine za ?_ ?_ <;> (intro hg; simp only [hg])) | fail) <;> simp [zs, zV, zA]) | refine zf ?_ | refine zc ?_ | (refine zp ?_; simp only [zq]; try simp) | ((first | refine zl (by simp) ?_ | refine zx (by simp) (by simp) (by simp (maxDischargeDepth := 30) [zs, zV, zA]) ?_ | fail); simp) | (refine zb (fun hc => ?_) (fun hc => ?_) <;> try simp at hc) | fail)
theorem zjn (l : List Ru) (f : Bool) (d a : Int) (hl : l.length < 2932031007403) : PCalls Tryz.prog 170 [zu l f, .raw (.int .i64 d), .raw (.int .u32 a)] (.tup [zE (zbb (l.filter (zba d a false))), .raw (.bool (l.any (zba d a false)))]) := by
  have hf := zfJ l f d a false hl
  obtain ⟨b, hb⟩ : ∃ b, l.any (zba d a false) = b := ⟨_, rfl⟩
  obtain ⟨m, hmm⟩ : ∃ m, zbb (l.filter (zba d a false)) = m := ⟨_, rfl⟩
  rw [hb, hmm] at hf ⊢
  refine zJ Tryz.func170 rfl (N := 14) rfl rfl (by simp) (by simp [noIds, zE]) fun σ => ?_
  have hps : ∀ (q : Ru) (m : Ru), setPart (zE q) 0 [.raw (.int .i64 m.id), .raw (.int .i64 m.dev), .raw (.int .i64 m.prio), .raw (.int .i64 m.kind), .raw (.int .u32 m.r.lo), .raw (.int .u32 m.r.hi), .raw (.int .i64 m.port)] = zE m := fun _ _ => rfl
  (try ((first | with_reducible refine zh ?_ | with_reducible refine zm ?_ | with_reducible refine zo ?_); simp)); repeat' (first | ((first | refine zd ?_ | refine zg ?_ | refine dN (by decide +kernel) ?_ | (refine za ?_ ?_ <;> (intro hg; simp only [hg])) | fail) <;> simp) | refine zf ?_ | refine zc ?_ | (refine zp ?_; simp only [zq]; try simp) | ((first | refine zl (by simp) ?_ | refine zx (by simp) (by simp) (by simp (maxDischargeDepth := 30)) ?_ | fail); simp) | (refine zb (fun hc => ?_) (fun hc => ?_) <;> try simp at hc) | fail)
  refine PCalls.use hf ?_
  (try ((first | with_reducible refine zh ?_ | with_reducible refine zm ?_ | with_reducible refine zo ?_); simp [zs, zV, zA, hps])); repeat' (first | ((first | refine zd ?_ | refine zg ?_ | refine dN (by decide +kernel) ?_ | (refine za ?_ ?_ <;> (intro hg; simp only [hg])) | fail) <;> simp [zs, zV, zA, hps]) | refine zf ?_ | refine zc ?_ | (refine zp ?_; simp only [zq]; try simp) | (refine zb (fun hc => ?_) (fun hc => ?_) <;> try simp at hc) | fail)
  refine zx (.inr rfl) rfl (by repeat (first | exact Ext.refl _ | refine zv ?_ | refine Ext.setF ?_ (by simp [St.set, zk]))) ?_
  simp [St.set, St.new, zs]
  exact zA _
theorem zle {r : Ru} (h : 0 ≤ r.kind ∧ r.kind ≤ 3) (d a : Int) : zba d a true r = zcA d a r := by
  unfold zba zcA zcY
  rw [Bool.eq_iff_iff]
  simp
  omega
theorem zlf {r : Ru} (h : 0 ≤ r.kind ∧ r.kind ≤ 3) (d a : Int) : zba d a false r = zcB d a r := by
  unfold zba zcB zcY
  rw [Bool.eq_iff_iff]
  simp
  omega
end Go.Proofs.YtanimmdlgmkmkaaGreat.Av
namespace Go.Proofs.YtanimmdlgmkmkaaGreat.Av
set_option linter.unusedSimpArgs false
set_option linter.unusedVariables false
inductive Tr where
  | nil
  | node (l : Tr) (k v : Int) (r : Tr)
namespace Tr
def ht : Tr → Int
  | nil => 0
  | node l _ _ r => 1 + max l.ht r.ht
def sz : Tr → Int
  | nil => 0
  | node l _ _ r => 1 + l.sz + r.sz
def toL : Tr → List (Int × Int)
  | nil => []
  | node l k v r => l.toL ++ (k, v) :: r.toL
theorem ht_nn : ∀ t : Tr, 0 ≤ t.ht
  | nil => by simp [ht]
  | node l k v r => by have := ht_nn l; have := ht_nn r; simp only [ht]; omega
theorem sz_nn : ∀ t : Tr, 0 ≤ t.sz
  | nil => by simp [sz]
  | node l k v r => by have := sz_nn l; have := sz_nn r; simp only [sz]; omega
theorem ht_le : ∀ t : Tr, t.ht ≤ t.sz
  | nil => by simp [ht, sz]
  | node l k v r => by have := ht_le l; have := ht_le r; have := sz_nn l; have := sz_nn r; simp only [ht, sz]; omega
theorem sz_toL : ∀ t : Tr, t.sz = t.toL.length
  | nil => by simp [sz, toL]
  | node l k v r => by have := sz_toL l; have := sz_toL r; simp only [sz, toL, List.length_append, List.length_cons]; omega
def left : Tr → Tr
  | nil => nil
  | node l _ _ _ => l
def right : Tr → Tr
  | nil => nil
  | node _ _ _ r => r
def even (l : Tr) (k v : Int) (r : Tr) : Tr :=
  if r.ht + 1 < l.ht then
    match l with
    | nil => nil
    | node ll lk lv lr => if lr.ht ≤ ll.ht then node ll lk lv (node lr k v r) else match lr with
      | nil => nil
      | node a mk mv b => node (node ll lk lv a) mk mv (node b k v r)
  else if l.ht + 1 < r.ht then
    match r with
    | nil => nil
    | node rl rk rv rr => if rl.ht ≤ rr.ht then node (node l k v rl) rk rv rr else match rl with
      | nil => nil
      | node a mk mv b => node (node l k v a) mk mv (node b rk rv rr)
  else node l k v r
theorem zcC (l : Tr) (k v : Int) (r : Tr) : (even l k v r).toL = l.toL ++ (k, v) :: r.toL := by
  unfold even
  split
  · rename_i h
    cases l with
    | nil => have := ht_nn r; simp only [ht] at h; omega
    | node ll lk lv lr =>
      simp only []
      split
      · simp [toL]
      · rename_i h2
        cases lr with
        | nil => have := ht_nn ll; simp only [ht] at h2; omega
        | node a mk mv b => simp [toL]
  · split
    · rename_i h
      cases r with
      | nil => have := ht_nn l; simp only [ht] at h; omega
      | node rl rk rv rr =>
        simp only []
        split
        · simp [toL]
        · rename_i h2
          cases rl with
          | nil => have := ht_nn rr; simp only [ht] at h2; omega
          | node a mk mv b => simp [toL]
    · simp [toL]
theorem even_sz (l : Tr) (k v : Int) (r : Tr) : (even l k v r).sz = 1 + l.sz + r.sz := by
  rw [sz_toL, zcC, sz_toL l, sz_toL r]
  simp only [List.length_append, List.length_cons]
  omega
def with_ : Tr → Int → Int → Tr
  | nil, k, v => node nil k v nil
  | node l k' v' r, k, v => if k < k' then even (l.with_ k v) k' v' r else if k' < k then even l k' v' (r.with_ k v) else node l k v r
def get : Tr → Int → Option Int
  | nil, _ => none
  | node l k' v' r, k => if k < k' then l.get k else if k' < k then r.get k else some v'
def least : Tr → (Int × Int) × Tr
  | nil => ((0, 0), nil)
  | node nil k v r => ((k, v), r)
  | node (node a b c d) k v r => ((node a b c d).least.1, even (node a b c d).least.2 k v r)
def without : Tr → Int → Tr
  | nil, _ => nil
  | node l k' v' r, k => if k < k' then even (l.without k) k' v' r else if k' < k then even l k' v' (r.without k) else match r with
    | nil => l
    | node a b c d => even l (node a b c d).least.1.1 (node a b c d).least.1.2 (node a b c d).least.2
def under : Tr → Int → Int
  | nil, _ => 0
  | node l k' _ r, k => if k' < k then 1 + l.sz + r.under k else l.under k
def at_ : Tr → Int → Option (Int × Int)
  | nil, _ => none
  | node l k v r, i => if i < l.sz then l.at_ i else if l.sz < i then r.at_ (i - (1 + l.sz)) else some (k, v)
def join (l : Tr) (k v : Int) (r : Tr) : Tr :=
  if r.ht + 1 < l.ht then
    match l with
    | nil => nil
    | node ll lk lv lr => even ll lk lv (join lr k v r)
  else if l.ht + 1 < r.ht then
    match r with
    | nil => nil
    | node rl rk rv rr => even (join l k v rl) rk rv rr
  else node l k v r
termination_by SizeOf.sizeOf l + SizeOf.sizeOf r
def cut : Tr → Int → Tr × Tr
  | nil, _ => (nil, nil)
  | node l k v r, b => if k < b then (join l k v (r.cut b).1, (r.cut b).2) else ((l.cut b).1, join (l.cut b).2 k v r)
theorem join_toL (l : Tr) (k v : Int) (r : Tr) : (join l k v r).toL = l.toL ++ (k, v) :: r.toL := by
  fun_induction join l k v r with
  | case1 r h => have := ht_nn r; simp only [ht] at h; omega
  | case2 r ll lk lv lr h ih => rw [zcC, ih]; simp [toL]
  | case3 l h1 h => have := ht_nn l; simp only [ht] at h; omega
  | case4 l rl rk rv rr h1 h ih => rw [zcC, ih]; simp [toL]
  | case5 l r h1 h2 => simp [toL]
def Srt (l : List (Int × Int)) : Prop := l.Pairwise fun a b => a.1 < b.1
def Lt (b : Int) (l : List (Int × Int)) : Prop := ∀ e ∈ l, e.1 < b
def Gt (b : Int) (l : List (Int × Int)) : Prop := ∀ e ∈ l, b < e.1
theorem zge {l : Tr} {k v : Int} {r : Tr} : Srt (node l k v r).toL ↔ Srt l.toL ∧ Srt r.toL ∧ Lt k l.toL ∧ Gt k r.toL := by
  simp only [Srt, toL, Lt, Gt]
  rw [List.pairwise_append, List.pairwise_cons]
  constructor
  · rintro ⟨h1, ⟨h2, h3⟩, h4⟩
    exact ⟨h1, h3, fun e he => h4 e he (k, v) (by simp), fun e he => h2 e he⟩
  · rintro ⟨h1, h2, h3, h4⟩
    refine ⟨h1, ⟨fun e he => h4 e he, h2⟩, fun a ha b hb => ?_⟩
    rcases List.mem_cons.1 hb with rfl | hb
    · exact h3 a ha
    · have := h3 a ha; have := h4 b hb; omega
def put (l : List (Int × Int)) (k v : Int) : List (Int × Int) := l.filter (fun e => decide (e.1 < k)) ++ (k, v) :: l.filter (fun e => decide (k < e.1))
theorem zbN {p : Int × Int → Bool} {l : List (Int × Int)} (h : ∀ e ∈ l, p e = true) : l.filter p = l := List.filter_eq_self.2 h
theorem zdv {p : Int × Int → Bool} {l : List (Int × Int)} (h : ∀ e ∈ l, p e = false) : l.filter p = [] := List.filter_eq_nil_iff.2 fun e he => by simp [h e he]
theorem with_toL : ∀ (t : Tr) (k v : Int), Srt t.toL → (t.with_ k v).toL = put t.toL k v
  | nil, k, v, _ => by simp [with_, toL, put]
  | node l k' v' r, k, v, h => by
    obtain ⟨h1, h2, h3, h4⟩ := zge.1 h
    simp only [with_]
    split
    · rename_i hk
      rw [zcC, with_toL l k v h1]
      simp only [put, toL, List.filter_append, List.filter_cons]
      have e1 : r.toL.filter (fun e => decide (e.1 < k)) = [] := zdv fun e he => by have := h4 e he; simp; omega
      have e2 : r.toL.filter (fun e => decide (k < e.1)) = r.toL := zbN fun e he => by have := h4 e he; simp; omega
      have e3 : ¬ k' < k := by omega
      simp [e1, e2, hk, e3]
    · split
      · rename_i hk0 hk
        rw [zcC, with_toL r k v h2]
        simp only [put, toL, List.filter_append, List.filter_cons]
        have e1 : l.toL.filter (fun e => decide (k < e.1)) = [] := zdv fun e he => by have := h3 e he; simp; omega
        have e2 : l.toL.filter (fun e => decide (e.1 < k)) = l.toL := zbN fun e he => by have := h3 e he; simp; omega
        simp [e1, e2, hk, hk0]
      · have : k = k' := by omega
        subst this
        simp only [put, toL, List.filter_append, List.filter_cons]
        have e1 : l.toL.filter (fun e => decide (k < e.1)) = [] := zdv fun e he => by have := h3 e he; simp; omega
        have e2 : l.toL.filter (fun e => decide (e.1 < k)) = l.toL := zbN fun e he => by have := h3 e he; simp; omega
        have e3 : r.toL.filter (fun e => decide (e.1 < k)) = [] := zdv fun e he => by have := h4 e he; simp; omega
        have e4 : r.toL.filter (fun e => decide (k < e.1)) = r.toL := zbN fun e he => by have := h4 e he; simp; omega
        simp [e1, e2, e3, e4]
theorem put_srt {l : List (Int × Int)} (h : Srt l) (k v : Int) : Srt (put l k v) := by
  unfold Srt put
  rw [List.pairwise_append, List.pairwise_cons]
  refine ⟨h.filter _, ⟨fun e he => by simpa using (List.mem_filter.1 he).2, h.filter _⟩, fun a ha b hb => ?_⟩
  have h1 := (List.mem_filter.1 ha).2
  simp only [decide_eq_true_eq] at h1
  rcases List.mem_cons.1 hb with rfl | hb
  · exact h1
  · have h2 := (List.mem_filter.1 hb).2
    simp only [decide_eq_true_eq] at h2
    omega
theorem get_eq : ∀ (t : Tr) (k : Int), Srt t.toL → t.get k = (t.toL.find? fun e => decide (e.1 = k)).map (·.2)
  | nil, k, _ => by simp [get, toL]
  | node l k' v' r, k, h => by
    obtain ⟨h1, h2, h3, h4⟩ := zge.1 h
    simp only [get, toL, List.find?_append, List.find?_cons]
    split
    · rename_i hk
      have e1 : r.toL.find? (fun e => decide (e.1 = k)) = none := List.find?_eq_none.2 fun e he => by have := h4 e he; simp; omega
      have e2 : decide (k' = k) = false := by simp; omega
      rw [get_eq l k h1, e1, e2]; simp
    · split
      · rename_i hk0 hk
        have e1 : l.toL.find? (fun e => decide (e.1 = k)) = none := List.find?_eq_none.2 fun e he => by have := h3 e he; simp; omega
        have e2 : decide (k' = k) = false := by simp; omega
        rw [get_eq r k h2, e1, e2]; simp
      · have : k' = k := by omega
        subst this
        have e1 : l.toL.find? (fun e => decide (e.1 = k')) = none := List.find?_eq_none.2 fun e he => by have := h3 e he; simp; omega
        rw [e1]; simp
theorem get_none {t : Tr} (h : Srt t.toL) (k : Int) : t.get k = none ↔ k ∉ t.toL.map (·.1) := by
  rw [get_eq t k h]
  simp only [Option.map_eq_none_iff, List.find?_eq_none, decide_eq_true_eq, List.mem_map, not_exists, not_and]
theorem get_with {t : Tr} (h : Srt t.toL) (k v k2 : Int) : (t.with_ k v).get k2 = if k2 = k then some v else t.get k2 := by
  have hs : Srt (t.with_ k v).toL := by rw [with_toL t k v h]; exact put_srt h k v
  rw [get_eq _ _ hs, with_toL t k v h, get_eq _ _ h]
  simp only [put, List.find?_append, List.find?_cons]
  by_cases e : k2 = k
  · subst e
    have e1 : (t.toL.filter fun e => decide (e.1 < k2)).find? (fun e => decide (e.1 = k2)) = none := List.find?_eq_none.2 fun e he => by have := (List.mem_filter.1 he).2; simp at this ⊢; omega
    rw [e1]; simp
  · rw [if_neg e]
    have e2 : decide (k = k2) = false := by simp; omega
    rw [e2]
    simp only [Bool.false_eq_true, if_false, List.find?_filter]
    congr 1
    have : ∀ l : List (Int × Int), Srt l → (l.find? fun a => decide (a.1 < k) && decide (a.1 = k2)).or (l.find? fun a => decide (k < a.1) && decide (a.1 = k2)) = l.find? fun a => decide (a.1 = k2) := by
      intro l hl
      induction l with
      | nil => rfl
      | cons a l ih =>
        have hl' := List.pairwise_cons.1 hl
        simp only [List.find?_cons]
        by_cases q : a.1 = k2
        · by_cases q2 : a.1 < k
          · simp [q, q2]; rw [q] at q2; simp [q2]
          · have q3 : k < a.1 := by omega
            have q4 : l.find? (fun a => decide (a.1 < k) && decide (a.1 = k2)) = none := List.find?_eq_none.2 fun e he => by have := hl'.1 e he; simp; omega
            rw [q4]
            simp [q, q2]
            rw [q] at q2 q3; simp [q2, q3]
        · simp [q]; exact ih hl'.2
    simp only [Bool.decide_and, Bool.decide_eq_true]
    exact this _ h
theorem at_eq : ∀ (t : Tr) (i : Int), 0 ≤ i → t.at_ i = t.toL[i.toNat]?
  | nil, i, _ => by simp [at_, toL]
  | node l k v r, i, hi => by
    simp only [at_, toL]
    have hz := sz_toL l
    split
    · rename_i h
      rw [at_eq l i hi, List.getElem?_append_left (by omega)]
    · split
      · rename_i h0 h
        rw [at_eq r _ (by omega), List.getElem?_append_right (by omega)]
        have : i.toNat - l.toL.length = (i - (1 + l.sz)).toNat + 1 := by omega
        rw [this, List.getElem?_cons_succ]
      · have : i.toNat = l.toL.length := by omega
        rw [this, List.getElem?_append_right (by omega)]
        simp
theorem zjo : ∀ (t : Tr) (b : Int), Srt t.toL → (t.cut b).1.toL = t.toL.filter (fun e => decide (e.1 < b)) ∧ (t.cut b).2.toL = t.toL.filter (fun e => decide (b ≤ e.1))
  | nil, b, _ => by simp [cut, toL]
  | node l k v r, b, h => by
    obtain ⟨h1, h2, h3, h4⟩ := zge.1 h
    simp only [cut, toL, List.filter_append, List.filter_cons]
    split
    · rename_i hk
      obtain ⟨i1, i2⟩ := zjo r b h2
      simp only [join_toL, i1, i2]
      have e1 : l.toL.filter (fun e => decide (e.1 < b)) = l.toL := zbN fun e he => by have := h3 e he; simp; omega
      have e2 : l.toL.filter (fun e => decide (b ≤ e.1)) = [] := zdv fun e he => by have := h3 e he; simp; omega
      have e3 : ¬ b ≤ k := by omega
      simp [e1, e2, e3, hk]
    · rename_i hk
      obtain ⟨i1, i2⟩ := zjo l b h1
      simp only [join_toL, i1, i2]
      have e1 : r.toL.filter (fun e => decide (b ≤ e.1)) = r.toL := zbN fun e he => by have := h4 e he; simp; omega
      have e2 : r.toL.filter (fun e => decide (e.1 < b)) = [] := zdv fun e he => by have := h4 e he; simp; omega
      have e3 : b ≤ k := by omega
      simp [e1, e2, e3, hk]
theorem cut_len (t : Tr) (b : Int) (h : Srt t.toL) : (t.cut b).1.sz = (t.toL.countP fun e => decide (e.1 < b) : Nat) := by
  rw [sz_toL, (zjo t b h).1, List.countP_eq_length_filter]
theorem least_toL : ∀ (t : Tr), t ≠ nil → t.toL = t.least.1 :: t.least.2.toL
  | nil, h => absurd rfl h
  | node nil k v r, _ => by simp [least, toL]
  | node (node a b c d) k v r, _ => by
    have := least_toL (node a b c d) (by simp)
    simp only [least, zcC]
    rw [toL, this]; simp
theorem without_toL : ∀ (t : Tr) (k : Int), Srt t.toL → (t.without k).toL = t.toL.filter fun e => !decide (e.1 = k)
  | nil, k, _ => by simp [without, toL]
  | node l k' v' r, k, h => by
    obtain ⟨h1, h2, h3, h4⟩ := zge.1 h
    simp only [without]
    split
    · rename_i hk
      rw [zcC, without_toL l k h1]
      simp only [toL, List.filter_append, List.filter_cons]
      have e1 : r.toL.filter (fun e => !decide (e.1 = k)) = r.toL := zbN fun e he => by have := h4 e he; simp; omega
      have e2 : ¬ k' = k := by omega
      simp [e1, e2]
    · split
      · rename_i hk0 hk
        rw [zcC, without_toL r k h2]
        simp only [toL, List.filter_append, List.filter_cons]
        have e1 : l.toL.filter (fun e => !decide (e.1 = k)) = l.toL := zbN fun e he => by have := h3 e he; simp; omega
        have e2 : ¬ k' = k := by omega
        simp [e1, e2]
      · have : k' = k := by omega
        subst this
        have e1 : l.toL.filter (fun e => !decide (e.1 = k')) = l.toL := zbN fun e he => by have := h3 e he; simp; omega
        have e2 : r.toL.filter (fun e => !decide (e.1 = k')) = r.toL := zbN fun e he => by have := h4 e he; simp; omega
        cases r with
        | nil =>
          simp only [toL, List.filter_append, List.filter_cons]
          simp [e1]
        | node a b c d =>
          simp only [zcC]
          have h5 := least_toL (node a b c d) (by simp)
          rw [toL, List.filter_append, List.filter_cons, e1, e2]
          simp only [decide_true, Bool.not_true, Bool.false_eq_true, if_false]
          rw [h5]
end Tr
end Go.Proofs.YtanimmdlgmkmkaaGreat.Av
namespace Go.Proofs.YtanimmdlgmkmkaaGreat.Av
open Go
set_option linter.unusedSimpArgs false
set_option linter.unusedVariables false
set_option maxRecDepth 100000
set_option maxHeartbeats 2000000
set_option pp.maxSteps 300
def zdY (l : List Ru) (d a : Int) : Bool := l.any (zcA d a) && decide ((zbb (l.filter (zcA d a))).kind = 3)
theorem zlg (l : List Ru) (f : Bool) (d a : Int) (hl : l.length < 2932031007403) : PCalls Tryz.prog 200 [zu l f, .raw (.int .i64 d), .raw (.int .u32 a)] (.raw (.bool (zdY l d a))) := by
  have hf := zhG (g := 216) (caps := [.pp [.raw (.int .i64 d)] 0, .pp [.raw (.int .u32 a)] 0]) l f hl (fun r _ => zmZ r d a)
  obtain ⟨b, hb⟩ : ∃ b, l.any (zcA d a) = b := ⟨_, rfl⟩
  obtain ⟨m, hmm⟩ : ∃ m, zbb (l.filter (zcA d a)) = m := ⟨_, rfl⟩
  unfold zdY
  rw [hb, hmm] at hf ⊢
  refine zJ Tryz.func200 rfl (N := 21) rfl rfl (by simp) (by simp [noIds]) fun σ => ?_
  repeat (refine zf ?_)
  refine zg ?_
  simp
  refine zaf ⟨4, σ.nx 4, 1⟩ ?_
  refine zaf ⟨5, σ.nx 5, 1⟩ ?_
  generalize hτ : St.del _ _ = τ
  generalize hA : (fun t => zF _ _ _) = A
  have a0 : A 0 = zu l f := by rw [← hA]; simp [zu]
  have a4 : A 4 = .pp [.raw (.int .i64 d)] 0 := by rw [← hA, ← hτ]; simp [zF, St.new, St.del]
  have a5 : A 5 = .pp [.raw (.int .u32 a)] 0 := by rw [← hA, ← hτ]; simp [zF, St.new, St.del]
  have hE : Ext σ τ := by
    rw [← hτ]
    refine ⟨fun i o h => ?_, fun s => ?_⟩
    · rw [zR (fun e => by rw [e, zk] at h; cases h), zR (fun e => by rw [e, zk] at h; cases h)]
      exact zaP _ _ (zaP _ _ h)
    · exact Nat.le_trans (St.new_le σ 4 1 (.buf [.raw (.int .i64 d)]) s) (St.new_le (σ.new 4 1 (.buf [.raw (.int .i64 d)])) 5 1 (.buf [.raw (.int .u32 a)]) s)
  clear hτ hA
  (try ((first | with_reducible refine zh ?_ | with_reducible refine zm ?_ | with_reducible refine zo ?_); simp [a0, a4, a5])); repeat' (first | ((first | refine zd ?_ | refine zg ?_ | refine dN (by decide +kernel) ?_ | (refine za ?_ ?_ <;> (intro hg; simp only [hg])) | fail) <;> simp [a0, a4, a5]) | refine zf ?_ | refine zc ?_ | (refine zp ?_; simp only [zq]; try simp) | ((first | refine zl (by simp) ?_ | refine zx (by simp) (by simp) (by simp (maxDischargeDepth := 30) [a0, a4, a5]) ?_ | fail); simp) | (refine zb (fun hc => ?_) (fun hc => ?_) <;> try simp at hc) | fail)
  refine PCalls.use hf ?_
  (try ((first | with_reducible refine zh ?_ | with_reducible refine zm ?_ | with_reducible refine zo ?_); simp [a0, a4, a5, zs, zV, hE])); repeat' (first | ((first | refine zd ?_ | refine zg ?_ | refine dN (by decide +kernel) ?_ | (refine za ?_ ?_ <;> (intro hg; simp only [hg])) | fail) <;> simp [a0, a4, a5, zs, zV, hE]) | refine zf ?_ | refine zc ?_ | (refine zp ?_; simp only [zq]; try simp) | ((first | refine zl (by simp) ?_ | refine zx (by simp) (by simp) (by simp (maxDischargeDepth := 30) [a0, a4, a5, zs, zV, hE]) ?_ | fail); simp) | (refine zb (fun hc => ?_) (fun hc => ?_) <;> try simp at hc) | fail)
def zdg (l : List Ru) (d a : Int) : Ru := zbb (l.filter (zcB d a))
def ze0 (l : List Ru) (d a : Int) : Bool := l.any (zcB d a)
theorem zl7 (l : List Ru) (f : Bool) (d a : Int) (hl : l.length < 2932031007403) : PCalls Tryz.prog 201 [zu l f, .raw (.int .i64 d), .raw (.int .u32 a)] (.tup [zE (zdg l d a), .raw (.bool (ze0 l d a))]) := by
  have hf := zhG (g := 218) (caps := [.pp [.raw (.int .i64 d)] 0, .pp [.raw (.int .u32 a)] 0]) l f hl (fun r _ => zm0 r d a)
  unfold zdg ze0
  obtain ⟨b, hb⟩ : ∃ b, l.any (zcB d a) = b := ⟨_, rfl⟩
  obtain ⟨m, hmm⟩ : ∃ m, zbb (l.filter (zcB d a)) = m := ⟨_, rfl⟩
  rw [hb, hmm] at hf ⊢
  refine zJ Tryz.func201 rfl (N := 13) rfl rfl (by simp) (by simp [noIds, zE]) fun σ => ?_
  repeat (refine zf ?_)
  refine zg ?_
  simp
  refine zaf ⟨4, σ.nx 4, 1⟩ ?_
  refine zaf ⟨5, σ.nx 5, 1⟩ ?_
  generalize hτ : St.del _ _ = τ
  generalize hA : (fun t => zF _ _ _) = A
  have a0 : A 0 = zu l f := by rw [← hA]; simp [zu]
  have a4 : A 4 = .pp [.raw (.int .i64 d)] 0 := by rw [← hA, ← hτ]; simp [zF, St.new, St.del]
  have a5 : A 5 = .pp [.raw (.int .u32 a)] 0 := by rw [← hA, ← hτ]; simp [zF, St.new, St.del]
  have a6 : A 6 = .rp ⟨6, σ.nx 6, 7⟩ 0 0 := by rw [← hA, ← hτ]; simp [zF, St.new, St.del]
  have m6 : τ.m ⟨6, σ.nx 6, 7⟩ = some (.buf [zE ⟨0, 0, 0, 0, ⟨0, 0⟩, 0⟩]) := by rw [← hτ]; simp [St.new, St.del, zE]
  have hE : Ext σ τ := by
    rw [← hτ]
    refine ⟨fun i o h => ?_, fun s => ?_⟩
    · rw [zR (fun e => by rw [e, zk] at h; cases h), zR (fun e => by rw [e, zk] at h; cases h)]
      exact zaP _ _ (zaP _ _ (zaP _ _ h))
    · exact Nat.le_trans (Nat.le_trans (St.new_le σ 4 1 (.buf [.raw (.int .i64 d)]) s) (St.new_le (σ.new 4 1 (.buf [.raw (.int .i64 d)])) 5 1 (.buf [.raw (.int .u32 a)]) s)) (St.new_le ((σ.new 4 1 (.buf [.raw (.int .i64 d)])).new 5 1 (.buf [.raw (.int .u32 a)])) 6 7 (.buf [zE ⟨0, 0, 0, 0, ⟨0, 0⟩, 0⟩]) s)
  clear hτ hA
  have f6 : σ.m ⟨6, σ.nx 6, 7⟩ = none := zk _ _ _
  (try ((first | with_reducible refine zh ?_ | with_reducible refine zm ?_ | with_reducible refine zo ?_); simp [a0, a4, a5, a6, m6])); repeat' (first | ((first | refine zd ?_ | refine zg ?_ | refine dN (by decide +kernel) ?_ | (refine za ?_ ?_ <;> (intro hg; simp only [hg])) | fail) <;> simp [a0, a4, a5, a6, m6]) | refine zf ?_ | refine zc ?_ | (refine zp ?_; simp only [zq]; try simp) | ((first | refine zl (by simp) ?_ | refine zx (by simp) (by simp) (by simp (maxDischargeDepth := 30) [a0, a4, a5, a6, m6]) ?_ | fail); simp) | (refine zb (fun hc => ?_) (fun hc => ?_) <;> try simp at hc) | fail)
  refine PCalls.use hf ?_
  (try ((first | with_reducible refine zh ?_ | with_reducible refine zm ?_ | with_reducible refine zo ?_); simp [a0, a4, a5, a6, m6, zs, zbv])); repeat' (first | ((first | refine zd ?_ | refine zg ?_ | refine dN (by decide +kernel) ?_ | (refine za ?_ ?_ <;> (intro hg; simp only [hg])) | fail) <;> simp [a0, a4, a5, a6, m6, zs, zbv]) | refine zf ?_ | refine zc ?_ | (refine zp ?_; simp only [zq]; try simp) | (refine zb (fun hc => ?_) (fun hc => ?_) <;> try simp at hc) | fail)
  exact zx (.inr rfl) rfl (hE.setF f6) (by simp [a6, m6, St.set, zs]; exact zA _)
def zbK (last : Int) : List Ru → Bool
  | [] => true
  | r :: l => zcm r && decide (last < r.id) && zbK r.id l
def zcD (l : List Ru) : Bool := zbK 0 l && decide (l.length ≤ 40)
theorem znI (l : List Ru) (f : Bool) (hl : l.length < 2932031007403) : PCalls Tryz.prog 126 [zu l f] (.raw (.bool (zcD l))) := by
  refine zJ Tryz.func126 rfl (N := 27) rfl rfl (by simp) (by simp [noIds]) fun σ => ?_
  (try ((first | with_reducible refine zh ?_ | with_reducible refine zm ?_ | with_reducible refine zo ?_); simp [zu])); repeat' (first | ((first | refine zd ?_ | refine zg ?_ | refine dN (by decide +kernel) ?_ | (refine za ?_ ?_ <;> (intro hg; simp only [hg])) | fail) <;> simp [zu]) | refine zf ?_ | refine zc ?_ | (refine zp ?_; simp only [zq]; try simp) | ((first | refine zl (by simp) ?_ | refine zx (by simp) (by simp) (by simp (maxDischargeDepth := 30) [zu]) ?_ | fail); simp) | (refine zb (fun hc => ?_) (fun hc => ?_) <;> try simp at hc) | fail)
  refine zZ (fun n A τ => Ext σ τ ∧ A 0 = zu l f ∧ A 6 = zu l f ∧ A 7 = .raw (.int .i64 l.length) ∧ ∃ (i : Nat) (last : Int), A 8 = .raw (.int .i64 i) ∧ A 3 = .raw (.int .i64 last) ∧ i ≤ l.length ∧ n = l.length - i ∧ zbK 0 l = zbK last (l.drop i)) l.length ?_ ?_
  · exact ⟨by simp, by simp [zu], by simp [zu], by simp [zu], 0, 0, by simp, by simp, by omega, by omega, by simp⟩
  rintro n A τ ⟨hE, a0, a6, a7, i, last, a8, a3, hi, rfl, hall⟩ I1 hI1
  by_cases hlt : i < l.length
  · have hx : l[i]? = some l[i] := List.getElem?_eq_getElem hlt
    have w1 : IntKind.i64.wrap ((i : Int) + 1) = ((i + 1 : Nat) : Int) := by rw [zU (by omega) (by omega)]; omega
    have hd : l.drop i = l[i] :: l.drop (i + 1) := List.drop_eq_getElem_cons hlt
    rw [hd] at hall
    simp only [zbK] at hall
    obtain ⟨b, hb⟩ : ∃ b, zcm l[i] = b := ⟨_, rfl⟩
    have hr := hb ▸ ziT l[i]
    rw [hb] at hall
    (try ((first | with_reducible refine zh ?_ | with_reducible refine zm ?_ | with_reducible refine zo ?_); simp [zu, a0, a6, a7, a8, a3, hlt, hx, zs, zV, zA, w1])); repeat' (first | ((first | refine zd ?_ | refine zg ?_ | refine dN (by decide +kernel) ?_ | (refine za ?_ ?_ <;> (intro hg; simp only [hg])) | fail) <;> simp [zu, a0, a6, a7, a8, a3, hlt, hx, zs, zV, zA, w1]) | refine zf ?_ | refine zc ?_ | (refine zp ?_; simp only [zq]; try simp) | ((first | refine zl (by simp) ?_ | refine zx (by simp) (by simp) (by simp (maxDischargeDepth := 30) [zu, a0, a6, a7, a8, a3, hlt, hx, zs, zV, zA, w1]) ?_ | fail); simp) | (refine zb (fun hc => ?_) (fun hc => ?_) <;> try simp at hc) | fail)
    refine PCalls.use hr ?_
    cases b with
    | false =>
      (try ((first | with_reducible refine zh ?_ | with_reducible refine zm ?_ | with_reducible refine zo ?_); simp [zu, a0, a6, a7, a8, a3, hlt, hx, zs, zV, zA, w1, hE])); repeat' (first | ((first | refine zd ?_ | refine zg ?_ | refine dN (by decide +kernel) ?_ | (refine za ?_ ?_ <;> (intro hg; simp only [hg])) | fail) <;> simp [zu, a0, a6, a7, a8, a3, hlt, hx, zs, zV, zA, w1, hE]) | refine zf ?_ | refine zc ?_ | (refine zp ?_; simp only [zq]; try simp) | ((first | refine zl (by simp) ?_ | refine zx (by simp) (by simp) (by simp (maxDischargeDepth := 30) [zu, a0, a6, a7, a8, a3, hlt, hx, zs, zV, zA, w1, hE]) ?_ | fail); simp) | (refine zb (fun hc => ?_) (fun hc => ?_) <;> try simp at hc) | fail)
      simp [zcD, hall]
    | true =>
      by_cases hlast : l[i].id ≤ last
      · (try ((first | with_reducible refine zh ?_ | with_reducible refine zm ?_ | with_reducible refine zo ?_); simp [zu, a0, a6, a7, a8, a3, hlt, hx, zs, zV, zA, w1, hE, hlast])); repeat' (first | ((first | refine zd ?_ | refine zg ?_ | refine dN (by decide +kernel) ?_ | (refine za ?_ ?_ <;> (intro hg; simp only [hg])) | fail) <;> simp [zu, a0, a6, a7, a8, a3, hlt, hx, zs, zV, zA, w1, hE, hlast]) | refine zf ?_ | refine zc ?_ | (refine zp ?_; simp only [zq]; try simp) | ((first | refine zl (by simp) ?_ | refine zx (by simp) (by simp) (by simp (maxDischargeDepth := 30) [zu, a0, a6, a7, a8, a3, hlt, hx, zs, zV, zA, w1, hE, hlast]) ?_ | fail); simp) | (refine zb (fun hc => ?_) (fun hc => ?_) <;> try simp at hc) | fail)
        have : ¬ last < l[i].id := by omega
        simp [zcD, hall, this]
      · (try ((first | with_reducible refine zh ?_ | with_reducible refine zm ?_ | with_reducible refine zo ?_); simp [zu, a0, a6, a7, a8, a3, hlt, hx, zs, zV, zA, w1, hlast])); repeat' (first | ((first | refine zd ?_ | refine zg ?_ | refine dN (by decide +kernel) ?_ | (refine za ?_ ?_ <;> (intro hg; simp only [hg])) | fail) <;> simp [zu, a0, a6, a7, a8, a3, hlt, hx, zs, zV, zA, w1, hlast]) | refine zf ?_ | refine zc ?_ | (refine zp ?_; simp only [zq]; try simp) | ((first | refine zl (by simp) ?_ | refine zx (by simp) (by simp) (by simp (maxDischargeDepth := 30) [zu, a0, a6, a7, a8, a3, hlt, hx, zs, zV, zA, w1, hlast]) ?_ | fail); simp) | (refine zb (fun hc => ?_) (fun hc => ?_) <;> try simp at hc) | fail)
        have hg : last < l[i].id := by omega
        exact hI1 (l.length - (i + 1)) _ _ (by omega) ⟨by simp [hE], by simp [a0], by simp [a6, zu], by simp [a7], i + 1, l[i].id, by simp, by simp, by omega, rfl, by simpa [hg] using hall⟩
  · have : i = l.length := by omega
    subst this
    (try ((first | with_reducible refine zh ?_ | with_reducible refine zm ?_ | with_reducible refine zo ?_); simp [zu, a0, a6, a7, a8, a3, hE])); repeat' (first | ((first | refine zd ?_ | refine zg ?_ | refine dN (by decide +kernel) ?_ | (refine za ?_ ?_ <;> (intro hg; simp only [hg])) | fail) <;> simp [zu, a0, a6, a7, a8, a3, hE]) | refine zf ?_ | refine zc ?_ | (refine zp ?_; simp only [zq]; try simp) | ((first | refine zl (by simp) ?_ | refine zx (by simp) (by simp) (by simp (maxDischargeDepth := 30) [zu, a0, a6, a7, a8, a3, hE]) ?_ | fail); simp) | (refine zb (fun hc => ?_) (fun hc => ?_) <;> try simp at hc) | fail)
    rw [List.drop_length] at hall
    simp only [zbK] at hall
    simp [zcD, hall]
    omega
end Go.Proofs.YtanimmdlgmkmkaaGreat.Av
namespace Go.Proofs.YtanimmdlgmkmkaaGreat.Av
open Go
set_option linter.unusedSimpArgs false
set_option linter.unusedVariables false
set_option maxRecDepth 100000
set_option maxHeartbeats 2000000
set_option pp.maxSteps 300
def zaR (n : Nw) (d a : Int) : Int × Pt :=
  if zdY n.rules d a = true then (2, ⟨0, 0⟩) else if ze0 n.rules d a = false then (0, ⟨0, 0⟩) else if (zdg n.rules d a).kind = 1 then (1, ⟨0, 0⟩)
  else if (zcl n.t ⟨d, (zdg n.rules d a).port⟩).isSome = true then (4, ⟨d, (zdg n.rules d a).port⟩) else (3, ⟨d, (zdg n.rules d a).port⟩)
theorem zr (n : Nw) (f : Fl) : (z7 n f).cells = [zy n.t.ports f.p, zw n.t.links f.l, zu n.rules f.r] := rfl
theorem zm1 (n : Nw) (f : Fl) (d a : Int) (hl : n.t.links.length < 2 ^ 42) (hl2 : n.rules.length < 2932031007403) :
    PCalls Tryz.prog 158 [z7 n f, .raw (.int .i64 d), .raw (.int .u32 a)] (.tup [.raw (.int .i64 (zaR n d a).1), zQ (zaR n d a).2]) := by
  have hd := zlg n.rules f.r d a hl2
  have hm := zl7 n.rules f.r d a hl2
  have hn := fun p => zmX n.t f p hl
  unfold zaR
  obtain ⟨b1, h1⟩ : ∃ b, zdY n.rules d a = b := ⟨_, rfl⟩
  obtain ⟨b2, h2⟩ : ∃ b, ze0 n.rules d a = b := ⟨_, rfl⟩
  obtain ⟨r, hr⟩ : ∃ r, zdg n.rules d a = r := ⟨_, rfl⟩
  rw [h1] at hd
  rw [h2, hr] at hm
  rw [h1, h2, hr]
  clear h1 h2 hr
  have hn := hn ⟨d, r.port⟩
  obtain ⟨b3, h3⟩ : ∃ b, (zcl n.t ⟨d, r.port⟩).isSome = b := ⟨_, rfl⟩
  obtain ⟨q, hq⟩ : ∃ q, (zcl n.t ⟨d, r.port⟩).getD ⟨0, 0⟩ = q := ⟨_, rfl⟩
  rw [h3, hq] at hn
  rw [h3]
  refine zJ Tryz.func158 rfl (N := 50) rfl rfl (by simp) (by simp [noIds, zQ]) fun σ => ?_
  have ho1 : cellOK (zy n.t.ports f.p) = true := rfl
  have ho2 : cellOK (zw n.t.links f.l) = true := rfl
  have ho3 : cellOK (zu n.rules f.r) = true := rfl
  simp only [cellOK] at ho1 ho2 ho3
  have hpf : ∀ x y : Int, AV.agg [.raw (.int .i64 x), .raw (.int .i64 y)] = zQ ⟨x, y⟩ := fun _ _ => rfl
  have hpc : ∀ q : Pt, (zQ q).cells = [.raw (.int .i64 q.dev), .raw (.int .i64 q.port)] := fun q => rfl
  have hps : ∀ (q : Pt) (x y : Int), setPart (zQ q) 0 [.raw (.int .i64 x), .raw (.int .i64 y)] = zQ ⟨x, y⟩ := fun _ _ _ => rfl
  have f7 : σ.m ⟨7, σ.nx 7, 2⟩ = none := zk _ _ _
  have hnf : AV.agg [zy n.t.ports f.p, zw n.t.links f.l] = zat n.t f := rfl
  (try ((first | with_reducible refine zh ?_ | with_reducible refine zm ?_ | with_reducible refine zo ?_); simp [zr, ho1, ho2, ho3, hpf, hpc, hps])); repeat' (first | ((first | refine zd ?_ | refine zg ?_ | refine dN (by decide +kernel) ?_ | (refine za ?_ ?_ <;> (intro hg; simp only [hg])) | fail) <;> simp [zr, ho1, ho2, ho3, hpf, hpc, hps]) | refine zf ?_ | refine zc ?_ | (refine zp ?_; simp only [zq]; try simp) | ((first | refine zl (by simp) ?_ | refine zx (by simp) (by simp) (by simp (maxDischargeDepth := 30) [zr, ho1, ho2, ho3, hpf, hpc, hps]) ?_ | fail); simp) | (refine zb (fun hc => ?_) (fun hc => ?_) <;> try simp at hc) | fail)
  refine PCalls.use hd ?_
  cases b1 with
  | true =>
    (try ((first | with_reducible refine zh ?_ | with_reducible refine zm ?_ | with_reducible refine zo ?_); simp [zr, ho1, ho2, ho3, hpf, hpc, hps])); repeat' (first | ((first | refine zd ?_ | refine zg ?_ | refine dN (by decide +kernel) ?_ | (refine za ?_ ?_ <;> (intro hg; simp only [hg])) | fail) <;> simp [zr, ho1, ho2, ho3, hpf, hpc, hps]) | refine zf ?_ | refine zc ?_ | (refine zp ?_; simp only [zq]; try simp) | (refine zb (fun hc => ?_) (fun hc => ?_) <;> try simp at hc) | fail)
    refine zx (.inr rfl) rfl (by repeat (first | exact Ext.refl _ | refine zv ?_ | refine Ext.setF ?_ (by simp [ze, St.set, zk]))) ?_
    simp [St.set, St.new, hpc, hpf, hps]
  | false =>
    (try ((first | with_reducible refine zh ?_ | with_reducible refine zm ?_ | with_reducible refine zo ?_); simp [zr, ho1, ho2, ho3, hpf, hpc, hps])); repeat' (first | ((first | refine zd ?_ | refine zg ?_ | refine dN (by decide +kernel) ?_ | (refine za ?_ ?_ <;> (intro hg; simp only [hg])) | fail) <;> simp [zr, ho1, ho2, ho3, hpf, hpc, hps]) | refine zf ?_ | refine zc ?_ | (refine zp ?_; simp only [zq]; try simp) | ((first | refine zl (by simp) ?_ | refine zx (by simp) (by simp) (by simp (maxDischargeDepth := 30) [zr, ho1, ho2, ho3, hpf, hpc, hps]) ?_ | fail); simp) | (refine zb (fun hc => ?_) (fun hc => ?_) <;> try simp at hc) | fail)
    refine PCalls.use hm ?_
    cases b2 with
    | false =>
      (try ((first | with_reducible refine zh ?_ | with_reducible refine zm ?_ | with_reducible refine zo ?_); simp [zr, ho1, ho2, ho3, hpf, hpc, hps, zs, zV, zA])); repeat' (first | ((first | refine zd ?_ | refine zg ?_ | refine dN (by decide +kernel) ?_ | (refine za ?_ ?_ <;> (intro hg; simp only [hg])) | fail) <;> simp [zr, ho1, ho2, ho3, hpf, hpc, hps, zs, zV, zA]) | refine zf ?_ | refine zc ?_ | (refine zp ?_; simp only [zq]; try simp) | (refine zb (fun hc => ?_) (fun hc => ?_) <;> try simp at hc) | fail)
      refine zx (.inr rfl) rfl (by repeat (first | exact Ext.refl _ | refine zv ?_ | refine Ext.setF ?_ (by simp [ze, St.set, zk]))) ?_
      simp [St.set, St.new, hpc, hpf, hps]
    | true =>
      by_cases hk : r.kind = 1
      · (try ((first | with_reducible refine zh ?_ | with_reducible refine zm ?_ | with_reducible refine zo ?_); simp [zr, ho1, ho2, ho3, hpf, hpc, hps, zs, zV, zA, hk])); repeat' (first | ((first | refine zd ?_ | refine zg ?_ | refine dN (by decide +kernel) ?_ | (refine za ?_ ?_ <;> (intro hg; simp only [hg])) | fail) <;> simp [zr, ho1, ho2, ho3, hpf, hpc, hps, zs, zV, zA, hk]) | refine zf ?_ | refine zc ?_ | (refine zp ?_; simp only [zq]; try simp) | (refine zb (fun hc => ?_) (fun hc => ?_) <;> try simp at hc) | fail)
        refine zx (.inr rfl) rfl (by repeat (first | exact Ext.refl _ | refine zv ?_ | refine Ext.setF ?_ (by simp [ze, St.set, zk]))) ?_
        simp [St.set, St.new, hpc, hpf, hps, hk]
      · (try ((first | with_reducible refine zh ?_ | with_reducible refine zm ?_ | with_reducible refine zo ?_); simp [zr, ho1, ho2, ho3, hpf, hpc, hps, zs, zV, zA, hk, hnf, zz, zB, ze])); repeat' (first | ((first | refine zd ?_ | refine zg ?_ | refine dN (by decide +kernel) ?_ | (refine za ?_ ?_ <;> (intro hg; simp only [hg])) | fail) <;> simp [zr, ho1, ho2, ho3, hpf, hpc, hps, zs, zV, zA, hk, hnf, zz, zB, ze]) | refine zf ?_ | refine zc ?_ | (refine zp ?_; simp only [zq]; try simp) | ((first | refine zl (by simp) ?_ | refine zx (by simp) (by simp) (by simp (maxDischargeDepth := 30) [zr, ho1, ho2, ho3, hpf, hpc, hps, zs, zV, zA, hk, hnf, zz, zB, ze]) ?_ | fail); simp) | (refine zb (fun hc => ?_) (fun hc => ?_) <;> try simp at hc) | fail)
        refine PCalls.use hn ?_
        cases b3 with
        | true =>
          (try ((first | with_reducible refine zh ?_ | with_reducible refine zm ?_ | with_reducible refine zo ?_); simp [zr, ho1, ho2, ho3, hpf, hpc, hps, zs, zV, zA, hk, hnf, zz, zB, ze])); repeat' (first | ((first | refine zd ?_ | refine zg ?_ | refine dN (by decide +kernel) ?_ | (refine za ?_ ?_ <;> (intro hg; simp only [hg])) | fail) <;> simp [zr, ho1, ho2, ho3, hpf, hpc, hps, zs, zV, zA, hk, hnf, zz, zB, ze]) | refine zf ?_ | refine zc ?_ | (refine zp ?_; simp only [zq]; try simp) | (refine zb (fun hc => ?_) (fun hc => ?_) <;> try simp at hc) | fail)
          refine zx (.inr rfl) rfl (by repeat (first | exact Ext.refl _ | refine zv ?_ | refine Ext.setF ?_ (by simp [ze, St.set, zk]))) ?_
          simp [St.set, St.new, hpc, hpf, hps, hk]
        | false =>
          (try ((first | with_reducible refine zh ?_ | with_reducible refine zm ?_ | with_reducible refine zo ?_); simp [zr, ho1, ho2, ho3, hpf, hpc, hps, zs, zV, zA, hk, hnf, zz, zB, ze])); repeat' (first | ((first | refine zd ?_ | refine zg ?_ | refine dN (by decide +kernel) ?_ | (refine za ?_ ?_ <;> (intro hg; simp only [hg])) | fail) <;> simp [zr, ho1, ho2, ho3, hpf, hpc, hps, zs, zV, zA, hk, hnf, zz, zB, ze]) | refine zf ?_ | refine zc ?_ | (refine zp ?_; simp only [zq]; try simp) | (refine zb (fun hc => ?_) (fun hc => ?_) <;> try simp at hc) | fail)
          refine zx (.inr rfl) rfl (by repeat (first | exact Ext.refl _ | refine zv ?_ | refine Ext.setF ?_ (by simp [ze, St.set, zk]))) ?_
          simp [St.set, St.new, hpc, hpf, hps, hk]
end Go.Proofs.YtanimmdlgmkmkaaGreat.Av
namespace Go.Proofs.YtanimmdlgmkmkaaGreat.Av
open Go
set_option linter.unusedSimpArgs false
set_option linter.unusedVariables false
set_option maxRecDepth 100000
set_option maxHeartbeats 2000000
set_option pp.maxSteps 600
def Tr.av : Tr → AV
  | .nil => .raw (.pointer none)
  | .node l k v r => .pp [.raw (.int .u64 k), .raw (.int .i64 v), l.av, r.av, .raw (.int .i64 (Tr.node l k v r).ht), .raw (.int .i64 (Tr.node l k v r).sz)] 0
def zdo (k v : Int) : AV := .agg [.raw (.int .u64 k), .raw (.int .i64 v)]
@[simp] theorem zql : Tr.nil.av = .raw (.pointer none) := rfl
theorem zaQ (l : Tr) (k v : Int) (r : Tr) : (Tr.node l k v r).av = .pp [.raw (.int .u64 k), .raw (.int .i64 v), l.av, r.av, .raw (.int .i64 (Tr.node l k v r).ht), .raw (.int .i64 (Tr.node l k v r).sz)] 0 := rfl
@[simp] theorem znJ (K : Id → Prop) : ∀ t : Tr, t.av.ids K
  | .nil => by simp [Tr.av, AV.ids]
  | .node l k v r => by simp only [Tr.av, AV.ids, z9, znJ K l, znJ K r, and_self]
@[simp] theorem ztl (t : Tr) : t.av.cells = [t.av] := by cases t <;> rfl
@[simp] theorem ztm (t : Tr) : cellOK t.av = true := by cases t <;> rfl
theorem ziY (t : Tr) (off : Nat) (x : AV) : setPart t.av off [x] = x := by cases t <;> rfl
theorem zbO (t : Tr) : PCalls Tryz.prog 219 [t.av] (.raw (.int .i64 t.ht)) := by
  refine zJ Tryz.func219 rfl (N := 9) rfl rfl (by simp) (by simp [noIds]) fun σ => ?_
  cases t with
  | nil => (try ((first | with_reducible refine zh ?_ | with_reducible refine zm ?_ | with_reducible refine zo ?_); simp [-cellOK, Tr.ht])); repeat' (first | ((first | refine zd ?_ | refine zg ?_ | refine dN (by decide +kernel) ?_ | refine dC (by decide +kernel) ?_ | (refine za ?_ ?_ <;> (intro hg; simp only [hg])) | fail) <;> simp [-cellOK, Tr.ht]) | refine zf ?_ | refine zc ?_ | (refine zp ?_; simp only [zq]; try simp) | (refine zl (by simp) ?_; simp) | (refine zD (by simp) (by simp [noIds]) (by repeat (first | assumption | exact Ext.refl _ | refine zv ?_ | refine Ext.setF ?_ (by first | assumption | (simp [ze, St.set, zk]; done) | exact zt (by assumption)))) ?_; simp [-cellOK, Tr.ht, zS]) | (refine zb (fun hc => ?_) (fun hc => ?_) <;> try simp at hc) | fail)
  | node l k v r =>
    obtain ⟨h, hh⟩ : ∃ h, (Tr.node l k v r).ht = h := ⟨_, rfl⟩
    rw [hh]
    (try ((first | with_reducible refine zh ?_ | with_reducible refine zm ?_ | with_reducible refine zo ?_); simp [-cellOK, zaQ, hh])); repeat' (first | ((first | refine zd ?_ | refine zg ?_ | refine dN (by decide +kernel) ?_ | refine dC (by decide +kernel) ?_ | (refine za ?_ ?_ <;> (intro hg; simp only [hg])) | fail) <;> simp [-cellOK, zaQ, hh]) | refine zf ?_ | refine zc ?_ | (refine zp ?_; simp only [zq]; try simp) | (refine zl (by simp) ?_; simp) | (refine zD (by simp) (by simp [noIds]) (by repeat (first | assumption | exact Ext.refl _ | refine zv ?_ | refine Ext.setF ?_ (by first | assumption | (simp [ze, St.set, zk]; done) | exact zt (by assumption)))) ?_; simp [-cellOK, zaQ, hh, zS]) | (refine zb (fun hc => ?_) (fun hc => ?_) <;> try simp at hc) | fail)
theorem zbP (t : Tr) : PCalls Tryz.prog 187 [t.av] (.raw (.int .i64 t.sz)) := by
  refine zJ Tryz.func187 rfl (N := 9) rfl rfl (by simp) (by simp [noIds]) fun σ => ?_
  cases t with
  | nil => (try ((first | with_reducible refine zh ?_ | with_reducible refine zm ?_ | with_reducible refine zo ?_); simp [-cellOK, Tr.sz])); repeat' (first | ((first | refine zd ?_ | refine zg ?_ | refine dN (by decide +kernel) ?_ | refine dC (by decide +kernel) ?_ | (refine za ?_ ?_ <;> (intro hg; simp only [hg])) | fail) <;> simp [-cellOK, Tr.sz]) | refine zf ?_ | refine zc ?_ | (refine zp ?_; simp only [zq]; try simp) | (refine zl (by simp) ?_; simp) | (refine zD (by simp) (by simp [noIds]) (by repeat (first | assumption | exact Ext.refl _ | refine zv ?_ | refine Ext.setF ?_ (by first | assumption | (simp [ze, St.set, zk]; done) | exact zt (by assumption)))) ?_; simp [-cellOK, Tr.sz, zS]) | (refine zb (fun hc => ?_) (fun hc => ?_) <;> try simp at hc) | fail)
  | node l k v r =>
    obtain ⟨h, hh⟩ : ∃ h, (Tr.node l k v r).sz = h := ⟨_, rfl⟩
    rw [hh]
    (try ((first | with_reducible refine zh ?_ | with_reducible refine zm ?_ | with_reducible refine zo ?_); simp [-cellOK, zaQ, hh])); repeat' (first | ((first | refine zd ?_ | refine zg ?_ | refine dN (by decide +kernel) ?_ | refine dC (by decide +kernel) ?_ | (refine za ?_ ?_ <;> (intro hg; simp only [hg])) | fail) <;> simp [-cellOK, zaQ, hh]) | refine zf ?_ | refine zc ?_ | (refine zp ?_; simp only [zq]; try simp) | (refine zl (by simp) ?_; simp) | (refine zD (by simp) (by simp [noIds]) (by repeat (first | assumption | exact Ext.refl _ | refine zv ?_ | refine Ext.setF ?_ (by first | assumption | (simp [ze, St.set, zk]; done) | exact zt (by assumption)))) ?_; simp [-cellOK, zaQ, hh, zS]) | (refine zb (fun hc => ?_) (fun hc => ?_) <;> try simp at hc) | fail)
@[simp] theorem zI (k v : Int) : (zdo k v).cells = [.raw (.int .u64 k), .raw (.int .i64 v)] := rfl
@[simp] theorem zv6 (K : Id → Prop) (k v : Int) : (zdo k v).ids K := by simp [zdo]
theorem zcZ {α : Type} {K : Id → Prop} {f : α → AV} (h : ∀ x, (f x).ids K) : ∀ l : List α, z9 K (l.map f)
  | [] => by simp
  | a :: l => by simp only [List.map_cons, z9]; exact ⟨h a, zcZ h l⟩
@[simp] theorem zr2 (K : Id → Prop) (n : Int) : (iAV n).ids K := by simp [iAV]
@[simp] theorem zqm (K : Id → Prop) (p : Lk) : (zbU p).ids K := by simp [zbU]
@[simp] theorem zqn (K : Id → Prop) (p : Rg) : (zau p).ids K := by simp [zau]
@[simp] theorem zlh (K : Id → Prop) (p : Ru) : (zE p).ids K := by simp [zE]
@[simp] theorem zli (K : Id → Prop) (l : List Int) (f : Bool) : (zy l f).ids K := by simp only [zy, AV.ids]; exact zcZ (zr2 K) l
@[simp] theorem znK (K : Id → Prop) (l : List Lk) (f : Bool) : (zw l f).ids K := by simp only [zw, AV.ids]; exact zcZ (zqm K) l
@[simp] theorem znL (K : Id → Prop) (l : List Ru) (f : Bool) : (zu l f).ids K := by simp only [zu, AV.ids]; exact zcZ (zlh K) l
@[simp] theorem zv7 (K : Id → Prop) (n : Nw) (f : Fl) : (z7 n f).ids K := by simp [z7]
@[simp] theorem zt1 (l : List Int) (f : Bool) : cellOK (zy l f) = true := rfl
@[simp] theorem ztn (l : List Lk) (f : Bool) : cellOK (zw l f) = true := rfl
@[simp] theorem zto (l : List Ru) (f : Bool) : cellOK (zu l f) = true := rfl
theorem zK (k v : Int) : AV.agg [.raw (.int .u64 k), .raw (.int .i64 v)] = zdo k v := rfl
theorem zaG (k v : Int) : Av.setPart (zdo 0 0) 0 [.raw (.int .u64 k), .raw (.int .i64 v)] = zdo k v := rfl
theorem za7 (l : Tr) (k v : Int) (r : Tr) (h : l.sz + r.sz < 2 ^ 60) : PCalls Tryz.prog 207 [l.av, zdo k v, r.av] (Tr.node l k v r).av := by
  have z1 := l.ht_nn
  have z2 := r.ht_nn
  have z3 := l.sz_nn
  have z4 := r.sz_nn
  have z5 := l.ht_le
  have z6 := r.ht_le
  have e1 : IntKind.i64.wrap (1 + (if l.ht < r.ht then r.ht else l.ht)) = (Tr.node l k v r).ht := by
    rw [zU (by split <;> omega) (by split <;> omega)]; simp only [Tr.ht]; split <;> omega
  have e2 : IntKind.i64.wrap (1 + l.sz) = 1 + l.sz := zU (by omega) (by omega)
  have e3 : IntKind.i64.wrap (1 + l.sz + r.sz) = (Tr.node l k v r).sz := by
    rw [zU (by omega) (by omega)]; rfl
  obtain ⟨H, hH⟩ : ∃ h, (Tr.node l k v r).ht = h := ⟨_, rfl⟩
  obtain ⟨Z, hZ⟩ : ∃ h, (Tr.node l k v r).sz = h := ⟨_, rfl⟩
  have hh1 := zbO l
  have hh2 := zbO r
  have hs1 := zbP l
  have hs2 := zbP r
  rw [zaQ, hH, hZ]
  rw [hH] at e1
  rw [hZ] at e3
  refine zJ Tryz.func207 rfl (N := 24) rfl rfl (by simp) (by simp [noIds]) fun σ => ?_
  (try ((first | with_reducible refine zh ?_ | with_reducible refine zm ?_ | with_reducible refine zo ?_); simp [-cellOK, zI, zK, ziY, e1, e2, e3])); repeat' (first | ((first | refine zd ?_ | refine zg ?_ | refine dN (by decide +kernel) ?_ | refine dC (by decide +kernel) ?_ | refine uP (hh1) ?_ | refine .inl ⟨_, .inl (hh1), ?_⟩ | refine uP (hh2) ?_ | refine .inl ⟨_, .inl (hh2), ?_⟩ | refine uP (hs1) ?_ | refine .inl ⟨_, .inl (hs1), ?_⟩ | refine uP (hs2) ?_ | refine .inl ⟨_, .inl (hs2), ?_⟩ | (refine za ?_ ?_ <;> (intro hg; simp only [hg])) | fail) <;> simp [-cellOK, zI, zK, ziY, e1, e2, e3]) | refine zf ?_ | refine zc ?_ | (refine zp ?_; simp only [zq]; try simp) | (refine zb (fun hc => ?_) (fun hc => ?_) <;> try simp at hc) | fail)
  refine zbi (x := .rp ⟨23, σ.nx 23, 6⟩ 0 0) (.inr rfl) (by repeat (first | assumption | exact Ext.refl _ | refine zv ?_ | refine Ext.setF ?_ (by first | assumption | (simp [ze, St.set, zk]; done) | exact zt (by assumption)))) ?_ ?_
  · simp [ze]
  · simp [zah, zF, zk, zz, ze]
end Go.Proofs.YtanimmdlgmkmkaaGreat.Av
