/- Probe: ProbeTells. Part 7 of 15: AvTy, AvGo, AvN1, AvN3, AvN12, AvN8, AvN9, AvN13, AvN14, AvN17, AvN22, AvN2, AvN4, AvN5, AvN7, AvN11, AvT1, AvN6, AvN10, AvT2. -/
import Derived.Test.YtanimmdlgmkmkaaGreatPt6
import Derived.Test.YtanimmdlgmkmkaaGreatProg
namespace Go.Proofs.YtanimmdlgmkmkaaGreat.Av
set_option linter.unusedSimpArgs false
set_option linter.unusedVariables false
open Go
@[simp] theorem tsz1 : tsz Tryz.prog 1 = some 1 := by kernel_rfl
@[simp] theorem tby1 : zap Tryz.prog 1 = some 8 := by kernel_rfl
@[simp] theorem tze1 : zaq Tryz.prog 1 = some .nilFunc := by kernel_rfl
@[simp] theorem tag1 : zah Tryz.prog 1 = some false := by simp [zah, Tryz.underlying1]
@[simp] theorem arr1 : z8 Tryz.prog 1 = none := by simp [z8, Tryz.underlying1]
@[simp] theorem zsG : tsz Tryz.prog 3 = some 1 := by kernel_rfl
@[simp] theorem zsH : zap Tryz.prog 3 = some 8 := by kernel_rfl
@[simp] theorem zsI : zaq Tryz.prog 3 = some (.int .i64 (0)) := by kernel_rfl
@[simp] theorem tag3 : zah Tryz.prog 3 = some false := by simp [zah, Tryz.underlying3]
@[simp] theorem arr3 : z8 Tryz.prog 3 = none := by simp [z8, Tryz.underlying3]
@[simp] theorem uin3 : zdi Tryz.prog 3 = some .i64 := by kernel_rfl
@[simp] theorem pla3 : zcz Tryz.prog 3 = true := by kernel_rfl
@[simp] theorem tsz4 : tsz Tryz.prog 4 = some 1 := by kernel_rfl
@[simp] theorem tby4 : zap Tryz.prog 4 = some 1 := by kernel_rfl
@[simp] theorem tze4 : zaq Tryz.prog 4 = some (.bool false) := by kernel_rfl
@[simp] theorem tag4 : zah Tryz.prog 4 = some false := by simp [zah, Tryz.underlying4]
@[simp] theorem arr4 : z8 Tryz.prog 4 = none := by simp [z8, Tryz.underlying4]
@[simp] theorem ubo4 : zfX Tryz.prog 4 = true := by kernel_rfl
@[simp] theorem pla4 : zcz Tryz.prog 4 = true := by kernel_rfl
@[simp] theorem tsz9 : tsz Tryz.prog 9 = some 1 := by kernel_rfl
@[simp] theorem tby9 : zap Tryz.prog 9 = some 16 := by kernel_rfl
@[simp] theorem tze9 : zaq Tryz.prog 9 = some (.string ⟨#[]⟩) := by kernel_rfl
@[simp] theorem tag9 : zah Tryz.prog 9 = some false := by simp [zah, Tryz.underlying9]
@[simp] theorem arr9 : z8 Tryz.prog 9 = none := by simp [z8, Tryz.underlying9]
@[simp] theorem ust9 : zfY Tryz.prog 9 = true := by kernel_rfl
@[simp] theorem pla9 : zcz Tryz.prog 9 = true := by kernel_rfl
@[simp] theorem zwx : tsz Tryz.prog 22 = some 1 := by kernel_rfl
@[simp] theorem zwy : zap Tryz.prog 22 = some 24 := by kernel_rfl
@[simp] theorem zwz : zaq Tryz.prog 22 = some (.slice none 0 0) := by kernel_rfl
@[simp] theorem zwA : zah Tryz.prog 22 = some false := by simp [zah, Tryz.underlying22]
@[simp] theorem zwB : z8 Tryz.prog 22 = none := by simp [z8, Tryz.underlying22]
@[simp] theorem zrn : zaK Tryz.prog 22 = some 3 := by kernel_rfl
@[simp] theorem zwC : tsz Tryz.prog 23 = some 1 := by kernel_rfl
@[simp] theorem zwD : zap Tryz.prog 23 = some 24 := by kernel_rfl
@[simp] theorem zwE : zaq Tryz.prog 23 = some (.slice none 0 0) := by kernel_rfl
@[simp] theorem zwF : zah Tryz.prog 23 = some false := by simp [zah, Tryz.underlying23]
@[simp] theorem zwG : z8 Tryz.prog 23 = none := by simp [z8, Tryz.underlying23]
@[simp] theorem zro : zaK Tryz.prog 23 = some 160 := by kernel_rfl
@[simp] theorem zwH : tsz Tryz.prog 25 = some 2 := by kernel_rfl
@[simp] theorem zwI : zap Tryz.prog 25 = some 48 := by kernel_rfl
@[simp] theorem zwJ : zaq Tryz.prog 25 = some (.agg #[(.slice none 0 0), (.slice none 0 0)]) := by kernel_rfl
@[simp] theorem zwK : zah Tryz.prog 25 = some true := by simp [zah, Tryz.underlying25]
@[simp] theorem zwL : z8 Tryz.prog 25 = none := by simp [z8, Tryz.underlying25]
@[simp] theorem zwM : zaW Tryz.prog 25 = true := by kernel_rfl
@[simp] theorem zwN : zch Tryz.prog 25 = true := by kernel_rfl
@[simp] theorem ztD : zW Tryz.prog 25 0 = some (22, 0) := by kernel_rfl
@[simp] theorem ztE : zW Tryz.prog 25 1 = some (23, 1) := by kernel_rfl
@[simp] theorem zwO : za1 Tryz.prog 25 = some [(22, 0), (23, 1)] := by kernel_rfl
@[simp] theorem zwP : Tryz.prog.eqGuardType Tryz.prog.depth 25 = false := by kernel_rfl
@[simp] theorem zwQ : tsz Tryz.prog 26 = some 1 := by kernel_rfl
@[simp] theorem zwR : zap Tryz.prog 26 = some 24 := by kernel_rfl
@[simp] theorem zwS : zaq Tryz.prog 26 = some (.slice none 0 0) := by kernel_rfl
@[simp] theorem zwT : zah Tryz.prog 26 = some false := by simp [zah, Tryz.underlying26]
@[simp] theorem zwU : z8 Tryz.prog 26 = none := by simp [z8, Tryz.underlying26]
@[simp] theorem zrp : zaK Tryz.prog 26 = some 73 := by kernel_rfl
@[simp] theorem zrq : tsz Tryz.prog 28 = some 3 := by kernel_rfl
@[simp] theorem zrr : zap Tryz.prog 28 = some 72 := by kernel_rfl
@[simp] theorem zrs : zaq Tryz.prog 28 = some (.agg #[(.slice none 0 0), (.slice none 0 0), (.slice none 0 0)]) := by kernel_rfl
@[simp] theorem zwV : zah Tryz.prog 28 = some true := by simp [zah, Tryz.underlying28]
@[simp] theorem zwW : z8 Tryz.prog 28 = none := by simp [z8, Tryz.underlying28]
@[simp] theorem zwX : zaW Tryz.prog 28 = true := by kernel_rfl
@[simp] theorem zwY : zch Tryz.prog 28 = true := by kernel_rfl
@[simp] theorem ztF : zW Tryz.prog 28 0 = some (25, 0) := by kernel_rfl
@[simp] theorem ztG : zW Tryz.prog 28 1 = some (26, 2) := by kernel_rfl
@[simp] theorem zwZ : za1 Tryz.prog 28 = some [(25, 0), (26, 2)] := by kernel_rfl
@[simp] theorem zw0 : Tryz.prog.eqGuardType Tryz.prog.depth 28 = false := by kernel_rfl
@[simp] theorem zw1 : tsz Tryz.prog 29 = some 6 := by kernel_rfl
@[simp] theorem zw2 : zap Tryz.prog 29 = some 144 := by kernel_rfl
@[simp] theorem zw3 : zaq Tryz.prog 29 = some (.agg #[(.slice none 0 0), (.slice none 0 0), (.slice none 0 0), (.slice none 0 0), (.slice none 0 0), (.slice none 0 0)]) := by kernel_rfl
@[simp] theorem zw4 : zah Tryz.prog 29 = some true := by simp [zah, Tryz.underlying29]
@[simp] theorem zw5 : z8 Tryz.prog 29 = some (2, 28) := by simp [z8, Tryz.underlying29]
@[simp] theorem zw6 : tsz Tryz.prog 30 = some 1 := by kernel_rfl
@[simp] theorem zw7 : zap Tryz.prog 30 = some 8 := by kernel_rfl
@[simp] theorem zw8 : zaq Tryz.prog 30 = some (.int .i64 (0)) := by kernel_rfl
@[simp] theorem zw9 : zah Tryz.prog 30 = some false := by simp [zah, Tryz.underlying30]
@[simp] theorem zxa : z8 Tryz.prog 30 = none := by simp [z8, Tryz.underlying30]
@[simp] theorem zxb : zdi Tryz.prog 30 = some .i64 := by kernel_rfl
@[simp] theorem zxc : zcz Tryz.prog 30 = true := by kernel_rfl
@[simp] theorem zxd : tsz Tryz.prog 31 = some 1 := by kernel_rfl
@[simp] theorem zxe : zap Tryz.prog 31 = some 4 := by kernel_rfl
@[simp] theorem zxf : zaq Tryz.prog 31 = some (.int .u32 (0)) := by kernel_rfl
@[simp] theorem zxg : zah Tryz.prog 31 = some false := by simp [zah, Tryz.underlying31]
@[simp] theorem zxh : z8 Tryz.prog 31 = none := by simp [z8, Tryz.underlying31]
@[simp] theorem zxi : zdi Tryz.prog 31 = some .u32 := by kernel_rfl
@[simp] theorem zxj : zcz Tryz.prog 31 = true := by kernel_rfl
@[simp] theorem zrt : tsz Tryz.prog 33 = some 2 := by kernel_rfl
@[simp] theorem zru : zap Tryz.prog 33 = some 8 := by kernel_rfl
@[simp] theorem zrv : zaq Tryz.prog 33 = some (.agg #[(.int .u32 (0)), (.int .u32 (0))]) := by kernel_rfl
@[simp] theorem zxk : zah Tryz.prog 33 = some true := by simp [zah, Tryz.underlying33]
@[simp] theorem zxl : z8 Tryz.prog 33 = none := by simp [z8, Tryz.underlying33]
@[simp] theorem zxm : zaW Tryz.prog 33 = true := by kernel_rfl
@[simp] theorem zxn : zch Tryz.prog 33 = true := by kernel_rfl
@[simp] theorem ztH : zW Tryz.prog 33 0 = some (31, 0) := by kernel_rfl
@[simp] theorem ztI : zW Tryz.prog 33 1 = some (31, 1) := by kernel_rfl
@[simp] theorem zxo : za1 Tryz.prog 33 = some [(31, 0), (31, 1)] := by kernel_rfl
@[simp] theorem zxp : Tryz.prog.eqGuardType Tryz.prog.depth 33 = false := by kernel_rfl
@[simp] theorem zxq : tsz Tryz.prog 35 = some 7 := by kernel_rfl
@[simp] theorem zxr : zap Tryz.prog 35 = some 56 := by kernel_rfl
@[simp] theorem zxs : zaq Tryz.prog 35 = some (.agg #[(.int .i64 (0)), (.int .i64 (0)), (.int .i64 (0)), (.int .i64 (0)), (.int .u32 (0)), (.int .u32 (0)), (.string ⟨#[]⟩)]) := by kernel_rfl
@[simp] theorem zxt : zah Tryz.prog 35 = some true := by simp [zah, Tryz.underlying35]
@[simp] theorem zxu : z8 Tryz.prog 35 = none := by simp [z8, Tryz.underlying35]
@[simp] theorem zxv : zaW Tryz.prog 35 = true := by kernel_rfl
@[simp] theorem zxw : zch Tryz.prog 35 = true := by kernel_rfl
@[simp] theorem ztJ : zW Tryz.prog 35 0 = some (30, 0) := by kernel_rfl
@[simp] theorem ztK : zW Tryz.prog 35 1 = some (3, 1) := by kernel_rfl
@[simp] theorem ztL : zW Tryz.prog 35 2 = some (3, 2) := by kernel_rfl
@[simp] theorem ztM : zW Tryz.prog 35 3 = some (3, 3) := by kernel_rfl
@[simp] theorem ztN : zW Tryz.prog 35 4 = some (33, 4) := by kernel_rfl
@[simp] theorem ztO : zW Tryz.prog 35 5 = some (9, 6) := by kernel_rfl
@[simp] theorem zxx : za1 Tryz.prog 35 = some [(30, 0), (3, 1), (3, 2), (3, 3), (33, 4), (9, 6)] := by kernel_rfl
@[simp] theorem zxy : Tryz.prog.eqGuardType Tryz.prog.depth 35 = false := by kernel_rfl
@[simp] theorem zxz : tsz Tryz.prog 39 = some 1 := by kernel_rfl
@[simp] theorem zxA : zap Tryz.prog 39 = some 8 := by kernel_rfl
@[simp] theorem zxB : zaq Tryz.prog 39 = some (.int .i64 (0)) := by kernel_rfl
@[simp] theorem zxC : zah Tryz.prog 39 = some false := by simp [zah, Tryz.underlying39]
@[simp] theorem zxD : z8 Tryz.prog 39 = none := by simp [z8, Tryz.underlying39]
@[simp] theorem zxE : zdi Tryz.prog 39 = some .i64 := by kernel_rfl
@[simp] theorem zxF : zcz Tryz.prog 39 = true := by kernel_rfl
@[simp] theorem zrw : tsz Tryz.prog 41 = some 2 := by kernel_rfl
@[simp] theorem zrx : zap Tryz.prog 41 = some 16 := by kernel_rfl
@[simp] theorem zry : zaq Tryz.prog 41 = some (.agg #[(.int .i64 (0)), (.int .i64 (0))]) := by kernel_rfl
@[simp] theorem zxG : zah Tryz.prog 41 = some true := by simp [zah, Tryz.underlying41]
@[simp] theorem zxH : z8 Tryz.prog 41 = none := by simp [z8, Tryz.underlying41]
@[simp] theorem zxI : zaW Tryz.prog 41 = true := by kernel_rfl
@[simp] theorem zoT : zch Tryz.prog 41 = true := by kernel_rfl
@[simp] theorem ztP : zW Tryz.prog 41 0 = some (3, 0) := by kernel_rfl
@[simp] theorem ztQ : zW Tryz.prog 41 1 = some (3, 1) := by kernel_rfl
@[simp] theorem zxJ : za1 Tryz.prog 41 = some [(3, 0), (3, 1)] := by kernel_rfl
@[simp] theorem zmL : Tryz.prog.eqGuardType Tryz.prog.depth 41 = false := by kernel_rfl
@[simp] theorem zxK : tsz Tryz.prog 43 = some 4 := by kernel_rfl
@[simp] theorem zxL : zap Tryz.prog 43 = some 48 := by kernel_rfl
@[simp] theorem zxM : zaq Tryz.prog 43 = some (.agg #[(.slice none 0 0), (.int .i64 (0)), (.int .i64 (0)), (.int .i64 (0))]) := by kernel_rfl
@[simp] theorem zxN : zah Tryz.prog 43 = some true := by simp [zah, Tryz.underlying43]
@[simp] theorem zxO : z8 Tryz.prog 43 = none := by simp [z8, Tryz.underlying43]
@[simp] theorem zxP : zaW Tryz.prog 43 = true := by kernel_rfl
@[simp] theorem zxQ : zch Tryz.prog 43 = true := by kernel_rfl
@[simp] theorem ztR : zW Tryz.prog 43 0 = some (22, 0) := by kernel_rfl
@[simp] theorem ztS : zW Tryz.prog 43 1 = some (39, 1) := by kernel_rfl
@[simp] theorem ztT : zW Tryz.prog 43 2 = some (41, 2) := by kernel_rfl
@[simp] theorem zxR : za1 Tryz.prog 43 = some [(22, 0), (39, 1), (41, 2)] := by kernel_rfl
@[simp] theorem zxS : Tryz.prog.eqGuardType Tryz.prog.depth 43 = false := by kernel_rfl
@[simp] theorem zxT : tsz Tryz.prog 45 = some 7 := by kernel_rfl
@[simp] theorem zxU : zap Tryz.prog 45 = some 72 := by kernel_rfl
@[simp] theorem zxV : zaq Tryz.prog 45 = some (.agg #[(.bool false), (.int .i64 (0)), (.int .u32 (0)), (.slice none 0 0), (.int .i64 (0)), (.int .i64 (0)), (.int .i64 (0))]) := by kernel_rfl
@[simp] theorem zxW : zah Tryz.prog 45 = some true := by simp [zah, Tryz.underlying45]
@[simp] theorem zxX : z8 Tryz.prog 45 = none := by simp [z8, Tryz.underlying45]
@[simp] theorem zxY : zaW Tryz.prog 45 = true := by kernel_rfl
@[simp] theorem zxZ : zch Tryz.prog 45 = true := by kernel_rfl
@[simp] theorem ztU : zW Tryz.prog 45 0 = some (4, 0) := by kernel_rfl
@[simp] theorem ztV : zW Tryz.prog 45 1 = some (3, 1) := by kernel_rfl
@[simp] theorem ztW : zW Tryz.prog 45 2 = some (31, 2) := by kernel_rfl
@[simp] theorem ztX : zW Tryz.prog 45 3 = some (43, 3) := by kernel_rfl
@[simp] theorem zx0 : za1 Tryz.prog 45 = some [(4, 0), (3, 1), (31, 2), (43, 3)] := by kernel_rfl
@[simp] theorem zx1 : Tryz.prog.eqGuardType Tryz.prog.depth 45 = false := by kernel_rfl
@[simp] theorem zx2 : tsz Tryz.prog 61 = some 1 := by kernel_rfl
@[simp] theorem zx3 : zap Tryz.prog 61 = some 8 := by kernel_rfl
@[simp] theorem zx4 : zaq Tryz.prog 61 = some (.pointer none) := by kernel_rfl
@[simp] theorem zx5 : zah Tryz.prog 61 = some false := by simp [zah, Tryz.underlying61]
@[simp] theorem zx6 : z8 Tryz.prog 61 = none := by simp [z8, Tryz.underlying61]
@[simp] theorem zx7 : zfW Tryz.prog 61 = true := by kernel_rfl
@[simp] theorem zx8 : tsz Tryz.prog 71 = some 1 := by kernel_rfl
@[simp] theorem zx9 : zap Tryz.prog 71 = some 8 := by kernel_rfl
@[simp] theorem zya : zaq Tryz.prog 71 = some (.int .i64 (0)) := by kernel_rfl
@[simp] theorem zyb : zah Tryz.prog 71 = some false := by simp [zah, Tryz.underlying71]
@[simp] theorem zyc : z8 Tryz.prog 71 = none := by simp [z8, Tryz.underlying71]
@[simp] theorem zyd : zdi Tryz.prog 71 = some .i64 := by kernel_rfl
@[simp] theorem zye : zcz Tryz.prog 71 = true := by kernel_rfl
@[simp] theorem zrz : tsz Tryz.prog 73 = some 7 := by kernel_rfl
@[simp] theorem zrA : zap Tryz.prog 73 = some 48 := by kernel_rfl
@[simp] theorem zrB : zaq Tryz.prog 73 = some (.agg #[(.int .i64 (0)), (.int .i64 (0)), (.int .i64 (0)), (.int .i64 (0)), (.int .u32 (0)), (.int .u32 (0)), (.int .i64 (0))]) := by kernel_rfl
@[simp] theorem zyf : zah Tryz.prog 73 = some true := by simp [zah, Tryz.underlying73]
@[simp] theorem zyg : z8 Tryz.prog 73 = none := by simp [z8, Tryz.underlying73]
@[simp] theorem zyh : zaW Tryz.prog 73 = true := by kernel_rfl
@[simp] theorem zyi : zch Tryz.prog 73 = true := by kernel_rfl
@[simp] theorem ztY : zW Tryz.prog 73 0 = some (3, 0) := by kernel_rfl
@[simp] theorem ztZ : zW Tryz.prog 73 1 = some (3, 1) := by kernel_rfl
@[simp] theorem zt0 : zW Tryz.prog 73 2 = some (3, 2) := by kernel_rfl
@[simp] theorem zt1 : zW Tryz.prog 73 3 = some (71, 3) := by kernel_rfl
@[simp] theorem zt2 : zW Tryz.prog 73 4 = some (33, 4) := by kernel_rfl
@[simp] theorem zt3 : zW Tryz.prog 73 5 = some (3, 6) := by kernel_rfl
@[simp] theorem zyj : za1 Tryz.prog 73 = some [(3, 0), (3, 1), (3, 2), (71, 3), (33, 4), (3, 6)] := by kernel_rfl
@[simp] theorem zyk : Tryz.prog.eqGuardType Tryz.prog.depth 73 = false := by kernel_rfl
@[simp] theorem zyl : tsz Tryz.prog 85 = some 1 := by kernel_rfl
@[simp] theorem zym : zap Tryz.prog 85 = some 24 := by kernel_rfl
@[simp] theorem zyn : zaq Tryz.prog 85 = some (.slice none 0 0) := by kernel_rfl
@[simp] theorem zyo : zah Tryz.prog 85 = some false := by simp [zah, Tryz.underlying85]
@[simp] theorem zyp : z8 Tryz.prog 85 = none := by simp [z8, Tryz.underlying85]
@[simp] theorem zrC : zaK Tryz.prog 85 = some 33 := by kernel_rfl
@[simp] theorem zrD : tsz Tryz.prog 93 = some 1 := by kernel_rfl
@[simp] theorem zrE : zap Tryz.prog 93 = some 8 := by kernel_rfl
@[simp] theorem zrF : zaq Tryz.prog 93 = some (.int .u64 (0)) := by kernel_rfl
@[simp] theorem zyq : zah Tryz.prog 93 = some false := by simp [zah, Tryz.underlying93]
@[simp] theorem zyr : z8 Tryz.prog 93 = none := by simp [z8, Tryz.underlying93]
@[simp] theorem zys : zdi Tryz.prog 93 = some .u64 := by kernel_rfl
@[simp] theorem zyt : zcz Tryz.prog 93 = true := by kernel_rfl
@[simp] theorem zyu : tsz Tryz.prog 98 = some 1 := by kernel_rfl
@[simp] theorem zyv : zap Tryz.prog 98 = some 24 := by kernel_rfl
@[simp] theorem zyw : zaq Tryz.prog 98 = some (.slice none 0 0) := by kernel_rfl
@[simp] theorem zyx : zah Tryz.prog 98 = some false := by simp [zah, Tryz.underlying98]
@[simp] theorem zyy : z8 Tryz.prog 98 = none := by simp [z8, Tryz.underlying98]
@[simp] theorem zrG : zaK Tryz.prog 98 = some 28 := by kernel_rfl
@[simp] theorem zuz : tsz Tryz.prog 113 = some 1 := by kernel_rfl
@[simp] theorem zuA : zap Tryz.prog 113 = some 8 := by kernel_rfl
@[simp] theorem zuB : zaq Tryz.prog 113 = some .nilFunc := by kernel_rfl
@[simp] theorem zuC : zah Tryz.prog 113 = some false := by simp [zah, Tryz.underlying113]
@[simp] theorem zuD : z8 Tryz.prog 113 = none := by simp [z8, Tryz.underlying113]
@[simp] theorem zuE : tsz Tryz.prog 117 = some 1 := by kernel_rfl
@[simp] theorem zuF : zap Tryz.prog 117 = some 8 := by kernel_rfl
@[simp] theorem zuG : zaq Tryz.prog 117 = some (.pointer none) := by kernel_rfl
@[simp] theorem zuH : zah Tryz.prog 117 = some false := by simp [zah, Tryz.underlying117]
@[simp] theorem zuI : z8 Tryz.prog 117 = none := by simp [z8, Tryz.underlying117]
@[simp] theorem zuJ : zfW Tryz.prog 117 = true := by kernel_rfl
@[simp] theorem zuK : tsz Tryz.prog 131 = some 34 := by kernel_rfl
@[simp] theorem zuL : zap Tryz.prog 131 = some 464 := by kernel_rfl
@[simp] theorem zuM : zaq Tryz.prog 131 = some (.agg #[(.slice none 0 0), (.slice none 0 0), (.slice none 0 0), (.slice none 0 0), (.slice none 0 0), (.slice none 0 0), (.int .i64 (0)), (.int .i64 (0)), (.int .i64 (0)), (.int .i64 (0)), (.int .u32 (0)), (.int .u32 (0)), (.string ⟨#[]⟩), (.slice none 0 0), (.slice none 0 0), (.slice none 0 0), (.int .i64 (0)), (.slice none 0 0), (.int .i64 (0)), (.int .i64 (0)), (.int .i64 (0)), (.slice none 0 0), (.int .i64 (0)), (.int .i64 (0)), (.int .i64 (0)), .nilFunc, (.bool false), (.bool false), (.int .i64 (0)), (.int .u32 (0)), (.slice none 0 0), (.int .i64 (0)), (.int .i64 (0)), (.int .i64 (0))]) := by kernel_rfl
@[simp] theorem zuN : zah Tryz.prog 131 = some true := by simp [zah, Tryz.underlying131]
@[simp] theorem zuO : z8 Tryz.prog 131 = none := by simp [z8, Tryz.underlying131]
@[simp] theorem zuP : zaW Tryz.prog 131 = true := by kernel_rfl
@[simp] theorem zuQ : zch Tryz.prog 131 = true := by kernel_rfl
@[simp] theorem zsJ : zW Tryz.prog 131 0 = some (28, 0) := by kernel_rfl
@[simp] theorem zsK : zW Tryz.prog 131 1 = some (28, 3) := by kernel_rfl
@[simp] theorem zsL : zW Tryz.prog 131 2 = some (35, 6) := by kernel_rfl
@[simp] theorem zsM : zW Tryz.prog 131 3 = some (22, 13) := by kernel_rfl
@[simp] theorem zsN : zW Tryz.prog 131 4 = some (85, 14) := by kernel_rfl
@[simp] theorem zsO : zW Tryz.prog 131 5 = some (85, 15) := by kernel_rfl
@[simp] theorem zsP : zW Tryz.prog 131 6 = some (3, 16) := by kernel_rfl
@[simp] theorem zsQ : zW Tryz.prog 131 7 = some (43, 17) := by kernel_rfl
@[simp] theorem zsR : zW Tryz.prog 131 8 = some (43, 21) := by kernel_rfl
@[simp] theorem zsS : zW Tryz.prog 131 9 = some (1, 25) := by kernel_rfl
@[simp] theorem zsb : zW Tryz.prog 131 10 = some (4, 26) := by kernel_rfl
@[simp] theorem zsc : zW Tryz.prog 131 11 = some (45, 27) := by kernel_rfl
@[simp] theorem zuR : za1 Tryz.prog 131 = some [(28, 0), (28, 3), (35, 6), (22, 13), (85, 14), (85, 15), (3, 16), (43, 17), (43, 21), (1, 25), (4, 26), (45, 27)] := by kernel_rfl
@[simp] theorem zuS : Tryz.prog.eqGuardType Tryz.prog.depth 131 = false := by kernel_rfl
@[simp] theorem zpN : tsz Tryz.prog 160 = some 4 := by kernel_rfl
@[simp] theorem zpO : zap Tryz.prog 160 = some 32 := by kernel_rfl
@[simp] theorem zpP : zaq Tryz.prog 160 = some (.agg #[(.int .i64 (0)), (.int .i64 (0)), (.int .i64 (0)), (.int .i64 (0))]) := by kernel_rfl
@[simp] theorem zuT : zah Tryz.prog 160 = some true := by simp [zah, Tryz.underlying160]
@[simp] theorem zuU : z8 Tryz.prog 160 = none := by simp [z8, Tryz.underlying160]
@[simp] theorem zuV : zaW Tryz.prog 160 = true := by kernel_rfl
@[simp] theorem zuW : zch Tryz.prog 160 = true := by kernel_rfl
@[simp] theorem zsT : zW Tryz.prog 160 0 = some (41, 0) := by kernel_rfl
@[simp] theorem zsU : zW Tryz.prog 160 1 = some (41, 2) := by kernel_rfl
@[simp] theorem zuX : za1 Tryz.prog 160 = some [(41, 0), (41, 2)] := by kernel_rfl
@[simp] theorem zpQ : Tryz.prog.eqGuardType Tryz.prog.depth 160 = false := by kernel_rfl
@[simp] theorem zuY : tsz Tryz.prog 163 = some 6 := by kernel_rfl
@[simp] theorem zuZ : zap Tryz.prog 163 = some 48 := by kernel_rfl
@[simp] theorem zu0 : zaq Tryz.prog 163 = some (.agg #[.nilFunc, .nilFunc, .nilFunc, .nilFunc, .nilFunc, .nilFunc]) := by kernel_rfl
@[simp] theorem zu1 : zah Tryz.prog 163 = some true := by simp [zah, Tryz.underlying163]
@[simp] theorem zu2 : z8 Tryz.prog 163 = some (6, 113) := by simp [z8, Tryz.underlying163]
@[simp] theorem zu3 : tsz Tryz.prog 174 = some 1 := by kernel_rfl
@[simp] theorem zu4 : zap Tryz.prog 174 = some 8 := by kernel_rfl
@[simp] theorem zu5 : zaq Tryz.prog 174 = some (.pointer none) := by kernel_rfl
@[simp] theorem zu6 : zah Tryz.prog 174 = some false := by simp [zah, Tryz.underlying174]
@[simp] theorem zu7 : z8 Tryz.prog 174 = none := by simp [z8, Tryz.underlying174]
@[simp] theorem zu8 : zfW Tryz.prog 174 = true := by kernel_rfl
@[simp] theorem zu9 : tsz Tryz.prog 179 = some 3 := by kernel_rfl
@[simp] theorem zva : zap Tryz.prog 179 = some 24 := by kernel_rfl
@[simp] theorem zvb : zaq Tryz.prog 179 = some (.agg #[(.pointer none), (.pointer none), (.int .i64 (0))]) := by kernel_rfl
@[simp] theorem zvc : zah Tryz.prog 179 = some true := by simp [zah, Tryz.underlying179]
@[simp] theorem zvd : z8 Tryz.prog 179 = none := by simp [z8, Tryz.underlying179]
@[simp] theorem zve : zaW Tryz.prog 179 = true := by kernel_rfl
@[simp] theorem zvf : zch Tryz.prog 179 = true := by kernel_rfl
@[simp] theorem zsV : zW Tryz.prog 179 0 = some (174, 0) := by kernel_rfl
@[simp] theorem zsW : zW Tryz.prog 179 1 = some (174, 1) := by kernel_rfl
@[simp] theorem zsX : zW Tryz.prog 179 2 = some (3, 2) := by kernel_rfl
@[simp] theorem zvg : za1 Tryz.prog 179 = some [(174, 0), (174, 1), (3, 2)] := by kernel_rfl
@[simp] theorem zvh : Tryz.prog.eqGuardType Tryz.prog.depth 179 = false := by kernel_rfl
@[simp] theorem zvi : tsz Tryz.prog 198 = some 2 := by kernel_rfl
@[simp] theorem zvj : zap Tryz.prog 198 = some 16 := by kernel_rfl
@[simp] theorem zvk : zaq Tryz.prog 198 = some (.agg #[(.int .u64 (0)), (.int .i64 (0))]) := by kernel_rfl
@[simp] theorem zvl : zah Tryz.prog 198 = some true := by simp [zah, Tryz.underlying198]
@[simp] theorem zvm : z8 Tryz.prog 198 = none := by simp [z8, Tryz.underlying198]
@[simp] theorem zvn : zaW Tryz.prog 198 = true := by kernel_rfl
@[simp] theorem zvo : zch Tryz.prog 198 = true := by kernel_rfl
@[simp] theorem zsY : zW Tryz.prog 198 0 = some (93, 0) := by kernel_rfl
@[simp] theorem zsZ : zW Tryz.prog 198 1 = some (3, 1) := by kernel_rfl
@[simp] theorem zvp : za1 Tryz.prog 198 = some [(93, 0), (3, 1)] := by kernel_rfl
@[simp] theorem zvq : Tryz.prog.eqGuardType Tryz.prog.depth 198 = false := by kernel_rfl
@[simp] theorem zvr : tsz Tryz.prog 205 = some 1 := by kernel_rfl
@[simp] theorem zvs : zap Tryz.prog 205 = some 24 := by kernel_rfl
@[simp] theorem zvt : zaq Tryz.prog 205 = some (.slice none 0 0) := by kernel_rfl
@[simp] theorem zvu : zah Tryz.prog 205 = some false := by simp [zah, Tryz.underlying205]
@[simp] theorem zvv : z8 Tryz.prog 205 = none := by simp [z8, Tryz.underlying205]
@[simp] theorem zpR : zaK Tryz.prog 205 = some 41 := by kernel_rfl
@[simp] theorem zvw : tsz Tryz.prog 207 = some 1 := by kernel_rfl
@[simp] theorem zvx : zap Tryz.prog 207 = some 8 := by kernel_rfl
@[simp] theorem zvy : zaq Tryz.prog 207 = some .nilFunc := by kernel_rfl
@[simp] theorem zvz : zah Tryz.prog 207 = some false := by simp [zah, Tryz.underlying207]
@[simp] theorem zvA : z8 Tryz.prog 207 = none := by simp [z8, Tryz.underlying207]
@[simp] theorem zvB : tsz Tryz.prog 210 = some 1 := by kernel_rfl
@[simp] theorem zvC : zap Tryz.prog 210 = some 8 := by kernel_rfl
@[simp] theorem zvD : zaq Tryz.prog 210 = some (.map none) := by kernel_rfl
@[simp] theorem zvE : zah Tryz.prog 210 = some false := by simp [zah, Tryz.underlying210]
@[simp] theorem zvF : z8 Tryz.prog 210 = none := by simp [z8, Tryz.underlying210]
@[simp] theorem zvG : zkE Tryz.prog 210 = true := by kernel_rfl
@[simp] theorem znz : zd6 Tryz.prog 210 = some (41, 41) := by kernel_rfl
@[simp] theorem zvH : tsz Tryz.prog 213 = some 1 := by kernel_rfl
@[simp] theorem zvI : zap Tryz.prog 213 = some 8 := by kernel_rfl
@[simp] theorem zvJ : zaq Tryz.prog 213 = some (.pointer none) := by kernel_rfl
@[simp] theorem zvK : zah Tryz.prog 213 = some false := by simp [zah, Tryz.underlying213]
@[simp] theorem zvL : z8 Tryz.prog 213 = none := by simp [z8, Tryz.underlying213]
@[simp] theorem zvM : zfW Tryz.prog 213 = true := by kernel_rfl
@[simp] theorem zvN : tsz Tryz.prog 215 = some 1 := by kernel_rfl
@[simp] theorem zvO : zap Tryz.prog 215 = some 8 := by kernel_rfl
@[simp] theorem zvP : zaq Tryz.prog 215 = some (.agg #[(.pointer none)]) := by kernel_rfl
@[simp] theorem zvQ : zah Tryz.prog 215 = some true := by simp [zah, Tryz.underlying215]
@[simp] theorem zvR : z8 Tryz.prog 215 = none := by simp [z8, Tryz.underlying215]
@[simp] theorem zvS : zaW Tryz.prog 215 = true := by kernel_rfl
@[simp] theorem zvT : zch Tryz.prog 215 = true := by kernel_rfl
@[simp] theorem zs0 : zW Tryz.prog 215 0 = some (213, 0) := by kernel_rfl
@[simp] theorem zvU : za1 Tryz.prog 215 = some [(213, 0)] := by kernel_rfl
@[simp] theorem zvV : Tryz.prog.eqGuardType Tryz.prog.depth 215 = false := by kernel_rfl
@[simp] theorem zvW : tsz Tryz.prog 221 = some 1 := by kernel_rfl
@[simp] theorem zvX : zap Tryz.prog 221 = some 24 := by kernel_rfl
@[simp] theorem zvY : zaq Tryz.prog 221 = some (.slice none 0 0) := by kernel_rfl
@[simp] theorem zvZ : zah Tryz.prog 221 = some false := by simp [zah, Tryz.underlying221]
@[simp] theorem zv0 : z8 Tryz.prog 221 = none := by simp [z8, Tryz.underlying221]
@[simp] theorem zpS : zaK Tryz.prog 221 = some 93 := by kernel_rfl
@[simp] theorem zv1 : tsz Tryz.prog 232 = some 6 := by kernel_rfl
@[simp] theorem zv2 : zap Tryz.prog 232 = some 48 := by kernel_rfl
@[simp] theorem zv3 : zaq Tryz.prog 232 = some (.agg #[(.int .u64 (0)), (.int .i64 (0)), (.pointer none), (.pointer none), (.int .i64 (0)), (.int .i64 (0))]) := by kernel_rfl
@[simp] theorem zv4 : zah Tryz.prog 232 = some true := by simp [zah, Tryz.underlying232]
@[simp] theorem zv5 : z8 Tryz.prog 232 = none := by simp [z8, Tryz.underlying232]
@[simp] theorem zv6 : zaW Tryz.prog 232 = true := by kernel_rfl
@[simp] theorem zv7 : zch Tryz.prog 232 = true := by kernel_rfl
@[simp] theorem zs1 : zW Tryz.prog 232 0 = some (198, 0) := by kernel_rfl
@[simp] theorem zs2 : zW Tryz.prog 232 1 = some (213, 2) := by kernel_rfl
@[simp] theorem zs3 : zW Tryz.prog 232 2 = some (213, 3) := by kernel_rfl
@[simp] theorem zs4 : zW Tryz.prog 232 3 = some (3, 4) := by kernel_rfl
@[simp] theorem zs5 : zW Tryz.prog 232 4 = some (3, 5) := by kernel_rfl
@[simp] theorem zv8 : za1 Tryz.prog 232 = some [(198, 0), (213, 2), (213, 3), (3, 4), (3, 5)] := by kernel_rfl
@[simp] theorem zv9 : Tryz.prog.eqGuardType Tryz.prog.depth 232 = false := by kernel_rfl
theorem zel : SlT Tryz.prog 22 1 8 := ⟨⟨3, _, zrn, zsG, zsH, zsI, rfl, by decide, by decide⟩⟩
theorem zyz : SlT Tryz.prog 23 4 32 := ⟨⟨160, _, zro, zpN, zpO, zpP, rfl, by decide, by decide⟩⟩
theorem zoU : SlT Tryz.prog 26 7 48 := ⟨⟨73, _, zrp, zrz, zrA, zrB, rfl, by decide, by decide⟩⟩
theorem zky : SlT Tryz.prog 85 2 8 := ⟨⟨33, _, zrC, zrt, zru, zrv, rfl, by decide, by decide⟩⟩
theorem zyA : SlT Tryz.prog 98 3 72 := ⟨⟨28, _, zrG, zrq, zrr, zrs, rfl, by decide, by decide⟩⟩
theorem zpT : SlT Tryz.prog 205 2 16 := ⟨⟨41, _, zpR, zrw, zrx, zry, rfl, by decide, by decide⟩⟩
theorem zpU : SlT Tryz.prog 221 1 8 := ⟨⟨93, _, zpS, zrD, zrE, zrF, rfl, by decide, by decide⟩⟩
theorem zem : Tryz.prog.follows .mixedOrders = true := by kernel_rfl
end Go.Proofs.YtanimmdlgmkmkaaGreat.Av
namespace Go.Proofs.YtanimmdlgmkmkaaGreat.Av
set_option linter.unusedSimpArgs false
set_option linter.unusedVariables false
open Go
theorem Ext.setF {σ τ : St} {i : Id} {o : Ob} (h : Ext σ τ) (hi : σ.m i = none) : Ext σ (τ.set i o) := ⟨fun j p hj => by
    have hne : j ≠ i := fun e => by rw [e, hi] at hj; cases hj
    simp only [St.set, hne, false_and, if_false]
    exact h.m j p hj, h.nx⟩
theorem zmf {τ : St} {i : Id} {o p : Ob} (h : τ.m i = some p) : (τ.set i o).m i = some o := by simp [St.set, h]
theorem zpV {τ : St} {i j : Id} {o : Ob} (h : j ≠ i) : (τ.set i o).m j = τ.m j := by simp [St.set, h]
theorem zz {σ : St} {slot sz : Nat} {o : Ob} {j : Id} : (σ.new slot sz o).m j = if j = ⟨slot, σ.nx slot, sz⟩ then some o else σ.m j := rfl
theorem zA {σ : St} {i j : Id} {o : Ob} : (σ.set i o).m j = if j = i ∧ (σ.m i).isSome = true then some o else σ.m j := rfl
theorem ze {σ : St} {slot sz s : Nat} {o : Ob} : (σ.new slot sz o).nx s = if s = slot then σ.nx s + 1 else σ.nx s := rfl
section
variable {P : Program} {N : Nat} {A : zQ} {σ σ0 : St} {r : Option Nat} {K : Exit → zQ → St → Prop}
def zfg (v : AV) (X Y : Prop) : Prop := zfe v X Y
@[congr] theorem zqP {tk : Prop} (hx : (True ∧ True) = tk) {v v' : AV} {X Y : Prop} (h : v = v') : zfg v X Y = zfg v' X Y := by rw [h]
@[simp] theorem zt4 {X Y : Prop} : zfg (.raw (.bool true)) X Y = X := by simp [zfg, zfe]
@[simp] theorem zt5 {X Y : Prop} : zfg (.raw (.bool false)) X Y = Y := by simp [zfg, zfe]
theorem zd {c : Operand} {x y : Code} (h : zfg (zH A c) (AWP P r N x K A σ) (AWP P r N y K A σ)) : AWP P r N (.cond c x y) K A σ := zh2 h
theorem zb {b : Bool} {X Y : Prop} (h1 : b = true → X) (h2 : b = false → Y) : zfg (.raw (.bool b)) X Y := ⟨h1, h2⟩
def zmM (P : Program) (r : Option Nat) (N : Nat) (c : Code) (K : Exit → zQ → St → Prop) (A : zQ) (σ : St) : Prop := match c with
  | .skip => K .normal A σ
  | .exit n => K (.exit n) A σ
  | .ret => K .ret A σ
  | c => AWP P r N c K A σ
theorem zs {c : Code} (h : zmM P r N c K A σ) : AWP P r N c K A σ := by
  cases c <;> first | exact zod h | exact zoe h | exact zmd h | exact h
theorem zt : zmM P r N .skip K A σ = K .normal A σ ∧ (∀ n, zmM P r N (.exit n) K A σ = K (.exit n) A σ) ∧ zmM P r N .ret K A σ = K .ret A σ := ⟨rfl, fun _ => rfl, rfl⟩
theorem dN {id : Nat} {ops : List Oper} (hc : zju ops (fun _ => false) = true) (h : dops Tryz.prog N (ops.map (zcB ops fun _ => false)) A σ (K .normal)) : AWP Tryz.prog r N (.region id ops.toArray true) K A σ := zcd _ zem hc h
theorem dC {id : Nat} {ops : List Oper} (hc : zju ops zd7 = true) (h : dops Tryz.prog N (ops.map (zcB ops zd7)) A σ (K .normal)) : AWP Tryz.prog r N (.region id ops.toArray true) K A σ := zcd _ zem hc h
theorem uP {f : FuncId} {args : List AV} {rv : AV} {K : AV → St → Prop} (h : PCalls P f args rv) (k : K rv σ) : ACalls P f args σ K := h.use k
theorem uD {f : FuncId} {args : List AV} {rv : AV} {X : Prop} {m : Mem} {K : AV → St → Prop} (h : PCalls P f args rv) (k : K rv σ) : (∃ r, RCalls P m f args r ∧ K r σ) ∨ X := .inl ⟨_, .inl h, k⟩
theorem zL : (∀ {σ : St} {slot sz : Nat} {o : Ob} {j : Id}, (σ.new slot sz o).m j = if j = ⟨slot, σ.nx slot, sz⟩ then some o else σ.m j) ∧ (∀ {σ : St} {i j : Id} {o : Ob}, (σ.set i o).m j = if j = i ∧ (σ.m i).isSome = true then some o else σ.m j) ∧ (∀ {σ : St} {slot sz s : Nat} {o : Ob}, (σ.new slot sz o).nx s = if s = slot then σ.nx s + 1 else σ.nx s) := ⟨rfl, rfl, rfl⟩
end
end Go.Proofs.YtanimmdlgmkmkaaGreat.Av
namespace Go.Proofs.YtanimmdlgmkmkaaGreat.Av
open Go
set_option linter.unusedSimpArgs false
set_option linter.unusedVariables false
set_option maxRecDepth 100000
set_option maxHeartbeats 1000000
set_option pp.maxSteps 300
structure Pt where
  dev : Int
  port : Int
deriving DecidableEq
structure Lk where
  a : Pt
  b : Pt
deriving DecidableEq
structure Rg where
  lo : Int
  hi : Int
deriving DecidableEq
structure Ru where
  id : Int
  dev : Int
  prio : Int
  kind : Int
  r : Rg
  port : Int
deriving DecidableEq
structure Tp where
  ports : List Int
  links : List Lk
deriving DecidableEq
structure Nw where
  t : Tp
  rules : List Ru
deriving DecidableEq
def iAV (n : Int) : AV := .raw (.int .i64 n)
def uAV (n : Int) : AV := .raw (.int .u32 n)
def zS (p : Pt) : AV := .agg [.raw (.int .i64 p.dev), .raw (.int .i64 p.port)]
def zcw (l : Lk) : AV := .agg [.raw (.int .i64 l.a.dev), .raw (.int .i64 l.a.port), .raw (.int .i64 l.b.dev), .raw (.int .i64 l.b.port)]
def zat (r : Rg) : AV := .agg [.raw (.int .u32 r.lo), .raw (.int .u32 r.hi)]
def zac (r : Ru) : AV := .agg [.raw (.int .i64 r.id), .raw (.int .i64 r.dev), .raw (.int .i64 r.prio), .raw (.int .i64 r.kind), .raw (.int .u32 r.r.lo), .raw (.int .u32 r.r.hi), .raw (.int .i64 r.port)]
def zq (l : List Int) (f : Bool) : AV := .sl 1 (l.map iAV) f
def zy (l : List Lk) (f : Bool) : AV := .sl 4 (l.map zcw) f
def zE (l : List Ru) (f : Bool) : AV := .sl 7 (l.map zac) f
structure Fl where
  p : Bool
  l : Bool
  r : Bool
def zaT (t : Tp) (f : Fl) : AV := .agg [zq t.ports f.p, zy t.links f.l]
def z7 (n : Nw) (f : Fl) : AV := .agg [zq n.t.ports f.p, zy n.t.links f.l, zE n.rules f.r]
def hasB (t : Tp) (p : Pt) : Bool := decide (0 ≤ p.dev) && match t.ports[p.dev.toNat]? with | some n => decide (0 ≤ p.port) && decide (p.port < n) | none => false
theorem zcs (n b : Int) : PCalls Tryz.prog 203 [.raw (.int .i64 n), .raw (.int .i64 b)] (.raw (.bool (decide (0 ≤ n) && decide (n ≤ b)))) := by
  refine zK Tryz.func203 rfl (N := 12) rfl rfl (by simp) (by simp [noIds]) fun σ => ?_
  (try ((first | with_reducible refine zk ?_ | with_reducible refine zm ?_ | with_reducible refine zo ?_); simp)); repeat' (first | ((first | refine zd ?_ | refine zh ?_ | refine dN (by decide +kernel) ?_ | (refine za ?_ ?_ <;> (intro hg; simp only [hg])) | fail) <;> simp) | refine zg ?_ | refine zc ?_ | (refine zs ?_; simp only [zt]; try simp) | ((first | refine zl (by simp) ?_ | refine zw (by simp) (by simp) (by simp (maxDischargeDepth := 30)) ?_ | fail); simp) | (refine zb (fun hc => ?_) (fun hc => ?_) <;> try simp at hc) | fail)
def zfM (r : Ru) (d a : Int) : Bool := decide (r.dev = d) && (decide (r.r.lo ≤ a) && decide (a ≤ r.r.hi))
theorem zhN (r : Ru) (d a : Int) : PCalls Tryz.prog 217 [zac r, .raw (.int .i64 d), .raw (.int .u32 a)] (.raw (.bool (zfM r d a))) := by
  refine zK Tryz.func217 rfl (N := 25) rfl rfl (by simp) (by simp [noIds]) fun σ => ?_
  (try ((first | with_reducible refine zk ?_ | with_reducible refine zm ?_ | with_reducible refine zo ?_); simp [zac])); repeat' (first | ((first | refine zd ?_ | refine zh ?_ | refine dN (by decide +kernel) ?_ | (refine za ?_ ?_ <;> (intro hg; simp only [hg])) | fail) <;> simp [zac]) | refine zg ?_ | refine zc ?_ | (refine zs ?_; simp only [zt]; try simp) | ((first | refine zl (by simp) ?_ | refine zw (by simp) (by simp) (by simp (maxDischargeDepth := 30) [zac]) ?_ | fail); simp) | (refine zb (fun hc => ?_) (fun hc => ?_) <;> try simp at hc) | fail)
  all_goals (simp_all [zfM] <;> intros <;> omega)
theorem zhO (a : Int) : PCalls Tryz.prog 191 [.raw (.int .i64 a)] (.raw (.bool false)) := by
  refine zK Tryz.func191 rfl (N := 6) rfl rfl (by simp) (by simp [noIds]) fun σ => ?_
  (try ((first | with_reducible refine zk ?_ | with_reducible refine zm ?_ | with_reducible refine zo ?_); simp)); repeat' (first | ((first | refine zd ?_ | refine zh ?_ | refine dN (by decide +kernel) ?_ | (refine za ?_ ?_ <;> (intro hg; simp only [hg])) | fail) <;> simp) | refine zg ?_ | refine zc ?_ | (refine zs ?_; simp only [zt]; try simp) | ((first | refine zl (by simp) ?_ | refine zw (by simp) (by simp) (by simp (maxDischargeDepth := 30)) ?_ | fail); simp) | (refine zb (fun hc => ?_) (fun hc => ?_) <;> try simp at hc) | fail)
def cmpI (a b : Int) : Int := if a < b then -1 else if b < a then 1 else 0
theorem zgB (a b : Int) : PCalls Tryz.prog 140 [.raw (.int .i64 a), .raw (.int .i64 b)] (.raw (.int .i64 (cmpI a b))) := by
  refine zK Tryz.func140 rfl (N := 20) rfl rfl (by simp) (by simp [noIds]) fun σ => ?_
  (try ((first | with_reducible refine zk ?_ | with_reducible refine zm ?_ | with_reducible refine zo ?_); simp)); repeat' (first | ((first | refine zd ?_ | refine zh ?_ | refine dN (by decide +kernel) ?_ | (refine za ?_ ?_ <;> (intro hg; simp only [hg])) | fail) <;> simp) | refine zg ?_ | refine zc ?_ | (refine zs ?_; simp only [zt]; try simp) | ((first | refine zl (by simp) ?_ | refine zw (by simp) (by simp) (by simp (maxDischargeDepth := 30)) ?_ | fail); simp) | (refine zb (fun hc => ?_) (fun hc => ?_) <;> try simp at hc) | fail)
  refine PCalls.use (zhO a) ?_
  (try ((first | with_reducible refine zk ?_ | with_reducible refine zm ?_ | with_reducible refine zo ?_); simp)); repeat' (first | ((first | refine zd ?_ | refine zh ?_ | refine dN (by decide +kernel) ?_ | (refine za ?_ ?_ <;> (intro hg; simp only [hg])) | fail) <;> simp) | refine zg ?_ | refine zc ?_ | (refine zs ?_; simp only [zt]; try simp) | ((first | refine zl (by simp) ?_ | refine zw (by simp) (by simp) (by simp (maxDischargeDepth := 30)) ?_ | fail); simp) | (refine zb (fun hc => ?_) (fun hc => ?_) <;> try simp at hc) | fail)
  refine PCalls.use (zhO b) ?_
  (try ((first | with_reducible refine zk ?_ | with_reducible refine zm ?_ | with_reducible refine zo ?_); simp [cmpI])); repeat' (first | ((first | refine zd ?_ | refine zh ?_ | refine dN (by decide +kernel) ?_ | (refine za ?_ ?_ <;> (intro hg; simp only [hg])) | fail) <;> simp [cmpI]) | refine zg ?_ | refine zc ?_ | (refine zs ?_; simp only [zt]; try simp) | ((first | refine zl (by simp) ?_ | refine zw (by simp) (by simp) (by simp (maxDischargeDepth := 30) [cmpI]) ?_ | fail); simp) | (refine zb (fun hc => ?_) (fun hc => ?_) <;> try simp at hc) | fail)
  all_goals (unfold cmpI; (repeat' split) <;> omega)
end Go.Proofs.YtanimmdlgmkmkaaGreat.Av
namespace Go.Proofs.YtanimmdlgmkmkaaGreat.Av
open Go
set_option linter.unusedSimpArgs false
set_option linter.unusedVariables false
set_option maxRecDepth 100000
set_option maxHeartbeats 1000000
set_option pp.maxSteps 300
def idxOf {T : Type} (p : T → Bool) (z : List T) : Int := if z.any p then (z.findIdx p : Nat) else -1
theorem zgi {T : Type} {p : T → Bool} {z : List T} {i : Nat} {x : T} (hx : z[i]? = some x) (hp : p x = true) (hn : ∀ j, j < i → ∀ y, z[j]? = some y → p y = false) : idxOf p z = i := by
  unfold idxOf
  obtain ⟨hi, he⟩ := List.getElem?_eq_some_iff.1 hx
  rw [if_pos (List.any_eq_true.2 ⟨x, List.mem_of_getElem? hx, hp⟩)]
  congr 1
  rw [List.findIdx_eq hi]
  refine ⟨by rw [he]; exact hp, fun j hj => ?_⟩
  exact hn j hj _ (List.getElem?_eq_getElem (by omega))
theorem zgj {T : Type} {p : T → Bool} {z : List T} (hn : ∀ j, j < z.length → ∀ y, z[j]? = some y → p y = false) : idxOf p z = -1 ∧ z.any p = false := by
  have : z.any p = false := by
    rw [List.any_eq_false]
    intro x hx
    obtain ⟨j, hj⟩ := List.getElem?_of_mem hx
    simp [hn j (List.getElem?_eq_some_iff.1 hj).1 x hj]
  exact ⟨by unfold idxOf; rw [this]; rfl, this⟩
theorem zjX {T : Type} (p : T → Bool) (z : List T) : decide (0 ≤ idxOf p z) = z.any p := by
  unfold idxOf
  cases z.any p <;> simp
theorem zF (r : Ru) : (zac r).cells = [.raw (.int .i64 r.id), .raw (.int .i64 r.dev), .raw (.int .i64 r.prio), .raw (.int .i64 r.kind), .raw (.int .u32 r.r.lo), .raw (.int .u32 r.r.hi), .raw (.int .i64 r.port)] := rfl
theorem zb3 (l : Lk) : (zcw l).cells = [.raw (.int .i64 l.a.dev), .raw (.int .i64 l.a.port), .raw (.int .i64 l.b.dev), .raw (.int .i64 l.b.port)] := rfl
theorem zay (n : Int) : (iAV n).cells = [.raw (.int .i64 n)] := rfl
theorem zkh {g : FuncId} {caps : List AV} {p : Ru → Bool} (z : List Ru) (fz : Bool) (hl : z.length < 2 ^ 60) (hg : ∀ r ∈ z, PCalls Tryz.prog g (zac r :: caps) (.raw (.bool (p r)))) :
    PCalls Tryz.prog 206 [zE z fz, .fn (.func g) [] caps] (.raw (.int .i64 (idxOf p z))) := by
  refine zK Tryz.func206 rfl (N := 19) rfl rfl (by simp) (by simp [noIds]) fun σ => ?_
  (try ((first | with_reducible refine zk ?_ | with_reducible refine zm ?_ | with_reducible refine zo ?_); simp [zE])); repeat' (first | ((first | refine zd ?_ | refine zh ?_ | refine dN (by decide +kernel) ?_ | (refine za ?_ ?_ <;> (intro hg; simp only [hg])) | fail) <;> simp [zE]) | refine zg ?_ | refine zc ?_ | (refine zs ?_; simp only [zt]; try simp) | ((first | refine zl (by simp) ?_ | refine zw (by simp) (by simp) (by simp (maxDischargeDepth := 30) [zE]) ?_ | fail); simp) | (refine zb (fun hc => ?_) (fun hc => ?_) <;> try simp at hc) | fail)
  refine zab (fun n A τ => τ = σ ∧ A 0 = zE z fz ∧ A 1 = .fn (.func g) [] caps ∧ A 7 = .raw (.int .i64 z.length) ∧ ∃ i : Nat, A 8 = .raw (.int .i64 i) ∧ i ≤ z.length ∧ n = z.length - i ∧ ∀ j, j < i → ∀ y, z[j]? = some y → p y = false) z.length ?_ ?_
  · exact ⟨rfl, by simp [zE], by simp, by simp, 0, by simp, by omega, by omega, fun j h => by omega⟩
  rintro n A τ ⟨rfl, a0, a1, a7, i, a8, hi, rfl, hn⟩ I1 hI1
  by_cases hlt : i < z.length
  · have hx : z[i]? = some z[i] := List.getElem?_eq_getElem hlt
    have w1 : IntKind.i64.wrap ((i : Int) + 1) = ((i + 1 : Nat) : Int) := by rw [zU (by omega) (by omega)]; omega
    have hr : AV.agg [.raw (.int .i64 z[i].id), .raw (.int .i64 z[i].dev), .raw (.int .i64 z[i].prio), .raw (.int .i64 z[i].kind), .raw (.int .u32 z[i].r.lo), .raw (.int .u32 z[i].r.hi), .raw (.int .i64 z[i].port)] = zac z[i] := rfl
    (try ((first | with_reducible refine zk ?_ | with_reducible refine zm ?_ | with_reducible refine zo ?_); simp [zE, a0, a1, a7, a8, hlt, hx, zF, hr])); repeat' (first | ((first | refine zd ?_ | refine zh ?_ | refine dN (by decide +kernel) ?_ | (refine za ?_ ?_ <;> (intro hg; simp only [hg])) | fail) <;> simp [zE, a0, a1, a7, a8, hlt, hx, zF, hr]) | refine zg ?_ | refine zc ?_ | (refine zs ?_; simp only [zt]; try simp) | ((first | refine zl (by simp) ?_ | refine zw (by simp) (by simp) (by simp (maxDischargeDepth := 30) [zE, a0, a1, a7, a8, hlt, hx, zF, hr]) ?_ | fail); simp) | (refine zb (fun hc => ?_) (fun hc => ?_) <;> try simp at hc) | fail)
    refine PCalls.use (hg z[i] (List.getElem_mem _)) ?_
    cases hp : p z[i] with
    | true =>
      (try ((first | with_reducible refine zk ?_ | with_reducible refine zm ?_ | with_reducible refine zo ?_); simp [zE, a0, a1, a7, a8, hlt, hx, zF, hr])); repeat' (first | ((first | refine zd ?_ | refine zh ?_ | refine dN (by decide +kernel) ?_ | (refine za ?_ ?_ <;> (intro hg; simp only [hg])) | fail) <;> simp [zE, a0, a1, a7, a8, hlt, hx, zF, hr]) | refine zg ?_ | refine zc ?_ | (refine zs ?_; simp only [zt]; try simp) | ((first | refine zl (by simp) ?_ | refine zw (by simp) (by simp) (by simp (maxDischargeDepth := 30) [zE, a0, a1, a7, a8, hlt, hx, zF, hr]) ?_ | fail); simp) | (refine zb (fun hc => ?_) (fun hc => ?_) <;> try simp at hc) | fail)
      exact (zgi hx hp hn).symm
    | false =>
      (try ((first | with_reducible refine zk ?_ | with_reducible refine zm ?_ | with_reducible refine zo ?_); simp [zE, a0, a1, a7, a8, hlt, hx, zF, hr])); repeat' (first | ((first | refine zd ?_ | refine zh ?_ | refine dN (by decide +kernel) ?_ | (refine za ?_ ?_ <;> (intro hg; simp only [hg])) | fail) <;> simp [zE, a0, a1, a7, a8, hlt, hx, zF, hr]) | refine zg ?_ | refine zc ?_ | (refine zs ?_; simp only [zt]; try simp) | ((first | refine zl (by simp) ?_ | refine zw (by simp) (by simp) (by simp (maxDischargeDepth := 30) [zE, a0, a1, a7, a8, hlt, hx, zF, hr]) ?_ | fail); simp) | (refine zb (fun hc => ?_) (fun hc => ?_) <;> try simp at hc) | fail)
      refine hI1 (z.length - (i + 1)) _ _ (by omega) ⟨rfl, by simp [a0], by simp [a1], by simp [a7], i + 1, by simp [w1], by omega, rfl, fun j hj y hy => ?_⟩
      by_cases e : j = i
      · subst e; rw [hx] at hy; injection hy with hy; subst hy; exact hp
      · exact hn j (by omega) y hy
  · have hi' : i = z.length := by omega
    subst hi'
    have w1 : IntKind.i64.wrap (-1) = -1 := zU (by omega) (by omega)
    (try ((first | with_reducible refine zk ?_ | with_reducible refine zm ?_ | with_reducible refine zo ?_); simp [zE, a0, a1, a7, a8, w1])); repeat' (first | ((first | refine zd ?_ | refine zh ?_ | refine dN (by decide +kernel) ?_ | (refine za ?_ ?_ <;> (intro hg; simp only [hg])) | fail) <;> simp [zE, a0, a1, a7, a8, w1]) | refine zg ?_ | refine zc ?_ | (refine zs ?_; simp only [zt]; try simp) | ((first | refine zl (by simp) ?_ | refine zw (by simp) (by simp) (by simp (maxDischargeDepth := 30) [zE, a0, a1, a7, a8, w1]) ?_ | fail); simp) | (refine zb (fun hc => ?_) (fun hc => ?_) <;> try simp at hc) | fail)
    exact (zgj hn).1.symm
theorem zjw {g : FuncId} {caps : List AV} {p : Int → Bool} (z : List Int) (fz : Bool) (hl : z.length < 2 ^ 60) (hg : ∀ r ∈ z, PCalls Tryz.prog g (iAV r :: caps) (.raw (.bool (p r)))) :
    PCalls Tryz.prog 115 [zq z fz, .fn (.func g) [] caps] (.raw (.int .i64 (idxOf p z))) := by
  refine zK Tryz.func115 rfl (N := 19) rfl rfl (by simp) (by simp [noIds]) fun σ => ?_
  (try ((first | with_reducible refine zk ?_ | with_reducible refine zm ?_ | with_reducible refine zo ?_); simp [zq])); repeat' (first | ((first | refine zd ?_ | refine zh ?_ | refine dN (by decide +kernel) ?_ | (refine za ?_ ?_ <;> (intro hg; simp only [hg])) | fail) <;> simp [zq]) | refine zg ?_ | refine zc ?_ | (refine zs ?_; simp only [zt]; try simp) | ((first | refine zl (by simp) ?_ | refine zw (by simp) (by simp) (by simp (maxDischargeDepth := 30) [zq]) ?_ | fail); simp) | (refine zb (fun hc => ?_) (fun hc => ?_) <;> try simp at hc) | fail)
  refine zab (fun n A τ => τ = σ ∧ A 0 = zq z fz ∧ A 1 = .fn (.func g) [] caps ∧ A 7 = .raw (.int .i64 z.length) ∧ ∃ i : Nat, A 8 = .raw (.int .i64 i) ∧ i ≤ z.length ∧ n = z.length - i ∧ ∀ j, j < i → ∀ y, z[j]? = some y → p y = false) z.length ?_ ?_
  · exact ⟨rfl, by simp [zq], by simp, by simp, 0, by simp, by omega, by omega, fun j h => by omega⟩
  rintro n A τ ⟨rfl, a0, a1, a7, i, a8, hi, rfl, hn⟩ I1 hI1
  by_cases hlt : i < z.length
  · have hx : z[i]? = some z[i] := List.getElem?_eq_getElem hlt
    have w1 : IntKind.i64.wrap ((i : Int) + 1) = ((i + 1 : Nat) : Int) := by rw [zU (by omega) (by omega)]; omega
    have hr : AV.raw (.int .i64 z[i]) = iAV z[i] := rfl
    (try ((first | with_reducible refine zk ?_ | with_reducible refine zm ?_ | with_reducible refine zo ?_); simp [zq, a0, a1, a7, a8, hlt, hx, zay, hr])); repeat' (first | ((first | refine zd ?_ | refine zh ?_ | refine dN (by decide +kernel) ?_ | (refine za ?_ ?_ <;> (intro hg; simp only [hg])) | fail) <;> simp [zq, a0, a1, a7, a8, hlt, hx, zay, hr]) | refine zg ?_ | refine zc ?_ | (refine zs ?_; simp only [zt]; try simp) | ((first | refine zl (by simp) ?_ | refine zw (by simp) (by simp) (by simp (maxDischargeDepth := 30) [zq, a0, a1, a7, a8, hlt, hx, zay, hr]) ?_ | fail); simp) | (refine zb (fun hc => ?_) (fun hc => ?_) <;> try simp at hc) | fail)
    refine PCalls.use (hg z[i] (List.getElem_mem _)) ?_
    cases hp : p z[i] with
    | true =>
      (try ((first | with_reducible refine zk ?_ | with_reducible refine zm ?_ | with_reducible refine zo ?_); simp [zq, a0, a1, a7, a8, hlt, hx, zay, hr])); repeat' (first | ((first | refine zd ?_ | refine zh ?_ | refine dN (by decide +kernel) ?_ | (refine za ?_ ?_ <;> (intro hg; simp only [hg])) | fail) <;> simp [zq, a0, a1, a7, a8, hlt, hx, zay, hr]) | refine zg ?_ | refine zc ?_ | (refine zs ?_; simp only [zt]; try simp) | ((first | refine zl (by simp) ?_ | refine zw (by simp) (by simp) (by simp (maxDischargeDepth := 30) [zq, a0, a1, a7, a8, hlt, hx, zay, hr]) ?_ | fail); simp) | (refine zb (fun hc => ?_) (fun hc => ?_) <;> try simp at hc) | fail)
      exact (zgi hx hp hn).symm
    | false =>
      (try ((first | with_reducible refine zk ?_ | with_reducible refine zm ?_ | with_reducible refine zo ?_); simp [zq, a0, a1, a7, a8, hlt, hx, zay, hr])); repeat' (first | ((first | refine zd ?_ | refine zh ?_ | refine dN (by decide +kernel) ?_ | (refine za ?_ ?_ <;> (intro hg; simp only [hg])) | fail) <;> simp [zq, a0, a1, a7, a8, hlt, hx, zay, hr]) | refine zg ?_ | refine zc ?_ | (refine zs ?_; simp only [zt]; try simp) | ((first | refine zl (by simp) ?_ | refine zw (by simp) (by simp) (by simp (maxDischargeDepth := 30) [zq, a0, a1, a7, a8, hlt, hx, zay, hr]) ?_ | fail); simp) | (refine zb (fun hc => ?_) (fun hc => ?_) <;> try simp at hc) | fail)
      refine hI1 (z.length - (i + 1)) _ _ (by omega) ⟨rfl, by simp [a0], by simp [a1], by simp [a7], i + 1, by simp [w1], by omega, rfl, fun j hj y hy => ?_⟩
      by_cases e : j = i
      · subst e; rw [hx] at hy; injection hy with hy; subst hy; exact hp
      · exact hn j (by omega) y hy
  · have hi' : i = z.length := by omega
    subst hi'
    have w1 : IntKind.i64.wrap (-1) = -1 := zU (by omega) (by omega)
    (try ((first | with_reducible refine zk ?_ | with_reducible refine zm ?_ | with_reducible refine zo ?_); simp [zq, a0, a1, a7, a8, w1])); repeat' (first | ((first | refine zd ?_ | refine zh ?_ | refine dN (by decide +kernel) ?_ | (refine za ?_ ?_ <;> (intro hg; simp only [hg])) | fail) <;> simp [zq, a0, a1, a7, a8, w1]) | refine zg ?_ | refine zc ?_ | (refine zs ?_; simp only [zt]; try simp) | ((first | refine zl (by simp) ?_ | refine zw (by simp) (by simp) (by simp (maxDischargeDepth := 30) [zq, a0, a1, a7, a8, w1]) ?_ | fail); simp) | (refine zb (fun hc => ?_) (fun hc => ?_) <;> try simp at hc) | fail)
    exact (zgj hn).1.symm
theorem zhC {g : FuncId} {caps : List AV} {p : Int → Bool} (z : List Int) (fz : Bool) (hl : z.length < 2 ^ 60) (hg : ∀ r ∈ z, PCalls Tryz.prog g (iAV r :: caps) (.raw (.bool (p r)))) :
    PCalls Tryz.prog 63 [zq z fz, .fn (.func g) [] caps] (.raw (.bool (z.any p))) := by
  refine zK Tryz.func63 rfl (N := 9) rfl rfl (by simp) (by simp [noIds]) fun σ => ?_
  (try ((first | with_reducible refine zk ?_ | with_reducible refine zm ?_ | with_reducible refine zo ?_); simp)); repeat' (first | ((first | refine zd ?_ | refine zh ?_ | refine dN (by decide +kernel) ?_ | (refine za ?_ ?_ <;> (intro hg; simp only [hg])) | fail) <;> simp) | refine zg ?_ | refine zc ?_ | (refine zs ?_; simp only [zt]; try simp) | ((first | refine zl (by simp) ?_ | refine zw (by simp) (by simp) (by simp (maxDischargeDepth := 30)) ?_ | fail); simp) | (refine zb (fun hc => ?_) (fun hc => ?_) <;> try simp at hc) | fail)
  refine PCalls.use (zjw z fz hl hg) ?_
  have := zjX p z
  (try ((first | with_reducible refine zk ?_ | with_reducible refine zm ?_ | with_reducible refine zo ?_); simp)); repeat' (first | ((first | refine zd ?_ | refine zh ?_ | refine dN (by decide +kernel) ?_ | (refine za ?_ ?_ <;> (intro hg; simp only [hg])) | fail) <;> simp) | refine zg ?_ | refine zc ?_ | (refine zs ?_; simp only [zt]; try simp) | ((first | refine zl (by simp) ?_ | refine zw (by simp) (by simp) (by simp (maxDischargeDepth := 30)) ?_ | fail); simp) | (refine zb (fun hc => ?_) (fun hc => ?_) <;> try simp at hc) | fail)
  simpa using this
end Go.Proofs.YtanimmdlgmkmkaaGreat.Av
namespace Go.Proofs.YtanimmdlgmkmkaaGreat.Av
open Go
set_option linter.unusedSimpArgs false
set_option linter.unusedVariables false
set_option maxRecDepth 100000
set_option maxHeartbeats 2000000
set_option pp.maxSteps 300
theorem zfN {T : Type} [DecidableEq T] {x y : List T} {i : Nat} (h : x.take i = y.take i) {a : T} (hx : x[i]? = some a) (hy : y[i]? = some a) : x.take (i + 1) = y.take (i + 1) := by
  rw [List.take_add_one, List.take_add_one, h, hx, hy]
theorem zfO (x y : List Int) (fx fy : Bool) (hl : x.length < 2 ^ 60) (hl2 : y.length < 2 ^ 60) : PCalls Tryz.prog 109 [zq x fx, zq y fy] (.raw (.bool (decide (x = y)))) := by
  refine zK Tryz.func109 rfl (N := 26) rfl rfl (by simp) (by simp [noIds]) fun σ => ?_
  by_cases hlen : x.length = y.length
  · have hli : (x.length : Int) = (y.length : Int) := by omega
    (try ((first | with_reducible refine zk ?_ | with_reducible refine zm ?_ | with_reducible refine zo ?_); simp [zq, hlen, hli])); repeat' (first | ((first | refine zd ?_ | refine zh ?_ | refine dN (by decide +kernel) ?_ | (refine za ?_ ?_ <;> (intro hg; simp only [hg])) | fail) <;> simp [zq, hlen, hli]) | refine zg ?_ | refine zc ?_ | (refine zs ?_; simp only [zt]; try simp) | ((first | refine zl (by simp) ?_ | refine zw (by simp) (by simp) (by simp (maxDischargeDepth := 30) [zq, hlen, hli]) ?_ | fail); simp) | (refine zb (fun hc => ?_) (fun hc => ?_) <;> try simp at hc) | fail)
    refine zab (fun n A τ => τ = σ ∧ A 0 = zq x fx ∧ A 1 = zq y fy ∧ A 12 = .raw (.int .i64 y.length) ∧ ∃ i : Nat, A 13 = .raw (.int .i64 i) ∧ i ≤ y.length ∧ n = y.length - i ∧ x.take i = y.take i) y.length ?_ ?_
    · exact ⟨rfl, by simp [zq], by simp [zq], by simp [zq], 0, by simp, by omega, by omega, by simp⟩
    rintro n A τ ⟨rfl, a0, a1, a12, i, a13, hi, rfl, htk⟩ I1 hI1
    by_cases hlt : i < y.length
    · have hlx : i < x.length := by omega
      have hx : x[i]? = some x[i] := List.getElem?_eq_getElem hlx
      have hy : y[i]? = some y[i] := List.getElem?_eq_getElem hlt
      have w1 : IntKind.i64.wrap ((i : Int) + 1) = ((i + 1 : Nat) : Int) := by rw [zU (by omega) (by omega)]; omega
      by_cases he : x[i] = y[i]
      · skip
        (try ((first | with_reducible refine zk ?_ | with_reducible refine zm ?_ | with_reducible refine zo ?_); simp [zq, iAV, a0, a1, a12, a13, hlt, hlx, hx, hy, zay, he, w1])); repeat' (first | ((first | refine zd ?_ | refine zh ?_ | refine dN (by decide +kernel) ?_ | (refine za ?_ ?_ <;> (intro hg; simp only [hg])) | fail) <;> simp [zq, iAV, a0, a1, a12, a13, hlt, hlx, hx, hy, zay, he, w1]) | refine zg ?_ | refine zc ?_ | (refine zs ?_; simp only [zt]; try simp) | ((first | refine zl (by simp) ?_ | refine zw (by simp) (by simp) (by simp (maxDischargeDepth := 30) [zq, iAV, a0, a1, a12, a13, hlt, hlx, hx, hy, zay, he, w1]) ?_ | fail); simp) | (refine zb (fun hc => ?_) (fun hc => ?_) <;> try simp at hc) | fail)
        all_goals exact hI1 (y.length - (i + 1)) _ _ (by omega) ⟨rfl, by simp [a0, zq, iAV], by simp [a1, zq, iAV], by simp [a12], i + 1, by simp [w1], by omega, rfl, zfN htk hx (by rw [hy, he])⟩
      · skip
        (try ((first | with_reducible refine zk ?_ | with_reducible refine zm ?_ | with_reducible refine zo ?_); simp [zq, iAV, a0, a1, a12, a13, hlt, hlx, hx, hy, zay, he, w1])); repeat' (first | ((first | refine zd ?_ | refine zh ?_ | refine dN (by decide +kernel) ?_ | (refine za ?_ ?_ <;> (intro hg; simp only [hg])) | fail) <;> simp [zq, iAV, a0, a1, a12, a13, hlt, hlx, hx, hy, zay, he, w1]) | refine zg ?_ | refine zc ?_ | (refine zs ?_; simp only [zt]; try simp) | ((first | refine zl (by simp) ?_ | refine zw (by simp) (by simp) (by simp (maxDischargeDepth := 30) [zq, iAV, a0, a1, a12, a13, hlt, hlx, hx, hy, zay, he, w1]) ?_ | fail); simp) | (refine zb (fun hc => ?_) (fun hc => ?_) <;> try simp at hc) | fail)
        all_goals (rintro rfl; exact he rfl)
    · have : i = y.length := by omega
      subst this
      have hxy : x = y := by
        rw [List.take_length, ← hlen, List.take_length] at htk; exact htk
      (try ((first | with_reducible refine zk ?_ | with_reducible refine zm ?_ | with_reducible refine zo ?_); simp [zq, a0, a1, a12, a13])); repeat' (first | ((first | refine zd ?_ | refine zh ?_ | refine dN (by decide +kernel) ?_ | (refine za ?_ ?_ <;> (intro hg; simp only [hg])) | fail) <;> simp [zq, a0, a1, a12, a13]) | refine zg ?_ | refine zc ?_ | (refine zs ?_; simp only [zt]; try simp) | ((first | refine zl (by simp) ?_ | refine zw (by simp) (by simp) (by simp (maxDischargeDepth := 30) [zq, a0, a1, a12, a13]) ?_ | fail); simp) | (refine zb (fun hc => ?_) (fun hc => ?_) <;> try simp at hc) | fail)
      all_goals first | exact hxy | simp [hxy]
  · have hli : ¬ ((x.length : Int) = (y.length : Int)) := by omega
    (try ((first | with_reducible refine zk ?_ | with_reducible refine zm ?_ | with_reducible refine zo ?_); simp [zq, hlen, hli])); repeat' (first | ((first | refine zd ?_ | refine zh ?_ | refine dN (by decide +kernel) ?_ | (refine za ?_ ?_ <;> (intro hg; simp only [hg])) | fail) <;> simp [zq, hlen, hli]) | refine zg ?_ | refine zc ?_ | (refine zs ?_; simp only [zt]; try simp) | ((first | refine zl (by simp) ?_ | refine zw (by simp) (by simp) (by simp (maxDischargeDepth := 30) [zq, hlen, hli]) ?_ | fail); simp) | (refine zb (fun hc => ?_) (fun hc => ?_) <;> try simp at hc) | fail)
    all_goals (rintro rfl; exact hlen rfl)
end Go.Proofs.YtanimmdlgmkmkaaGreat.Av
namespace Go.Proofs.YtanimmdlgmkmkaaGreat.Av
open Go
set_option linter.unusedSimpArgs false
set_option linter.unusedVariables false
set_option maxRecDepth 100000
set_option maxHeartbeats 2000000
set_option pp.maxSteps 300
def ptV (p : Pt) : Value := .agg #[.int .i64 p.dev, .int .i64 p.port]
def enc (m : List (Pt × Pt)) : List (Value × AV) := m.map fun e => (ptV e.1, zS e.2)
def upd (m : List (Pt × Pt)) (k v : Pt) : List (Pt × Pt) := m.filter (fun e => decide (k ≠ e.1)) ++ [(k, v)]
theorem ziW (k q : Pt) : zaO Tryz.prog 4 41 (zS k) (zai (ptV q)) = some (decide (k = q)) := by
  have : decide (k = q) = (decide (k.dev = q.dev) && decide (k.port = q.port)) := by
    cases k; cases q; simp
  rw [this]
  simp [zaO, zS, ptV, zcW, zbO, zeV, zaP]
theorem zia (k : Pt) : ∀ m : List (Pt × Pt), zbW Tryz.prog 41 (zS k) (enc m) = some (enc (m.filter fun e => decide (k = e.1)), enc (m.filter fun e => decide (k ≠ e.1)))
  | [] => rfl
  | e :: m => by
    have ih := zia k m
    simp only [enc, List.map_cons] at ih ⊢
    simp only [zbW, ziW]
    by_cases h : k = e.1
    · simp [h] at ih ⊢; rw [ih]
    · simp [h] at ih ⊢; rw [ih]
def zen (m : List (Pt × Pt)) : Prop := (m.map (·.1)).Nodup
theorem zmg {m : List (Pt × Pt)} (h : zen m) (k : Pt) : (m.filter fun e => decide (k = e.1)) = [] ∨ ∃ v, (m.filter fun e => decide (k = e.1)) = [(k, v)] := by
  induction m with
  | nil => exact .inl rfl
  | cons e m ih =>
    have h' := List.nodup_cons.1 (show (e.1 :: m.map (·.1)).Nodup from h)
    by_cases hk : k = e.1
    · right
      refine ⟨e.2, ?_⟩
      have : (m.filter fun e => decide (k = e.1)) = [] := by
        rw [List.filter_eq_nil_iff]
        intro x hx hkx
        simp only [decide_eq_true_eq] at hkx
        exact h'.1 (by rw [← hk, hkx]; exact List.mem_map.2 ⟨x, hx, rfl⟩)
      rw [List.filter_cons_of_pos (by simp [hk]), this, hk]
    · rw [List.filter_cons_of_neg (by simpa using hk)]
      exact ih h'.2
theorem zib {m : List (Pt × Pt)} (h : zen m) (k v : Pt) : zen (upd m k v) := by
  unfold zen upd at *
  rw [List.map_append, List.nodup_append]
  refine ⟨h.sublist (List.Sublist.map _ List.filter_sublist), by simp, fun a ha b hb e => ?_⟩
  simp only [List.map_cons, List.map_nil, List.mem_singleton] at hb
  subst hb; subst e
  obtain ⟨x, hx, rfl⟩ := List.mem_map.1 ha
  simpa using (List.mem_filter.1 hx).2
theorem zo3 (k : Pt) : Instr.sameBits 10000 (ptV k) (ptV k) = true := by
  have : (10000 : Nat) = 9999 + 1 := rfl
  rw [this]
  simp [ptV, Instr.sameBits]
theorem zk6 (k : Pt) : zfF Tryz.prog 41 (zS k) = true := by simp [zfF, zS, zbO]
theorem zoV {m : Mem} {i : Id} {L : List (Pt × Pt)} (hm : m i = some (.map (enc L))) (hk : zen L) (k v : Pt) : zbe Tryz.prog m 210 (.mp i) (zS k) (zS v) = some (.wrm i (enc (upd L k v))) := by
  have hkv : zil (zS k) = some (ptV k) := rfl
  unfold zbe
  simp only [znz, hkv, hm, zk6, zoT, and_self, if_true, zia]
  rcases zmg hk k with h | ⟨w, h⟩
  · rw [h]
    simp [enc, upd]
  · rw [h]
    simp [enc, upd, zo3]
theorem zpW {m : Mem} {i : Id} {L : List (Pt × Pt)} (hm : m i = some (.map (enc L))) (hk : zen L) (k : Pt) :
    zbB Tryz.prog m 210 (.mp i) (zS k) true = some (match L.find? (fun e => decide (k = e.1)) with | some e => .tup [zS e.2, .raw (.bool true)] | none => .tup [zS ⟨0, 0⟩, .raw (.bool false)]) := by
  unfold zbB
  simp only [znz, hm, zk6, zoT, and_self, if_true, zia]
  have hf : L.find? (fun e => decide (k = e.1)) = (L.filter fun e => decide (k = e.1)).head? := by simp
  rw [hf]
  rcases zmg hk k with h | ⟨w, h⟩
  · rw [h]; simp [enc, zS, zaP]
  · rw [h]; simp [enc]
def zb7 (L : List Lk) : List (Pt × Pt) := L.foldl (fun m l => upd (upd m l.a l.b) l.b l.a) []
theorem zgk (L : List Lk) : zen (zb7 L) := by
  have : ∀ (L : List Lk) m, zen m → zen (L.foldl (fun m l => upd (upd m l.a l.b) l.b l.a) m) := by
    intro L
    induction L with
    | nil => exact fun m h => h
    | cons l L ih => exact fun m h => ih _ (zib (zib h _ _) _ _)
  exact this L [] (by simp [zen])
theorem zmN {L : List Lk} {k : Nat} {l : Lk} (h : L[k]? = some l) : zb7 (L.take (k + 1)) = upd (upd (zb7 (L.take k)) l.a l.b) l.b l.a := by
  rw [List.take_add_one, h]
  simp [zb7, List.foldl_append]
theorem znA (m : List (Pt × Pt)) : zc0 ((enc m).map (·.2)) = true := by
  induction m with
  | nil => rfl
  | cons e m ih => simp only [enc, List.map_cons, zc0] at ih ⊢; rw [ih]; rfl
theorem zbl (l : Lk) : (zcw l).cells = [.raw (.int .i64 l.a.dev), .raw (.int .i64 l.a.port), .raw (.int .i64 l.b.dev), .raw (.int .i64 l.b.port)] := rfl
theorem zk7 (t : Tp) (f : Fl) (hl : t.links.length < 2 ^ 42) : MCalls Tryz.prog 177 [zaT t f] 0 (.map (enc (zb7 t.links))) .mp := by
  refine zmK (znA _) fun σ => ?_
  refine zcr Tryz.func177 rfl (N := 26) rfl rfl (by simp) ?_
  (try ((first | with_reducible refine zk ?_ | with_reducible refine zm ?_ | with_reducible refine zo ?_); simp [zaT, zy, zq])); repeat' (first | ((first | refine zd ?_ | refine zh ?_ | refine dN (by decide +kernel) ?_ | (refine za ?_ ?_ <;> (intro hg; simp only [hg])) | fail) <;> simp [zaT, zy, zq]) | refine zg ?_ | refine zc ?_ | (refine zs ?_; simp only [zt]; try simp) | ((first | refine zl (by simp) ?_ | refine zw (by simp) (by simp) (by simp (maxDischargeDepth := 30) [zaT, zy, zq]) ?_ | fail); simp) | (refine zb (fun hc => ?_) (fun hc => ?_) <;> try simp at hc) | fail)
  refine zab (fun n A τ => Ext σ τ ∧ A 3 = .mp ⟨6, σ.nx 6, 0⟩ ∧ A 8 = zy t.links f.l ∧ A 9 = .raw (.int .i64 t.links.length) ∧ ∃ k : Nat, A 10 = .raw (.int .i64 k) ∧ k ≤ t.links.length ∧ τ.m ⟨6, σ.nx 6, 0⟩ = some (.map (enc (zb7 (t.links.take k)))) ∧ n = t.links.length - k) t.links.length ?_ ?_
  · exact ⟨by simp (maxDischargeDepth := 30), by simp [St.new], by simp [zy], by simp, 0, by simp, by omega, by simp [St.new, zb7, enc], by omega⟩
  rintro n A τ ⟨hE, a3, a8, a9, k, a10, hk, hm, rfl⟩ I1 hI1
  have f6 : σ.m ⟨6, σ.nx 6, 0⟩ = none := zf _ _ _
  by_cases hlt : k < t.links.length
  · have hx : t.links[k]? = some t.links[k] := List.getElem?_eq_getElem hlt
    have w1 : IntKind.i64.wrap ((k : Int) + 1) = ((k + 1 : Nat) : Int) := by rw [zU (by omega) (by omega)]; omega
    have hj := zmN hx
    have fa : AV.agg [.raw (.int .i64 t.links[k].a.dev), .raw (.int .i64 t.links[k].a.port)] = zS t.links[k].a := rfl
    have fb : AV.agg [.raw (.int .i64 t.links[k].b.dev), .raw (.int .i64 t.links[k].b.port)] = zS t.links[k].b := rfl
    have hu1 : ∀ m : Mem, m ⟨6, σ.nx 6, 0⟩ = some (.map (enc (zb7 (t.links.take k)))) → zbe Tryz.prog m 210 (.mp ⟨6, σ.nx 6, 0⟩) (zS t.links[k].a) (zS t.links[k].b) = some (.wrm ⟨6, σ.nx 6, 0⟩ (enc (upd (zb7 (t.links.take k)) t.links[k].a t.links[k].b))) := fun m h => zoV h (zgk _) _ _
    have hu2 : ∀ m : Mem, m ⟨6, σ.nx 6, 0⟩ = some (.map (enc (upd (zb7 (t.links.take k)) t.links[k].a t.links[k].b))) → zbe Tryz.prog m 210 (.mp ⟨6, σ.nx 6, 0⟩) (zS t.links[k].b) (zS t.links[k].a) = some (.wrm ⟨6, σ.nx 6, 0⟩ (enc (zb7 (t.links.take (k + 1))))) := fun m h => by
      rw [hj]; exact zoV h (zib (zgk _) _ _) _ _
    clear hj
    (try ((first | with_reducible refine zk ?_ | with_reducible refine zm ?_ | with_reducible refine zo ?_); simp [a3, a8, a9, a10, hlt, hx, hm, zy, zbl, fa, fb, hu1, hu2, w1])); repeat' (first | ((first | refine zd ?_ | refine zh ?_ | refine dN (by decide +kernel) ?_ | (refine za ?_ ?_ <;> (intro hg; simp only [hg])) | fail) <;> simp [a3, a8, a9, a10, hlt, hx, hm, zy, zbl, fa, fb, hu1, hu2, w1]) | refine zg ?_ | refine zc ?_ | (refine zs ?_; simp only [zt]; try simp) | ((first | refine zl (by simp) ?_ | refine zw (by simp) (by simp) (by simp (maxDischargeDepth := 30) [a3, a8, a9, a10, hlt, hx, hm, zy, zbl, fa, fb, hu1, hu2, w1]) ?_ | fail); simp) | (refine zb (fun hc => ?_) (fun hc => ?_) <;> try simp at hc) | fail)
    exact hI1 (t.links.length - (k + 1)) _ _ (by omega) ⟨Ext.setF (Ext.setF (by simp [hE]) f6) f6, by simp [a3], by simp [a8, zy], by simp [a9], k + 1, by simp, by omega, by simp [St.set, St.new, hm], rfl⟩
  · have : k = t.links.length := by omega
    subst this
    rw [List.take_length] at hm
    (try ((first | with_reducible refine zk ?_ | with_reducible refine zm ?_ | with_reducible refine zo ?_); simp [a3, a8, a9, a10])); repeat' (first | ((first | refine zd ?_ | refine zh ?_ | refine dN (by decide +kernel) ?_ | (refine za ?_ ?_ <;> (intro hg; simp only [hg])) | fail) <;> simp [a3, a8, a9, a10]) | refine zg ?_ | refine zc ?_ | (refine zs ?_; simp only [zt]; try simp) | (refine zb (fun hc => ?_) (fun hc => ?_) <;> try simp at hc) | fail)
    exact zaF (.inr rfl) (by simp) ⟨_, rfl, hm, f6, hE⟩
def zb8 (t : Tp) (p : Pt) : Option Pt := ((zb7 t.links).find? fun e => decide (p = e.1)).map (·.2)
theorem zgl (t : Tp) (f : Fl) (p : Pt) (hl : t.links.length < 2 ^ 42) :
    PCalls Tryz.prog 159 [zaT t f, zS p] (.tup [zS ((zb8 t p).getD ⟨0, 0⟩), .raw (.bool (zb8 t p).isSome)]) := by
  have hj := zk7 t f hl
  refine zK Tryz.func159 rfl (N := 17) rfl rfl (by simp) (by simp [noIds, zS]) fun σ => ?_
  have hpc : ∀ q : Pt, (zS q).cells = [.raw (.int .i64 q.dev), .raw (.int .i64 q.port)] := fun q => rfl
  have htc : (zaT t f).cells = [zq t.ports f.p, zy t.links f.l] := rfl
  have hfo : ∀ q : Pt, AV.agg [.raw (.int .i64 q.dev), .raw (.int .i64 q.port)] = zS q := fun q => rfl
  have hft : AV.agg [zq t.ports f.p, zy t.links f.l] = zaT t f := rfl
  have ho1 : cellOK (zq t.ports f.p) = true := rfl
  have ho2 : cellOK (zy t.links f.l) = true := rfl
  simp only [cellOK] at ho1 ho2
  have hlk : ∀ m : Mem, ∀ i, m i = some (.map (enc (zb7 t.links))) → zbB Tryz.prog m 210 (.mp i) (zS p) true = some (.tup [zS ((zb8 t p).getD ⟨0, 0⟩), .raw (.bool (zb8 t p).isSome)]) := fun m i h => by
    rw [zpW h (zgk _)]
    unfold zb8
    cases (zb7 t.links).find? fun e => decide (p = e.1) <;> rfl
  obtain ⟨q, hq⟩ : ∃ q, (zb8 t p).getD ⟨0, 0⟩ = q := ⟨_, rfl⟩
  obtain ⟨b, hb⟩ : ∃ b, (zb8 t p).isSome = b := ⟨_, rfl⟩
  rw [hq, hb] at hlk ⊢
  (try ((first | with_reducible refine zk ?_ | with_reducible refine zm ?_ | with_reducible refine zo ?_); simp [hpc, htc, hfo, hft, ho1, ho2])); repeat' (first | ((first | refine zd ?_ | refine zh ?_ | refine dN (by decide +kernel) ?_ | (refine za ?_ ?_ <;> (intro hg; simp only [hg])) | fail) <;> simp [hpc, htc, hfo, hft, ho1, ho2]) | refine zg ?_ | refine zc ?_ | (refine zs ?_; simp only [zt]; try simp) | ((first | refine zl (by simp) ?_ | refine zw (by simp) (by simp) (by simp (maxDischargeDepth := 30) [hpc, htc, hfo, hft, ho1, ho2]) ?_ | fail); simp) | (refine zb (fun hc => ?_) (fun hc => ?_) <;> try simp at hc) | fail)
  refine zcd (fun o => o.dst == some 10) zem (by decide +kernel) ?_
  (try ((first | with_reducible refine zk ?_ | with_reducible refine zm ?_ | with_reducible refine zo ?_); simp [hpc, htc, hfo, hft, ho1, ho2])); repeat' (first | ((first | refine zd ?_ | refine zh ?_ | refine dN (by decide +kernel) ?_ | (refine za ?_ ?_ <;> (intro hg; simp only [hg])) | fail) <;> simp [hpc, htc, hfo, hft, ho1, ho2]) | refine zg ?_ | refine zc ?_ | (refine zs ?_; simp only [zt]; try simp) | ((first | refine zl (by simp) ?_ | refine zw (by simp) (by simp) (by simp (maxDischargeDepth := 30) [hpc, htc, hfo, hft, ho1, ho2]) ?_ | fail); simp) | (refine zb (fun hc => ?_) (fun hc => ?_) <;> try simp at hc) | fail)
  refine .inr ⟨_, _, _, hj, ?_⟩
  have hpp : ∀ q : Pt, setPart (AV.agg [.raw (.int .i64 0), .raw (.int .i64 0)]) 0 [.raw (.int .i64 q.dev), .raw (.int .i64 q.port)] = zS q := fun q => rfl
  have hpq : ∀ q : Pt, setPart (zS ⟨0, 0⟩) 0 [.raw (.int .i64 q.dev), .raw (.int .i64 q.port)] = zS q := fun q => rfl
  (try ((first | with_reducible refine zk ?_ | with_reducible refine zm ?_ | with_reducible refine zo ?_); simp [hpc, htc, hfo, hft, ho1, ho2, hlk, hpp, hpq])); repeat' (first | ((first | refine zd ?_ | refine zh ?_ | refine dN (by decide +kernel) ?_ | (refine za ?_ ?_ <;> (intro hg; simp only [hg])) | fail) <;> simp [hpc, htc, hfo, hft, ho1, ho2, hlk, hpp, hpq]) | refine zg ?_ | refine zc ?_ | (refine zs ?_; simp only [zt]; try simp) | (refine zb (fun hc => ?_) (fun hc => ?_) <;> try simp at hc) | fail)
  refine zw (.inr rfl) rfl (Ext.setF (by simp (maxDischargeDepth := 30)) ?_) ?_
  · have := zf σ 4 2
    simpa [St.new] using this
  · simp [St.set, St.new, hfo, hpc]
end Go.Proofs.YtanimmdlgmkmkaaGreat.Av
namespace Go.Proofs.YtanimmdlgmkmkaaGreat.Av
open Go
set_option linter.unusedSimpArgs false
set_option linter.unusedVariables false
set_option maxRecDepth 100000
set_option maxHeartbeats 2000000
set_option pp.maxSteps 300
def zhw (t : Tp) (l : Lk) : Bool := !hasB t l.a || (!hasB t l.b || decide (l.a = l.b))
theorem zM (t : Tp) (f : Fl) : (zaT t f).cells = [zq t.ports f.p, zy t.links f.l] := rfl
theorem zdb (t : Tp) (f : Fl) : AV.agg [zq t.ports f.p, zy t.links f.l] = zaT t f := rfl
theorem zbQ (r : Ru) : AV.agg [.raw (.int .i64 r.dev), .raw (.int .i64 r.port)] = zS ⟨r.dev, r.port⟩ := rfl
def zgm (t : Tp) (l : List Ru) : Bool := !(l.any fun r => !hasB t ⟨r.dev, r.port⟩)
def zic (t : Tp) : Bool := t.ports.any fun n => decide (n < 1) || decide (4 < n)
def zdN (t : Tp) : Bool := !decide (t.ports.length = 0) && (!decide (8 < t.ports.length) && (!decide (16 < t.links.length) && (!zic t && (!t.links.any (zhw t) && decide ((zb7 t.links).length = 2 * t.links.length)))))
end Go.Proofs.YtanimmdlgmkmkaaGreat.Av
namespace Go.Proofs.YtanimmdlgmkmkaaGreat.Av
open Go
set_option linter.unusedSimpArgs false
set_option linter.unusedVariables false
set_option maxRecDepth 100000
set_option maxHeartbeats 2000000
set_option pp.maxSteps 300
theorem zae {P : Program} {op : BinOp} {t : TypeId} {a b : Value} : zas P op t (.raw a) (.raw b) = zgL P op t (.raw a) (.raw b) := rfl
theorem zrH (a b : Lk) : zaO Tryz.prog 4 160 (zcw a) (zcw b) = some (decide (a = b)) := by
  have : decide (a = b) = (decide (a.a.dev = b.a.dev) && decide (a.a.port = b.a.port) && (decide (a.b.dev = b.b.dev) && decide (a.b.port = b.b.port))) := by
    rcases a with ⟨⟨a1, a2⟩, ⟨a3, a4⟩⟩; rcases b with ⟨⟨b1, b2⟩, ⟨b3, b4⟩⟩
    rw [Bool.eq_iff_iff]; simp
  rw [this]
  simp [zaO, zcw, zcW, zbO, zeV]
theorem zcL (a b : Lk) : zas Tryz.prog .neq 160 (zcw a) (zcw b) = some (.raw (.bool (!decide (a = b)))) := by
  have e1 : ∀ x y : Lk, zas Tryz.prog .neq 160 (zcw x) (zcw y) = if Tryz.prog.eqGuardType Tryz.prog.depth 160 = false then (zaO Tryz.prog 4 160 (zcw x) (zcw y)).bind fun b => (zcf .neq b).map .raw else none := fun x y => rfl
  rw [e1, if_pos zpQ, zrH]
  rfl
theorem zki (x y : List Lk) (fx fy : Bool) (hl : x.length < 2 ^ 60) (hl2 : y.length < 2 ^ 60) : PCalls Tryz.prog 116 [zy x fx, zy y fy] (.raw (.bool (decide (x = y)))) := by
  refine zK Tryz.func116 rfl (N := 26) rfl rfl (by simp) (by simp [noIds]) fun σ => ?_
  by_cases hlen : x.length = y.length
  · have hli : (x.length : Int) = (y.length : Int) := by omega
    (try ((first | with_reducible refine zk ?_ | with_reducible refine zm ?_ | with_reducible refine zo ?_); simp [zy, hlen, hli])); repeat' (first | ((first | refine zd ?_ | refine zh ?_ | refine dN (by decide +kernel) ?_ | (refine za ?_ ?_ <;> (intro hg; simp only [hg])) | fail) <;> simp [zy, hlen, hli]) | refine zg ?_ | refine zc ?_ | (refine zs ?_; simp only [zt]; try simp) | ((first | refine zl (by simp) ?_ | refine zw (by simp) (by simp) (by simp (maxDischargeDepth := 30) [zy, hlen, hli]) ?_ | fail); simp) | (refine zb (fun hc => ?_) (fun hc => ?_) <;> try simp at hc) | fail)
    refine zab (fun n A τ => τ = σ ∧ A 0 = zy x fx ∧ A 1 = zy y fy ∧ A 12 = .raw (.int .i64 y.length) ∧ ∃ i : Nat, A 13 = .raw (.int .i64 i) ∧ i ≤ y.length ∧ n = y.length - i ∧ x.take i = y.take i) y.length ?_ ?_
    · exact ⟨rfl, by simp [zy], by simp [zy], by simp [zy], 0, by simp, by omega, by omega, by simp⟩
    rintro n A τ ⟨rfl, a0, a1, a12, i, a13, hi, rfl, htk⟩ I1 hI1
    by_cases hlt : i < y.length
    · have hlx : i < x.length := by omega
      have hx : x[i]? = some x[i] := List.getElem?_eq_getElem hlx
      have hy : y[i]? = some y[i] := List.getElem?_eq_getElem hlt
      have w1 : IntKind.i64.wrap ((i : Int) + 1) = ((i + 1 : Nat) : Int) := by rw [zU (by omega) (by omega)]; omega
      have fx_ : AV.agg [.raw (.int .i64 x[i].a.dev), .raw (.int .i64 x[i].a.port), .raw (.int .i64 x[i].b.dev), .raw (.int .i64 x[i].b.port)] = zcw x[i] := rfl
      have fy_ : AV.agg [.raw (.int .i64 y[i].a.dev), .raw (.int .i64 y[i].a.port), .raw (.int .i64 y[i].b.dev), .raw (.int .i64 y[i].b.port)] = zcw y[i] := rfl
      by_cases he : x[i] = y[i]
      · skip
        (try ((first | with_reducible refine zk ?_ | with_reducible refine zm ?_ | with_reducible refine zo ?_); simp [zy, a0, a1, a12, a13, hlt, hlx, hx, hy, zb3, fx_, fy_, zcL, zae, -zas, he, w1])); repeat' (first | ((first | refine zd ?_ | refine zh ?_ | refine dN (by decide +kernel) ?_ | (refine za ?_ ?_ <;> (intro hg; simp only [hg])) | fail) <;> simp [zy, a0, a1, a12, a13, hlt, hlx, hx, hy, zb3, fx_, fy_, zcL, zae, -zas, he, w1]) | refine zg ?_ | refine zc ?_ | (refine zs ?_; simp only [zt]; try simp) | ((first | refine zl (by simp) ?_ | refine zw (by simp) (by simp) (by simp (maxDischargeDepth := 30) [zy, a0, a1, a12, a13, hlt, hlx, hx, hy, zb3, fx_, fy_, zcL, zae, -zas, he, w1]) ?_ | fail); simp) | (refine zb (fun hc => ?_) (fun hc => ?_) <;> try simp at hc) | fail)
        all_goals exact hI1 (y.length - (i + 1)) _ _ (by omega) ⟨rfl, by simp [a0, zy], by simp [a1, zy], by simp [a12], i + 1, by simp [w1], by omega, rfl, zfN htk hx (by rw [hy, he])⟩
      · skip
        (try ((first | with_reducible refine zk ?_ | with_reducible refine zm ?_ | with_reducible refine zo ?_); simp [zy, a0, a1, a12, a13, hlt, hlx, hx, hy, zb3, fx_, fy_, zcL, zae, -zas, he, w1])); repeat' (first | ((first | refine zd ?_ | refine zh ?_ | refine dN (by decide +kernel) ?_ | (refine za ?_ ?_ <;> (intro hg; simp only [hg])) | fail) <;> simp [zy, a0, a1, a12, a13, hlt, hlx, hx, hy, zb3, fx_, fy_, zcL, zae, -zas, he, w1]) | refine zg ?_ | refine zc ?_ | (refine zs ?_; simp only [zt]; try simp) | ((first | refine zl (by simp) ?_ | refine zw (by simp) (by simp) (by simp (maxDischargeDepth := 30) [zy, a0, a1, a12, a13, hlt, hlx, hx, hy, zb3, fx_, fy_, zcL, zae, -zas, he, w1]) ?_ | fail); simp) | (refine zb (fun hc => ?_) (fun hc => ?_) <;> try simp at hc) | fail)
        all_goals (rintro rfl; exact he rfl)
    · have : i = y.length := by omega
      subst this
      have hxy : x = y := by
        rw [List.take_length, ← hlen, List.take_length] at htk; exact htk
      (try ((first | with_reducible refine zk ?_ | with_reducible refine zm ?_ | with_reducible refine zo ?_); simp [zy, a0, a1, a12, a13])); repeat' (first | ((first | refine zd ?_ | refine zh ?_ | refine dN (by decide +kernel) ?_ | (refine za ?_ ?_ <;> (intro hg; simp only [hg])) | fail) <;> simp [zy, a0, a1, a12, a13]) | refine zg ?_ | refine zc ?_ | (refine zs ?_; simp only [zt]; try simp) | ((first | refine zl (by simp) ?_ | refine zw (by simp) (by simp) (by simp (maxDischargeDepth := 30) [zy, a0, a1, a12, a13]) ?_ | fail); simp) | (refine zb (fun hc => ?_) (fun hc => ?_) <;> try simp at hc) | fail)
      all_goals first | exact hxy | simp [hxy]
  · have hli : ¬ ((x.length : Int) = (y.length : Int)) := by omega
    (try ((first | with_reducible refine zk ?_ | with_reducible refine zm ?_ | with_reducible refine zo ?_); simp [zy, hlen, hli])); repeat' (first | ((first | refine zd ?_ | refine zh ?_ | refine dN (by decide +kernel) ?_ | (refine za ?_ ?_ <;> (intro hg; simp only [hg])) | fail) <;> simp [zy, hlen, hli]) | refine zg ?_ | refine zc ?_ | (refine zs ?_; simp only [zt]; try simp) | ((first | refine zl (by simp) ?_ | refine zw (by simp) (by simp) (by simp (maxDischargeDepth := 30) [zy, hlen, hli]) ?_ | fail); simp) | (refine zb (fun hc => ?_) (fun hc => ?_) <;> try simp at hc) | fail)
    all_goals (rintro rfl; exact hlen rfl)
end Go.Proofs.YtanimmdlgmkmkaaGreat.Av
namespace Go.Proofs.YtanimmdlgmkmkaaGreat.Av
open Go
set_option linter.unusedSimpArgs false
set_option linter.unusedVariables false
set_option maxRecDepth 100000
set_option maxHeartbeats 2000000
set_option pp.maxSteps 300
theorem zjx (x y : Tp) (fx fy : Fl) (hx : x.ports.length < 2 ^ 60) (hx2 : x.links.length < 2 ^ 60) (hy : y.ports.length < 2 ^ 60) (hy2 : y.links.length < 2 ^ 60) : PCalls Tryz.prog 66 [zaT x fx, zaT y fy] (.raw (.bool (decide (x = y)))) := by
  have h1 := zfO x.ports y.ports fx.p fy.p hx hy
  have h2 := zki x.links y.links fx.l fy.l hx2 hy2
  have e : decide (x = y) = (decide (x.ports = y.ports) && decide (x.links = y.links)) := by
    cases x; cases y; rw [Bool.eq_iff_iff]; simp
  rw [e]
  obtain ⟨b1, q1⟩ : ∃ b, decide (x.ports = y.ports) = b := ⟨_, rfl⟩
  obtain ⟨b2, q2⟩ : ∃ b, decide (x.links = y.links) = b := ⟨_, rfl⟩
  rw [q1] at h1 ⊢
  rw [q2] at h2 ⊢
  refine zK Tryz.func66 rfl (N := 17) rfl rfl (by simp) (by simp [noIds]) fun σ => ?_
  have ho : ∀ z b, cellOK (zq z b) = true := fun _ _ => rfl
  have ho2 : ∀ z b, cellOK (zy z b) = true := fun _ _ => rfl
  simp only [cellOK] at ho ho2
  (try ((first | with_reducible refine zk ?_ | with_reducible refine zm ?_ | with_reducible refine zo ?_); simp [zM, ho, ho2])); repeat' (first | ((first | refine zd ?_ | refine zh ?_ | refine dN (by decide +kernel) ?_ | (refine za ?_ ?_ <;> (intro hg; simp only [hg])) | fail) <;> simp [zM, ho, ho2]) | refine zg ?_ | refine zc ?_ | (refine zs ?_; simp only [zt]; try simp) | ((first | refine zl (by simp) ?_ | refine zw (by simp) (by simp) (by simp (maxDischargeDepth := 30) [zM, ho, ho2]) ?_ | fail); simp) | (refine zb (fun hc => ?_) (fun hc => ?_) <;> try simp at hc) | fail)
  refine PCalls.use h1 ?_
  (try ((first | with_reducible refine zk ?_ | with_reducible refine zm ?_ | with_reducible refine zo ?_); simp [zM, ho, ho2])); repeat' (first | ((first | refine zd ?_ | refine zh ?_ | refine dN (by decide +kernel) ?_ | (refine za ?_ ?_ <;> (intro hg; simp only [hg])) | fail) <;> simp [zM, ho, ho2]) | refine zg ?_ | refine zc ?_ | (refine zs ?_; simp only [zt]; try simp) | ((first | refine zl (by simp) ?_ | refine zw (by simp) (by simp) (by simp (maxDischargeDepth := 30) [zM, ho, ho2]) ?_ | fail); simp) | (refine zb (fun hc => ?_) (fun hc => ?_) <;> try simp at hc) | fail)
  refine PCalls.use h2 ?_
  (try ((first | with_reducible refine zk ?_ | with_reducible refine zm ?_ | with_reducible refine zo ?_); simp [zM, ho, ho2])); repeat' (first | ((first | refine zd ?_ | refine zh ?_ | refine dN (by decide +kernel) ?_ | (refine za ?_ ?_ <;> (intro hg; simp only [hg])) | fail) <;> simp [zM, ho, ho2]) | refine zg ?_ | refine zc ?_ | (refine zs ?_; simp only [zt]; try simp) | ((first | refine zl (by simp) ?_ | refine zw (by simp) (by simp) (by simp (maxDischargeDepth := 30) [zM, ho, ho2]) ?_ | fail); simp) | (refine zb (fun hc => ?_) (fun hc => ?_) <;> try simp at hc) | fail)
theorem zg1 (t : Tp) (f : Fl) (p : Pt) (hl : t.ports.length < 2 ^ 60) : PCalls Tryz.prog 171 [zaT t f, zS p] (.raw (.bool (hasB t p))) := by
  refine zK Tryz.func171 rfl (N := 32) rfl rfl (by simp) (by simp [noIds]) fun σ => ?_
  by_cases h1 : 0 ≤ p.dev
  · obtain ⟨k, hk⟩ : ∃ k : Nat, p.dev = k := ⟨p.dev.toNat, by omega⟩
    by_cases h2 : k < t.ports.length
    · have hx : t.ports[k]? = some t.ports[k] := List.getElem?_eq_getElem h2
      (try ((first | with_reducible refine zk ?_ | with_reducible refine zm ?_ | with_reducible refine zo ?_); simp [zaT, zS, zq, zy, iAV, hk, h2, hx])); repeat' (first | ((first | refine zd ?_ | refine zh ?_ | refine dN (by decide +kernel) ?_ | (refine za ?_ ?_ <;> (intro hg; simp only [hg])) | fail) <;> simp [zaT, zS, zq, zy, iAV, hk, h2, hx]) | refine zg ?_ | refine zc ?_ | (refine zs ?_; simp only [zt]; try simp) | ((first | refine zl (by simp) ?_ | refine zw (by simp) (by simp) (by simp (maxDischargeDepth := 30) [zaT, zS, zq, zy, iAV, hk, h2, hx]) ?_ | fail); simp) | (refine zb (fun hc => ?_) (fun hc => ?_) <;> try simp at hc) | fail)
      all_goals (simp_all [hasB] <;> intros <;> omega)
    · have hx : t.ports[k]? = none := List.getElem?_eq_none (by omega)
      (try ((first | with_reducible refine zk ?_ | with_reducible refine zm ?_ | with_reducible refine zo ?_); simp [zaT, zS, zq, zy, iAV, hk, h2, hx])); repeat' (first | ((first | refine zd ?_ | refine zh ?_ | refine dN (by decide +kernel) ?_ | (refine za ?_ ?_ <;> (intro hg; simp only [hg])) | fail) <;> simp [zaT, zS, zq, zy, iAV, hk, h2, hx]) | refine zg ?_ | refine zc ?_ | (refine zs ?_; simp only [zt]; try simp) | ((first | refine zl (by simp) ?_ | refine zw (by simp) (by simp) (by simp (maxDischargeDepth := 30) [zaT, zS, zq, zy, iAV, hk, h2, hx]) ?_ | fail); simp) | (refine zb (fun hc => ?_) (fun hc => ?_) <;> try simp at hc) | fail)
      all_goals (simp_all [hasB] <;> intros <;> omega)
  · (try ((first | with_reducible refine zk ?_ | with_reducible refine zm ?_ | with_reducible refine zo ?_); simp [zaT, zS, zq, zy, iAV, h1])); repeat' (first | ((first | refine zd ?_ | refine zh ?_ | refine dN (by decide +kernel) ?_ | (refine za ?_ ?_ <;> (intro hg; simp only [hg])) | fail) <;> simp [zaT, zS, zq, zy, iAV, h1]) | refine zg ?_ | refine zc ?_ | (refine zs ?_; simp only [zt]; try simp) | ((first | refine zl (by simp) ?_ | refine zw (by simp) (by simp) (by simp (maxDischargeDepth := 30) [zaT, zS, zq, zy, iAV, h1]) ?_ | fail); simp) | (refine zb (fun hc => ?_) (fun hc => ?_) <;> try simp at hc) | fail)
    all_goals (simp_all [hasB] <;> intros <;> omega)
theorem zkj (t : Tp) (f : Fl) (l : List Ru) (g : Bool) (hl : t.ports.length < 2 ^ 60) (hl2 : l.length < 2 ^ 60) : PCalls Tryz.prog 124 [zaT t f, zE l g] (.raw (.bool (zgm t l))) := by
  refine zK Tryz.func124 rfl (N := 28) rfl rfl (by simp) (by simp [noIds]) fun σ => ?_
  have ho1 : cellOK (zq t.ports f.p) = true := rfl
  have ho2 : cellOK (zy t.links f.l) = true := rfl
  simp only [cellOK] at ho1 ho2
  (try ((first | with_reducible refine zk ?_ | with_reducible refine zm ?_ | with_reducible refine zo ?_); simp [zM, ho1, ho2])); repeat' (first | ((first | refine zd ?_ | refine zh ?_ | refine dN (by decide +kernel) ?_ | (refine za ?_ ?_ <;> (intro hg; simp only [hg])) | fail) <;> simp [zM, ho1, ho2]) | refine zg ?_ | refine zc ?_ | (refine zs ?_; simp only [zt]; try simp) | ((first | refine zl (by simp) ?_ | refine zw (by simp) (by simp) (by simp (maxDischargeDepth := 30) [zM, ho1, ho2]) ?_ | fail); simp) | (refine zb (fun hc => ?_) (fun hc => ?_) <;> try simp at hc) | fail)
  refine zab (fun n A τ => τ = σ.new 2 2 (.buf [zaT t f]) ∧ A 1 = zE l g ∧ A 2 = .rp ⟨2, σ.nx 2, 2⟩ 0 0 ∧ ∃ i : Nat, A 5 = .raw (.int .i64 i) ∧ i ≤ l.length ∧ n = l.length - i ∧ ∀ r ∈ l.take i, hasB t ⟨r.dev, r.port⟩ = true) l.length ?_ ?_
  · exact ⟨rfl, by simp, by simp, 0, by simp, by omega, by omega, by simp⟩
  rintro n A τ ⟨rfl, a1, a2, i, a5, hi, rfl, hok⟩ I1 hI1
  by_cases hlt : i < l.length
  · have hx : l[i]? = some l[i] := List.getElem?_eq_getElem hlt
    have w1 : IntKind.i64.wrap ((i : Int) + 1) = ((i + 1 : Nat) : Int) := by rw [zU (by omega) (by omega)]; omega
    obtain ⟨b, hb⟩ : ∃ b, hasB t ⟨l[i].dev, l[i].port⟩ = b := ⟨_, rfl⟩
    have hc := hb ▸ zg1 t f ⟨l[i].dev, l[i].port⟩ hl
    (try ((first | with_reducible refine zk ?_ | with_reducible refine zm ?_ | with_reducible refine zo ?_); simp [zE, a1, a2, a5, hlt, hx, zM, zdb, zF, zbQ, ho1, ho2, w1])); repeat' (first | ((first | refine zd ?_ | refine zh ?_ | refine dN (by decide +kernel) ?_ | (refine za ?_ ?_ <;> (intro hg; simp only [hg])) | fail) <;> simp [zE, a1, a2, a5, hlt, hx, zM, zdb, zF, zbQ, ho1, ho2, w1]) | refine zg ?_ | refine zc ?_ | (refine zs ?_; simp only [zt]; try simp) | ((first | refine zl (by simp) ?_ | refine zw (by simp) (by simp) (by simp (maxDischargeDepth := 30) [zE, a1, a2, a5, hlt, hx, zM, zdb, zF, zbQ, ho1, ho2, w1]) ?_ | fail); simp) | (refine zb (fun hc => ?_) (fun hc => ?_) <;> try simp at hc) | fail)
    refine PCalls.use hc ?_
    cases b with
    | true =>
      (try ((first | with_reducible refine zk ?_ | with_reducible refine zm ?_ | with_reducible refine zo ?_); simp [zE, a1, a2, a5, hlt, hx, zM, zdb, zF, zbQ, ho1, ho2, w1])); repeat' (first | ((first | refine zd ?_ | refine zh ?_ | refine dN (by decide +kernel) ?_ | (refine za ?_ ?_ <;> (intro hg; simp only [hg])) | fail) <;> simp [zE, a1, a2, a5, hlt, hx, zM, zdb, zF, zbQ, ho1, ho2, w1]) | refine zg ?_ | refine zc ?_ | (refine zs ?_; simp only [zt]; try simp) | ((first | refine zl (by simp) ?_ | refine zw (by simp) (by simp) (by simp (maxDischargeDepth := 30) [zE, a1, a2, a5, hlt, hx, zM, zdb, zF, zbQ, ho1, ho2, w1]) ?_ | fail); simp) | (refine zb (fun hc => ?_) (fun hc => ?_) <;> try simp at hc) | fail)
      refine hI1 (l.length - (i + 1)) _ _ (by omega) ⟨by simp, by simp [a1, zE], by simp [a2], i + 1, by simp [w1], by omega, rfl, fun r hr => ?_⟩
      rw [List.take_add_one, hx] at hr
      rcases List.mem_append.1 hr with hr | hr
      · exact hok r hr
      · simp at hr; subst hr; exact hb
    | false =>
      have hf : zgm t l = false := by
        unfold zgm
        rw [List.any_eq_true.2 ⟨l[i], List.getElem_mem _, by simp [hb]⟩]; rfl
      (try ((first | with_reducible refine zk ?_ | with_reducible refine zm ?_ | with_reducible refine zo ?_); simp [zE, a1, a2, a5, hlt, hx, zM, zdb, zF, zbQ, ho1, ho2, w1])); repeat' (first | ((first | refine zd ?_ | refine zh ?_ | refine dN (by decide +kernel) ?_ | (refine za ?_ ?_ <;> (intro hg; simp only [hg])) | fail) <;> simp [zE, a1, a2, a5, hlt, hx, zM, zdb, zF, zbQ, ho1, ho2, w1]) | refine zg ?_ | refine zc ?_ | (refine zs ?_; simp only [zt]; try simp) | ((first | refine zl (by simp) ?_ | refine zw (by simp) (by simp) (by simp (maxDischargeDepth := 30) [zE, a1, a2, a5, hlt, hx, zM, zdb, zF, zbQ, ho1, ho2, w1]) ?_ | fail); simp) | (refine zb (fun hc => ?_) (fun hc => ?_) <;> try simp at hc) | fail)
      exact hf
  · have : i = l.length := by omega
    subst this
    rw [List.take_length] at hok
    have hf : zgm t l = true := by
      unfold zgm
      rw [List.any_eq_false.2 (fun r hr => by simp [hok r hr])]; rfl
    (try ((first | with_reducible refine zk ?_ | with_reducible refine zm ?_ | with_reducible refine zo ?_); simp [zE, a1, a2, a5])); repeat' (first | ((first | refine zd ?_ | refine zh ?_ | refine dN (by decide +kernel) ?_ | (refine za ?_ ?_ <;> (intro hg; simp only [hg])) | fail) <;> simp [zE, a1, a2, a5]) | refine zg ?_ | refine zc ?_ | (refine zs ?_; simp only [zt]; try simp) | ((first | refine zl (by simp) ?_ | refine zw (by simp) (by simp) (by simp (maxDischargeDepth := 30) [zE, a1, a2, a5]) ?_ | fail); simp) | (refine zb (fun hc => ?_) (fun hc => ?_) <;> try simp at hc) | fail)
    exact hf
end Go.Proofs.YtanimmdlgmkmkaaGreat.Av
namespace Go.Proofs.YtanimmdlgmkmkaaGreat.Av
open Go
set_option linter.unusedSimpArgs false
set_option linter.unusedVariables false
set_option maxRecDepth 100000
set_option maxHeartbeats 2000000
set_option pp.maxSteps 2500
theorem nnx {σ : St} {slot sz s : Nat} {o : Ob} : (σ.new slot sz o).nx s = if s = slot then σ.nx s + 1 else σ.nx s := rfl
def zbq : List Lk → Pt → Option Pt
  | [], _ => none
  | l :: ls, p => if l.a = p then some l.b else if l.b = p then some l.a else zbq ls p
theorem zgC (t : Tp) (f : Fl) (p : Pt) (hl : t.links.length < 2 ^ 60) :
    PCalls Tryz.prog 120 [zaT t f, zS p] (.tup [zS ((zbq t.links p).getD ⟨0, 0⟩), .raw (.bool (zbq t.links p).isSome)]) := by
  refine zK Tryz.func120 rfl (N := 43) rfl rfl (by simp) (by simp [noIds, zS]) fun σ => ?_
  have ho1 : cellOK (zq t.ports f.p) = true := rfl
  have ho2 : cellOK (zy t.links f.l) = true := rfl
  simp only [cellOK] at ho1 ho2
  have hbin : ∀ x y : Pt, zas Tryz.prog .eql 41 (zS x) (zS y) = some (.raw (.bool (decide (x = y)))) := fun x y => by
    have e1 : zas Tryz.prog .eql 41 (zS x) (zS y) = if Tryz.prog.eqGuardType Tryz.prog.depth 41 = false then (zaO Tryz.prog 4 41 (zS x) (zS y)).bind fun b => (zcf .eql b).map .raw else none := rfl
    have := ziW x y
    rw [e1, if_pos zmL]
    rw [show zaO Tryz.prog 4 41 (zS x) (zS y) = some (decide (x = y)) from this]
    rfl
  have hpc : ∀ q : Pt, (zS q).cells = [.raw (.int .i64 q.dev), .raw (.int .i64 q.port)] := fun q => rfl
  have hn3 : (σ.new 2 2 (Ob.buf [zaT t f])).nx 3 = σ.nx 3 := by simp [St.new]
  have hn4 : ((σ.new 2 2 (Ob.buf [zaT t f])).new 3 2 (Ob.buf [zS p])).nx 4 = σ.nx 4 := by simp [St.new]
  have hz : AV.agg [.raw (.int .i64 0), .raw (.int .i64 0)] = zS ⟨0, 0⟩ := rfl
  (try ((first | with_reducible refine zk ?_ | with_reducible refine zm ?_ | with_reducible refine zo ?_); simp [zM, ho1, ho2, hpc])); repeat' (first | ((first | refine zd ?_ | refine zh ?_ | refine dN (by decide +kernel) ?_ | (refine za ?_ ?_ <;> (intro hg; simp only [hg])) | fail) <;> simp [zM, ho1, ho2, hpc]) | refine zg ?_ | refine zc ?_ | (refine zs ?_; simp only [zt]; try simp) | ((first | refine zl (by simp) ?_ | refine zw (by simp) (by simp) (by simp (maxDischargeDepth := 30) [zM, ho1, ho2, hpc]) ?_ | fail); simp) | (refine zb (fun hc => ?_) (fun hc => ?_) <;> try simp at hc) | fail)
  refine zab (fun n A τ => τ = ((σ.new 2 2 (.buf [zaT t f])).new 3 2 (.buf [zS p])).new 4 2 (.buf [zS ⟨0, 0⟩]) ∧ A 2 = .rp ⟨2, σ.nx 2, 2⟩ 0 0 ∧ A 3 = .rp ⟨3, σ.nx 3, 2⟩ 0 0 ∧ A 4 = .rp ⟨4, σ.nx 4, 2⟩ 0 0 ∧ A 5 = .raw (.bool false) ∧ ∃ i : Nat, A 6 = .raw (.int .i64 i) ∧ i ≤ t.links.length ∧ n = t.links.length - i ∧ zbq t.links p = zbq (t.links.drop i) p) t.links.length ?_ ?_
  · refine ⟨by simp [hz, hpc], by simp, by simp [hpc, hn3], by simp [hpc, hn4], by simp, 0, by simp, by omega, by omega, by simp⟩
  rintro n A τ ⟨rfl, a2, a3, a4, a5, i, a6, hi, rfl, hall⟩ I1 hI1
  obtain ⟨τ, hτ⟩ : ∃ τ, ((σ.new 2 2 (.buf [zaT t f])).new 3 2 (.buf [zS p])).new 4 2 (.buf [zS ⟨0, 0⟩]) = τ := ⟨_, rfl⟩
  have m2 : τ.m ⟨2, σ.nx 2, 2⟩ = some (.buf [zaT t f]) := by rw [← hτ]; simp [St.new]
  have m3 : τ.m ⟨3, σ.nx 3, 2⟩ = some (.buf [zS p]) := by rw [← hτ]; simp [St.new]
  have m4 : τ.m ⟨4, σ.nx 4, 2⟩ = some (.buf [zS ⟨0, 0⟩]) := by rw [← hτ]; simp [St.new]
  have fs : ∀ q, Ext σ (τ.set ⟨4, σ.nx 4, 2⟩ (.buf [zS q])) := fun q => by
    rw [← hτ]
    repeat (first | exact Ext.refl _ | refine zu ?_ | refine Ext.setF ?_ (by simp [nnx, St.set, zf]))
  rw [hτ] at hI1 ⊢
  have hsp : ∀ x y : Int, setPart (zS ⟨0, 0⟩) 0 [.raw (.int .i64 x), .raw (.int .i64 y)] = zS ⟨x, y⟩ := fun _ _ => rfl
  have fa : ∀ l : Lk, AV.agg [.raw (.int .i64 l.a.dev), .raw (.int .i64 l.a.port)] = zS l.a := fun _ => rfl
  have fb : ∀ l : Lk, AV.agg [.raw (.int .i64 l.b.dev), .raw (.int .i64 l.b.port)] = zS l.b := fun _ => rfl
  have fp : ∀ q : Pt, AV.agg [.raw (.int .i64 q.dev), .raw (.int .i64 q.port)] = zS q := fun _ => rfl
  by_cases hlt : i < t.links.length
  · have hx : t.links[i]? = some t.links[i] := List.getElem?_eq_getElem hlt
    have w1 : IntKind.i64.wrap ((i : Int) + 1) = ((i + 1 : Nat) : Int) := by rw [zU (by omega) (by omega)]; omega
    have hd : t.links.drop i = t.links[i] :: t.links.drop (i + 1) := List.drop_eq_getElem_cons hlt
    rw [hd] at hall
    simp only [zbq] at hall
    by_cases q1 : t.links[i].a = p
    · rw [if_pos q1] at hall
      rw [hall]
      (try ((first | with_reducible refine zk ?_ | with_reducible refine zm ?_ | with_reducible refine zo ?_); simp [zy, a2, a3, a4, a5, a6, hlt, hx, zM, m2, m3, m4, ho1, ho2, hpc, hsp, zbl, fa, fb, fp, -zas, hbin, zae, w1, q1])); repeat' (first | ((first | refine zd ?_ | refine zh ?_ | refine dN (by decide +kernel) ?_ | (refine za ?_ ?_ <;> (intro hg; simp only [hg])) | fail) <;> simp [zy, a2, a3, a4, a5, a6, hlt, hx, zM, m2, m3, m4, ho1, ho2, hpc, hsp, zbl, fa, fb, fp, -zas, hbin, zae, w1, q1]) | refine zg ?_ | refine zc ?_ | (refine zs ?_; simp only [zt]; try simp) | ((first | refine zl (by simp) ?_ | refine zw (by simp) (by simp) (by simp (maxDischargeDepth := 30) [zy, a2, a3, a4, a5, a6, hlt, hx, zM, m2, m3, m4, ho1, ho2, hpc, hsp, zbl, fa, fb, fp, -zas, hbin, zae, w1, q1]) ?_ | fail); simp) | (refine zb (fun hc => ?_) (fun hc => ?_) <;> try simp at hc) | fail)
      refine zw (.inr rfl) rfl (fs _) ?_
      simp [hsp, hpc, St.set, fp, a4, a5, m4]
    · by_cases q2 : t.links[i].b = p
      · rw [if_neg q1, if_pos q2] at hall
        rw [hall]
        (try ((first | with_reducible refine zk ?_ | with_reducible refine zm ?_ | with_reducible refine zo ?_); simp [zy, a2, a3, a4, a5, a6, hlt, hx, zM, m2, m3, m4, ho1, ho2, hpc, hsp, zbl, fa, fb, fp, -zas, hbin, zae, w1, q1, q2])); repeat' (first | ((first | refine zd ?_ | refine zh ?_ | refine dN (by decide +kernel) ?_ | (refine za ?_ ?_ <;> (intro hg; simp only [hg])) | fail) <;> simp [zy, a2, a3, a4, a5, a6, hlt, hx, zM, m2, m3, m4, ho1, ho2, hpc, hsp, zbl, fa, fb, fp, -zas, hbin, zae, w1, q1, q2]) | refine zg ?_ | refine zc ?_ | (refine zs ?_; simp only [zt]; try simp) | ((first | refine zl (by simp) ?_ | refine zw (by simp) (by simp) (by simp (maxDischargeDepth := 30) [zy, a2, a3, a4, a5, a6, hlt, hx, zM, m2, m3, m4, ho1, ho2, hpc, hsp, zbl, fa, fb, fp, -zas, hbin, zae, w1, q1, q2]) ?_ | fail); simp) | (refine zb (fun hc => ?_) (fun hc => ?_) <;> try simp at hc) | fail)
        refine zw (.inr rfl) rfl (fs _) ?_
        simp [hsp, hpc, St.set, fp, a4, a5, m4]
      · rw [if_neg q1, if_neg q2] at hall
        (try ((first | with_reducible refine zk ?_ | with_reducible refine zm ?_ | with_reducible refine zo ?_); simp [zy, a2, a3, a4, a5, a6, hlt, hx, zM, m2, m3, m4, ho1, ho2, hpc, hsp, zbl, fa, fb, fp, -zas, hbin, zae, w1, q1, q2])); repeat' (first | ((first | refine zd ?_ | refine zh ?_ | refine dN (by decide +kernel) ?_ | (refine za ?_ ?_ <;> (intro hg; simp only [hg])) | fail) <;> simp [zy, a2, a3, a4, a5, a6, hlt, hx, zM, m2, m3, m4, ho1, ho2, hpc, hsp, zbl, fa, fb, fp, -zas, hbin, zae, w1, q1, q2]) | refine zg ?_ | refine zc ?_ | (refine zs ?_; simp only [zt]; try simp) | ((first | refine zl (by simp) ?_ | refine zw (by simp) (by simp) (by simp (maxDischargeDepth := 30) [zy, a2, a3, a4, a5, a6, hlt, hx, zM, m2, m3, m4, ho1, ho2, hpc, hsp, zbl, fa, fb, fp, -zas, hbin, zae, w1, q1, q2]) ?_ | fail); simp) | (refine zb (fun hc => ?_) (fun hc => ?_) <;> try simp at hc) | fail)
        exact hI1 (t.links.length - (i + 1)) _ _ (by omega) ⟨rfl, by simp [a2], by simp [a3], by simp [a4], by simp [a5], i + 1, by simp, by omega, rfl, hall⟩
  · have : i = t.links.length := by omega
    subst this
    rw [List.drop_length] at hall
    simp only [zbq] at hall
    rw [hall]
    (try ((first | with_reducible refine zk ?_ | with_reducible refine zm ?_ | with_reducible refine zo ?_); simp [zy, a2, a3, a4, a5, a6, m2, m3, m4, zM, ho1, ho2, hpc, hz, hsp])); repeat' (first | ((first | refine zd ?_ | refine zh ?_ | refine dN (by decide +kernel) ?_ | (refine za ?_ ?_ <;> (intro hg; simp only [hg])) | fail) <;> simp [zy, a2, a3, a4, a5, a6, m2, m3, m4, zM, ho1, ho2, hpc, hz, hsp]) | refine zg ?_ | refine zc ?_ | (refine zs ?_; simp only [zt]; try simp) | ((first | refine zl (by simp) ?_ | refine zw (by simp) (by simp) (by simp (maxDischargeDepth := 30) [zy, a2, a3, a4, a5, a6, m2, m3, m4, zM, ho1, ho2, hpc, hz, hsp]) ?_ | fail); simp) | (refine zb (fun hc => ?_) (fun hc => ?_) <;> try simp at hc) | fail)
    refine zw (.inr rfl) rfl (fs _) ?_
    simp [hsp, hpc, St.set, fp, a4, a5, m4]
    rfl
end Go.Proofs.YtanimmdlgmkmkaaGreat.Av
namespace Go.Proofs.YtanimmdlgmkmkaaGreat.Av
open Go
set_option linter.unusedSimpArgs false
set_option linter.unusedVariables false
set_option maxRecDepth 100000
set_option maxHeartbeats 2000000
set_option pp.maxSteps 600
structure Tk where
  path : List Int
  out : Int
  last : Pt
deriving DecidableEq
def zbb (t : Tk) (f : Bool) : AV := .agg [zq t.path f, .raw (.int .i64 t.out), .raw (.int .i64 t.last.dev), .raw (.int .i64 t.last.port)]
theorem zk8 (x y : Tk) (fx fy : Bool) (hx : x.path.length < 2 ^ 60) (hy : y.path.length < 2 ^ 60) : PCalls Tryz.prog 56 [zbb x fx, zbb y fy] (.raw (.bool (decide (x = y)))) := by
  have h1 := zfO x.path y.path fx fy hx hy
  have e : decide (x = y) = (decide (x.path = y.path) && (decide (x.out = y.out) && decide (x.last = y.last))) := by
    cases x; cases y; rw [Bool.eq_iff_iff]; simp
  rw [e]
  obtain ⟨b1, q1⟩ : ∃ b, decide (x.path = y.path) = b := ⟨_, rfl⟩
  obtain ⟨b2, q2⟩ : ∃ b, decide (x.out = y.out) = b := ⟨_, rfl⟩
  obtain ⟨b3, q3⟩ : ∃ b, decide (x.last = y.last) = b := ⟨_, rfl⟩
  rw [q1] at h1 ⊢
  rw [q2, q3]
  have hbin : zas Tryz.prog .eql 41 (zS x.last) (zS y.last) = some (.raw (.bool b3)) := by
    have e1 : zas Tryz.prog .eql 41 (zS x.last) (zS y.last) = if Tryz.prog.eqGuardType Tryz.prog.depth 41 = false then (zaO Tryz.prog 4 41 (zS x.last) (zS y.last)).bind fun b => (zcf .eql b).map .raw else none := rfl
    have := ziW x.last y.last
    rw [e1, if_pos zmL]
    rw [show zaO Tryz.prog 4 41 (zS x.last) (zS y.last) = some (decide (x.last = y.last)) from this, q3]
    rfl
  refine zK Tryz.func56 rfl (N := 24) rfl rfl (by simp) (by simp [noIds]) fun σ => ?_
  have ho : ∀ z b, cellOK (zq z b) = true := fun _ _ => rfl
  simp only [cellOK] at ho
  have hc : ∀ t f, (zbb t f).cells = [zq t.path f, .raw (.int .i64 t.out), .raw (.int .i64 t.last.dev), .raw (.int .i64 t.last.port)] := fun _ _ => rfl
  have hpf : ∀ q : Pt, AV.agg [.raw (.int .i64 q.dev), .raw (.int .i64 q.port)] = zS q := fun _ => rfl
  (try ((first | with_reducible refine zk ?_ | with_reducible refine zm ?_ | with_reducible refine zo ?_); simp [hc, ho, hpf, -zas, hbin, zae, q2])); repeat' (first | ((first | refine zd ?_ | refine zh ?_ | refine dN (by decide +kernel) ?_ | (refine za ?_ ?_ <;> (intro hg; simp only [hg])) | fail) <;> simp [hc, ho, hpf, -zas, hbin, zae, q2]) | refine zg ?_ | refine zc ?_ | (refine zs ?_; simp only [zt]; try simp) | ((first | refine zl (by simp) ?_ | refine zw (by simp) (by simp) (by simp (maxDischargeDepth := 30) [hc, ho, hpf, -zas, hbin, zae, q2]) ?_ | fail); simp) | (refine zb (fun hc => ?_) (fun hc => ?_) <;> try simp at hc) | fail)
  refine PCalls.use h1 ?_
  cases b1 <;> cases b2 <;> (try ((first | with_reducible refine zk ?_ | with_reducible refine zm ?_ | with_reducible refine zo ?_); simp [hc, ho, hpf, -zas, hbin, zae, q2])); repeat' (first | ((first | refine zd ?_ | refine zh ?_ | refine dN (by decide +kernel) ?_ | (refine za ?_ ?_ <;> (intro hg; simp only [hg])) | fail) <;> simp [hc, ho, hpf, -zas, hbin, zae, q2]) | refine zg ?_ | refine zc ?_ | (refine zs ?_; simp only [zt]; try simp) | ((first | refine zl (by simp) ?_ | refine zw (by simp) (by simp) (by simp (maxDischargeDepth := 30) [hc, ho, hpf, -zas, hbin, zae, q2]) ?_ | fail); simp) | (refine zb (fun hc => ?_) (fun hc => ?_) <;> try simp at hc) | fail)
end Go.Proofs.YtanimmdlgmkmkaaGreat.Av
namespace Go.Proofs.YtanimmdlgmkmkaaGreat.Av
open Go
set_option linter.unusedSimpArgs false
set_option linter.unusedVariables false
set_option maxRecDepth 100000
set_option maxHeartbeats 1000000
set_option pp.maxSteps 300
theorem zov (a b : Int) (f : Bool) : PCalls Tryz.prog 242 [zq [a, b] f] (.raw (.int .i64 (if a = 0 then b else a))) := by
  refine zK Tryz.func242 rfl (N := 18) rfl rfl (by simp) (by simp [noIds]) fun σ => ?_
  (try ((first | with_reducible refine zk ?_ | with_reducible refine zm ?_ | with_reducible refine zo ?_); simp [zq, iAV])); repeat' (first | ((first | refine zd ?_ | refine zh ?_ | refine dN (by decide +kernel) ?_ | (refine za ?_ ?_ <;> (intro hg; simp only [hg])) | fail) <;> simp [zq, iAV]) | refine zg ?_ | refine zc ?_ | (refine zs ?_; simp only [zt]; try simp) | ((first | refine zl (by simp) ?_ | refine zw (by simp) (by simp) (by simp (maxDischargeDepth := 30) [zq, iAV]) ?_ | fail); simp) | (refine zb (fun hc => ?_) (fun hc => ?_) <;> try simp at hc) | fail)
  refine zab (fun n A τ => τ = σ ∧ A 3 = .raw (.int .i64 0) ∧ A 6 = zq [a, b] f ∧ A 7 = .raw (.int .i64 2) ∧ ∃ i : Nat, A 8 = .raw (.int .i64 i) ∧ i ≤ 2 ∧ n = 2 - i ∧ (0 < i → a = 0) ∧ (1 < i → b = 0)) 2 ?_ ?_
  · exact ⟨by simp, by simp, by simp [zq, iAV], by simp, 0, by simp, by omega, by omega, fun h => by omega, fun h => by omega⟩
  rintro n A τ ⟨rfl, a3, a6, a7, i, a8, hi, rfl, h0, h1⟩ I1 hI1
  by_cases hlt : i < 2
  · rcases (show i = 0 ∨ i = 1 by omega) with rfl | rfl
    · have w1 : IntKind.i64.wrap 1 = 1 := zU (by omega) (by omega)
      (try ((first | with_reducible refine zk ?_ | with_reducible refine zm ?_ | with_reducible refine zo ?_); simp [a3, a6, a7, a8, zq, iAV, w1])); repeat' (first | ((first | refine zd ?_ | refine zh ?_ | refine dN (by decide +kernel) ?_ | (refine za ?_ ?_ <;> (intro hg; simp only [hg])) | fail) <;> simp [a3, a6, a7, a8, zq, iAV, w1]) | refine zg ?_ | refine zc ?_ | (refine zs ?_; simp only [zt]; try simp) | ((first | refine zl (by simp) ?_ | refine zw (by simp) (by simp) (by simp (maxDischargeDepth := 30) [a3, a6, a7, a8, zq, iAV, w1]) ?_ | fail); simp) | (refine zb (fun hc => ?_) (fun hc => ?_) <;> try simp at hc) | fail)
      · simp_all
      · exact hI1 1 _ _ (by omega) ⟨by simp, by simp [a3], by simp [a6, zq, iAV], by simp [a7], 1, by simp, by omega, by omega, fun _ => by simpa using hc, fun h => by omega⟩
    · have ha := h0 (by omega)
      have w1 : IntKind.i64.wrap 2 = 2 := zU (by omega) (by omega)
      (try ((first | with_reducible refine zk ?_ | with_reducible refine zm ?_ | with_reducible refine zo ?_); simp [a3, a6, a7, a8, zq, iAV, w1])); repeat' (first | ((first | refine zd ?_ | refine zh ?_ | refine dN (by decide +kernel) ?_ | (refine za ?_ ?_ <;> (intro hg; simp only [hg])) | fail) <;> simp [a3, a6, a7, a8, zq, iAV, w1]) | refine zg ?_ | refine zc ?_ | (refine zs ?_; simp only [zt]; try simp) | ((first | refine zl (by simp) ?_ | refine zw (by simp) (by simp) (by simp (maxDischargeDepth := 30) [a3, a6, a7, a8, zq, iAV, w1]) ?_ | fail); simp) | (refine zb (fun hc => ?_) (fun hc => ?_) <;> try simp at hc) | fail)
      · simp_all
      · exact hI1 0 _ _ (by omega) ⟨by simp, by simp [a3], by simp [a6, zq, iAV], by simp [a7], 2, by simp, by omega, by omega, fun _ => ha, fun _ => by simpa using hc⟩
  · have : i = 2 := by omega
    subst this
    have ha := h0 (by omega)
    have hb := h1 (by omega)
    subst ha; subst hb
    (try ((first | with_reducible refine zk ?_ | with_reducible refine zm ?_ | with_reducible refine zo ?_); simp [a3, a6, a7, a8, zq, iAV])); repeat' (first | ((first | refine zd ?_ | refine zh ?_ | refine dN (by decide +kernel) ?_ | (refine za ?_ ?_ <;> (intro hg; simp only [hg])) | fail) <;> simp [a3, a6, a7, a8, zq, iAV]) | refine zg ?_ | refine zc ?_ | (refine zs ?_; simp only [zt]; try simp) | ((first | refine zl (by simp) ?_ | refine zw (by simp) (by simp) (by simp (maxDischargeDepth := 30) [a3, a6, a7, a8, zq, iAV]) ?_ | fail); simp) | (refine zb (fun hc => ?_) (fun hc => ?_) <;> try simp at hc) | fail)
def zdO (r : Ru) : Bool := decide (1 ≤ r.id) && decide (r.id ≤ 1048576) && (decide (0 ≤ r.dev) && decide (r.dev ≤ 7)) && (decide (0 ≤ r.prio) && decide (r.prio ≤ 1024)) && (decide (0 ≤ r.kind) && decide (r.kind ≤ 3)) &&
  (decide (0 ≤ r.port) && decide (r.port ≤ 3)) && (decide (r.kind = 0) || decide (r.port = 0)) && decide (r.r.lo ≤ r.r.hi)
theorem zg2 (r : Ru) (hr : -9223372036854775808 ≤ r.id) (hr2 : r.id < 9223372036854775808) : PCalls Tryz.prog 172 [zac r] (.raw (.bool (zdO r))) := by
  obtain ⟨b1, h1⟩ : ∃ b, (decide (0 ≤ r.id - 1) && decide (r.id - 1 ≤ 1048575)) = b := ⟨_, rfl⟩
  obtain ⟨b2, h2⟩ : ∃ b, (decide (0 ≤ r.dev) && decide (r.dev ≤ 7)) = b := ⟨_, rfl⟩
  obtain ⟨b3, h3⟩ : ∃ b, (decide (0 ≤ r.prio) && decide (r.prio ≤ 1024)) = b := ⟨_, rfl⟩
  obtain ⟨b4, h4⟩ : ∃ b, (decide (0 ≤ r.kind) && decide (r.kind ≤ 3)) = b := ⟨_, rfl⟩
  obtain ⟨b5, h5⟩ : ∃ b, (decide (0 ≤ r.port) && decide (r.port ≤ 3)) = b := ⟨_, rfl⟩
  obtain ⟨b6, h6⟩ : ∃ b, decide (r.kind = 0) = b := ⟨_, rfl⟩
  obtain ⟨b7, h7⟩ : ∃ b, decide (r.port = 0) = b := ⟨_, rfl⟩
  obtain ⟨b8, h8⟩ : ∃ b, decide (r.r.lo ≤ r.r.hi) = b := ⟨_, rfl⟩
  obtain ⟨X, w⟩ : ∃ X, IntKind.i64.wrap (r.id - 1) = X := ⟨_, rfl⟩
  have hX : (decide (0 ≤ X) && decide (X ≤ 1048575)) = b1 := by
    by_cases q : r.id = -9223372036854775808
    · have e : X = 9223372036854775807 := by rw [← w, q]; decide
      rw [← h1, e, q]; decide
    · rw [← w, zU (by omega) (by omega)]; exact h1
  have c1 := hX ▸ zcs X 1048575
  have c2 := h2 ▸ zcs r.dev 7
  have c3 := h3 ▸ zcs r.prio 1024
  have c4 := h4 ▸ zcs r.kind 3
  have c5 := h5 ▸ zcs r.port 3
  have e : zdO r = (b1 && b2 && b3 && b4 && b5 && (b6 || b7) && b8) := by
    unfold zdO; rw [← h1, h2, h3, h4, h5, h6, h7, h8]
    rw [show decide (0 ≤ r.id - 1) = decide (1 ≤ r.id) by (congr 1; exact propext (by omega)), show decide (r.id - 1 ≤ 1048575) = decide (r.id ≤ 1048576) by (congr 1; exact propext (by omega))]
  rw [e]
  clear e
  refine zK Tryz.func172 rfl (N := 52) rfl rfl (by simp) (by simp [noIds]) fun σ => ?_
  (try ((first | with_reducible refine zk ?_ | with_reducible refine zm ?_ | with_reducible refine zo ?_); simp [zac, h6, h7, h8, w])); repeat' (first | ((first | refine zd ?_ | refine zh ?_ | refine dN (by decide +kernel) ?_ | (refine za ?_ ?_ <;> (intro hg; simp only [hg])) | fail) <;> simp [zac, h6, h7, h8, w]) | refine zg ?_ | refine zc ?_ | (refine zs ?_; simp only [zt]; try simp) | ((first | refine zl (by simp) ?_ | refine zw (by simp) (by simp) (by simp (maxDischargeDepth := 30) [zac, h6, h7, h8, w]) ?_ | fail); simp) | (refine zb (fun hc => ?_) (fun hc => ?_) <;> try simp at hc) | fail)
  repeat' (first | refine PCalls.use c1 ?_ | refine PCalls.use c2 ?_ | refine PCalls.use c3 ?_ | refine PCalls.use c4 ?_ | refine PCalls.use c5 ?_); all_goals (try ((first | with_reducible refine zk ?_ | with_reducible refine zm ?_ | with_reducible refine zo ?_); simp [zac, h6, h7, h8, w])); repeat' (first | ((first | refine zd ?_ | refine zh ?_ | refine dN (by decide +kernel) ?_ | (refine za ?_ ?_ <;> (intro hg; simp only [hg])) | fail) <;> simp [zac, h6, h7, h8, w]) | refine zg ?_ | refine zc ?_ | (refine zs ?_; simp only [zt]; try simp) | ((first | refine zl (by simp) ?_ | refine zw (by simp) (by simp) (by simp (maxDischargeDepth := 30) [zac, h6, h7, h8, w]) ?_ | fail); simp) | (refine zb (fun hc => ?_) (fun hc => ?_) <;> try simp at hc) | fail)
def zdP (x y : Ru) : Int := if cmpI y.prio x.prio = 0 then cmpI x.id y.id else cmpI y.prio x.prio
theorem zl1 (x y : Ru) : PCalls Tryz.prog 235 [zac x, zac y] (.raw (.int .i64 (zdP x y))) := by
  refine zK Tryz.func235 rfl (N := 17) rfl rfl (by simp) (by simp [noIds]) fun σ => ?_
  (try ((first | with_reducible refine zk ?_ | with_reducible refine zm ?_ | with_reducible refine zo ?_); simp [zac])); repeat' (first | ((first | refine zd ?_ | refine zh ?_ | refine dN (by decide +kernel) ?_ | (refine za ?_ ?_ <;> (intro hg; simp only [hg])) | fail) <;> simp [zac]) | refine zg ?_ | refine zc ?_ | (refine zs ?_; simp only [zt]; try simp) | ((first | refine zl (by simp) ?_ | refine zw (by simp) (by simp) (by simp (maxDischargeDepth := 30) [zac]) ?_ | fail); simp) | (refine zb (fun hc => ?_) (fun hc => ?_) <;> try simp at hc) | fail)
  refine zcd (fun o => o.dst == some 9 || o.dst == some 14 || o.dst == some 16) zem (by decide +kernel) ?_
  (try ((first | with_reducible refine zk ?_ | with_reducible refine zm ?_ | with_reducible refine zo ?_); simp [zac])); repeat' (first | ((first | refine zd ?_ | refine zh ?_ | refine dN (by decide +kernel) ?_ | (refine za ?_ ?_ <;> (intro hg; simp only [hg])) | fail) <;> simp [zac]) | refine zg ?_ | refine zc ?_ | (refine zs ?_; simp only [zt]; try simp) | ((first | refine zl (by simp) ?_ | refine zw (by simp) (by simp) (by simp (maxDischargeDepth := 30) [zac]) ?_ | fail); simp) | (refine zb (fun hc => ?_) (fun hc => ?_) <;> try simp at hc) | fail)
  refine .inl ⟨_, .inl (zgB _ _), ?_⟩
  (try ((first | with_reducible refine zk ?_ | with_reducible refine zm ?_ | with_reducible refine zo ?_); simp [zac])); repeat' (first | ((first | refine zd ?_ | refine zh ?_ | refine dN (by decide +kernel) ?_ | (refine za ?_ ?_ <;> (intro hg; simp only [hg])) | fail) <;> simp [zac]) | refine zg ?_ | refine zc ?_ | (refine zs ?_; simp only [zt]; try simp) | ((first | refine zl (by simp) ?_ | refine zw (by simp) (by simp) (by simp (maxDischargeDepth := 30) [zac]) ?_ | fail); simp) | (refine zb (fun hc => ?_) (fun hc => ?_) <;> try simp at hc) | fail)
  refine .inl ⟨_, .inl (zgB _ _), ?_⟩
  (try ((first | with_reducible refine zk ?_ | with_reducible refine zm ?_ | with_reducible refine zo ?_); simp [zac])); repeat' (first | ((first | refine zd ?_ | refine zh ?_ | refine dN (by decide +kernel) ?_ | (refine za ?_ ?_ <;> (intro hg; simp only [hg])) | fail) <;> simp [zac]) | refine zg ?_ | refine zc ?_ | (refine zs ?_; simp only [zt]; try simp) | ((first | refine zl (by simp) ?_ | refine zw (by simp) (by simp) (by simp (maxDischargeDepth := 30) [zac]) ?_ | fail); simp) | (refine zb (fun hc => ?_) (fun hc => ?_) <;> try simp at hc) | fail)
  refine .inl ⟨_, .inr ⟨[zq [cmpI y.prio x.prio, cmpI x.id y.id] false], ?_, zov _ _ _, rfl⟩, ?_⟩
  · exact ⟨_, _, rfl, .inr ⟨[.raw (.int .i64 (cmpI y.prio x.prio)), .raw (.int .i64 (cmpI x.id y.id))], by simp [St.new], by simp, by simp [zq, iAV]⟩, rfl⟩
  unfold zdP
  simp
  refine zmd ?_
  refine zw (.inr rfl) rfl (by simp (maxDischargeDepth := 30)) ?_
  simp
end Go.Proofs.YtanimmdlgmkmkaaGreat.Av
namespace Go.Proofs.YtanimmdlgmkmkaaGreat.Av
open Go
set_option linter.unusedSimpArgs false
set_option linter.unusedVariables false
set_option maxRecDepth 100000
set_option maxHeartbeats 2000000
set_option pp.maxSteps 300
theorem ziX {P : Program} {f : FuncId} {sz : Nat} {fl : Bool} {σ : St} {K : AV → St → Prop} (h : ∀ b cap, ACalls P f [.raw (.slice b 0 cap)] σ K) : ACalls P f [.sl sz [] fl] σ K := by
  refine ⟨(h none 0).1, fun S vs hS hl => ?_⟩
  simp only [LRel, VRel] at hl
  obtain ⟨v, us, rfl, ⟨base, cap, rfl, _⟩, rfl⟩ := hl
  exact (h base cap).2 S _ hS ⟨_, _, rfl, rfl, rfl⟩
theorem zrI : ∀ z : List Ru, zaE (zV (z.map zac)) = true := fun z => by
  induction z with
  | nil => rfl
  | cons r z ih => simp [zV, zac, zaE, cellOK] at ih ⊢; try exact ih
theorem zkk (l : List Ru) (f : Bool) {σ : St} {K : AV → St → Prop} (hl : l.length < 2932031007403) (h : ∀ v τ, OwnL σ τ 7 v (l.map zac) → Ext σ τ → K v τ) : ACalls Tryz.prog 129 [zE l f] σ K := by
  cases l with
  | nil =>
    simp only [zE, List.map_nil]
    refine ziX fun b cap => ?_
    refine zcr Tryz.func129 rfl (N := 8) rfl rfl (by simp) ?_
    cases b with
    | none =>
      (try ((first | with_reducible refine zk ?_ | with_reducible refine zm ?_ | with_reducible refine zo ?_); simp)); repeat' (first | ((first | refine zd ?_ | refine zh ?_ | refine dN (by decide +kernel) ?_ | (refine za ?_ ?_ <;> (intro hg; simp only [hg])) | fail) <;> simp) | refine zg ?_ | refine zc ?_ | (refine zs ?_; simp only [zt]; try simp) | (refine zb (fun hc => ?_) (fun hc => ?_) <;> try simp at hc) | fail)
      exact zaF (.inr rfl) (by simp) (h _ _ OwnL.nil (Ext.refl _))
    | some b =>
      (try ((first | with_reducible refine zk ?_ | with_reducible refine zm ?_ | with_reducible refine zo ?_); simp [-zO])); repeat' (first | ((first | refine zd ?_ | refine zh ?_ | refine dN (by decide +kernel) ?_ | (refine za ?_ ?_ <;> (intro hg; simp only [hg])) | fail) <;> simp [-zO]) | refine zg ?_ | refine zc ?_ | (refine zs ?_; simp only [zt]; try simp) | (refine zb (fun hc => ?_) (fun hc => ?_) <;> try simp at hc) | fail)
      refine zaV zoU (σ0 := σ) (es := []) (OwnL.of rfl (by simp) (zf _ _ _) rfl) (Ext.new _ _ _ _) (ys := []) (by simp) (.inl rfl) rfl (by simp) ?_
      intro v1 τ1 hO1 hE1 _ _
      rw [List.nil_append] at hO1
      (try ((first | with_reducible refine zk ?_ | with_reducible refine zm ?_ | with_reducible refine zo ?_); simp [-zO])); repeat' (first | ((first | refine zd ?_ | refine zh ?_ | refine dN (by decide +kernel) ?_ | (refine za ?_ ?_ <;> (intro hg; simp only [hg])) | fail) <;> simp [-zO]) | refine zg ?_ | refine zc ?_ | (refine zs ?_; simp only [zt]; try simp) | (refine zb (fun hc => ?_) (fun hc => ?_) <;> try simp at hc) | fail)
      exact zaF (.inr rfl) (by simp) (h _ _ hO1 hE1)
  | cons r l =>
    refine zcr Tryz.func129 rfl (N := 8) rfl rfl (by simp) ?_
    (try ((first | with_reducible refine zk ?_ | with_reducible refine zm ?_ | with_reducible refine zo ?_); simp [zE, -zO])); repeat' (first | ((first | refine zd ?_ | refine zh ?_ | refine dN (by decide +kernel) ?_ | (refine za ?_ ?_ <;> (intro hg; simp only [hg])) | fail) <;> simp [zE, -zO]) | refine zg ?_ | refine zc ?_ | (refine zs ?_; simp only [zt]; try simp) | (refine zb (fun hc => ?_) (fun hc => ?_) <;> try simp at hc) | fail)
    refine zaV zoU (σ0 := σ) (es := []) (OwnL.of rfl (by simp) (zf _ _ _) rfl) (Ext.new _ _ _ _) (ys := (r :: l).map zac) (by simp) (.inr rfl) (zrI _) (by simp at hl ⊢; omega) ?_
    intro v1 τ1 hO1 hE1 _ _
    rw [List.nil_append] at hO1
    (try ((first | with_reducible refine zk ?_ | with_reducible refine zm ?_ | with_reducible refine zo ?_); simp [-zO])); repeat' (first | ((first | refine zd ?_ | refine zh ?_ | refine dN (by decide +kernel) ?_ | (refine za ?_ ?_ <;> (intro hg; simp only [hg])) | fail) <;> simp [-zO]) | refine zg ?_ | refine zc ?_ | (refine zs ?_; simp only [zt]; try simp) | (refine zb (fun hc => ?_) (fun hc => ?_) <;> try simp at hc) | fail)
    exact zaF (.inr rfl) (by simp) (h _ _ hO1 hE1)
def zbm : List Ru → Ru
  | [] => ⟨0, 0, 0, 0, ⟨0, 0⟩, 0⟩
  | r :: l => l.foldl (fun m x => if zdP x m < 0 then x else m) r
theorem zjY {z : List Ru} {k : Nat} {x : Ru} (h1 : 1 ≤ k) (hx : z[k]? = some x) : zbm (z.take (k + 1)) = if zdP x (zbm (z.take k)) < 0 then x else zbm (z.take k) := by
  rw [List.take_add_one, hx]
  cases z with
  | nil => simp at hx
  | cons r l =>
    obtain ⟨j, rfl⟩ : ∃ j, k = j + 1 := ⟨k - 1, by omega⟩
    simp [zbm, List.foldl_append]
    rfl
theorem zP (x : Ru) : AV.agg [.raw (.int .i64 x.id), .raw (.int .i64 x.dev), .raw (.int .i64 x.prio), .raw (.int .i64 x.kind), .raw (.int .u32 x.r.lo), .raw (.int .u32 x.r.hi), .raw (.int .i64 x.port)] = zac x := rfl
theorem zbE (a b : Ru) : setPart (zac a) 0 [.raw (.int .i64 b.id), .raw (.int .i64 b.dev), .raw (.int .i64 b.prio), .raw (.int .i64 b.kind), .raw (.int .u32 b.r.lo), .raw (.int .u32 b.r.hi), .raw (.int .i64 b.port)] = zac b := rfl
theorem zam (a : Ru) : zaE (zac a).cells = true := rfl
theorem zkl (z : List Ru) (hne : z ≠ []) (f : Bool) (hl : z.length < 2932031007403) : PCalls Tryz.prog 234 [zE z f, .fn (.func 235) [] []] (zac (zbm z)) := by
  refine zK Tryz.func234 rfl (N := 33) rfl rfl (by simp) (by simp [noIds, zac]) fun σ => ?_
  have hpos : 0 < z.length := List.length_pos_iff.2 hne
  have hx0 : z[0]? = some z[0] := List.getElem?_eq_getElem hpos
  have hlt1 : ¬ ((z.length : Int) < 1) := by omega
  (try ((first | with_reducible refine zk ?_ | with_reducible refine zm ?_ | with_reducible refine zo ?_); simp [zE, zF, hx0, hlt1, hpos])); repeat' (first | ((first | refine zd ?_ | refine zh ?_ | refine dN (by decide +kernel) ?_ | (refine za ?_ ?_ <;> (intro hg; simp only [hg])) | fail) <;> simp [zE, zF, hx0, hlt1, hpos]) | refine zg ?_ | refine zc ?_ | (refine zs ?_; simp only [zt]; try simp) | ((first | refine zl (by simp) ?_ | refine zw (by simp) (by simp) (by simp (maxDischargeDepth := 30) [zE, zF, hx0, hlt1, hpos]) ?_ | fail); simp) | (refine zb (fun hc => ?_) (fun hc => ?_) <;> try simp at hc) | fail)
  refine zab (fun n A τ => A 0 = zE z f ∧ A 1 = .fn (.func 235) [] [] ∧ A 4 = .rp ⟨4, σ.nx 4, 7⟩ 0 0 ∧ A 5 = .rp ⟨5, σ.nx 5, 7⟩ 0 0 ∧ (∃ y, τ.m ⟨4, σ.nx 4, 7⟩ = some (.buf [zac y])) ∧ Ext σ τ ∧
    ∃ (k : Nat), A 6 = .raw (.int .i64 k) ∧ 1 ≤ k ∧ k ≤ z.length ∧ τ.m ⟨5, σ.nx 5, 7⟩ = some (.buf [zac (zbm (z.take k))]) ∧ n = z.length - k) (z.length - 1) ?_ ?_
  · refine ⟨by simp [zE], by simp, by simp, by simp [St.new], ⟨⟨0, 0, 0, 0, ⟨0, 0⟩, 0⟩, ?_⟩, ?_, 1, by simp, by omega, by omega, ?_, ?_⟩
    · simp [St.new, St.set, zac]
    · refine Ext.setF (by simp (maxDischargeDepth := 30)) ?_
      have := zf σ 5 7
      simpa [St.new] using this
    · have e : z.take 1 = [z[0]] := by
        cases z with
        | nil => exact absurd rfl hne
        | cons r l => rfl
      rw [e]
      simp [St.new, St.set, zbm, zac]
    · rfl
  rintro n A τ ⟨a0, a1, a4, a5, ⟨y, m4⟩, hE, k, a6, h1, hk, m5, rfl⟩ I1 hI1
  have f4 : σ.m ⟨4, σ.nx 4, 7⟩ = none := zf _ _ _
  have f5 : σ.m ⟨5, σ.nx 5, 7⟩ = none := zf _ _ _
  by_cases hlt : k < z.length
  · have hx : z[k]? = some z[k] := List.getElem?_eq_getElem hlt
    have w1 : IntKind.i64.wrap ((k : Int) + 1) = ((k + 1 : Nat) : Int) := by rw [zU (by omega) (by omega)]; omega
    (try ((first | with_reducible refine zk ?_ | with_reducible refine zm ?_ | with_reducible refine zo ?_); simp [zE, a0, a1, a4, a5, a6, hlt, hx, m4, m5, zF, zP])); repeat' (first | ((first | refine zd ?_ | refine zh ?_ | refine dN (by decide +kernel) ?_ | (refine za ?_ ?_ <;> (intro hg; simp only [hg])) | fail) <;> simp [zE, a0, a1, a4, a5, a6, hlt, hx, m4, m5, zF, zP]) | refine zg ?_ | refine zc ?_ | (refine zs ?_; simp only [zt]; try simp) | ((first | refine zl (by simp) ?_ | refine zw (by simp) (by simp) (by simp (maxDischargeDepth := 30) [zE, a0, a1, a4, a5, a6, hlt, hx, m4, m5, zF, zP]) ?_ | fail); simp) | (refine zb (fun hc => ?_) (fun hc => ?_) <;> try simp at hc) | fail)
    refine PCalls.use (zl1 _ _) ?_
    by_cases hs : zdP z[k] (zbm (z.take k)) < 0
    · (try ((first | with_reducible refine zk ?_ | with_reducible refine zm ?_ | with_reducible refine zo ?_); simp [zE, a0, a1, a4, a5, a6, hlt, hx, m4, m5, zF, zP, zbE, hs, w1])); repeat' (first | ((first | refine zd ?_ | refine zh ?_ | refine dN (by decide +kernel) ?_ | (refine za ?_ ?_ <;> (intro hg; simp only [hg])) | fail) <;> simp [zE, a0, a1, a4, a5, a6, hlt, hx, m4, m5, zF, zP, zbE, hs, w1]) | refine zg ?_ | refine zc ?_ | (refine zs ?_; simp only [zt]; try simp) | ((first | refine zl (by simp) ?_ | refine zw (by simp) (by simp) (by simp (maxDischargeDepth := 30) [zE, a0, a1, a4, a5, a6, hlt, hx, m4, m5, zF, zP, zbE, hs, w1]) ?_ | fail); simp) | (refine zb (fun hc => ?_) (fun hc => ?_) <;> try simp at hc) | fail)
      exact hI1 (z.length - (k + 1)) _ _ (by omega) ⟨by simp [a0], by simp [a1], by simp [a4], by simp [a5], ⟨y, by rw [zpV (by simp)]; exact m4⟩, hE.setF f5, k + 1, by simp, by omega, by omega, by rw [zmf m5, zjY h1 hx, if_pos hs], rfl⟩
    · (try ((first | with_reducible refine zk ?_ | with_reducible refine zm ?_ | with_reducible refine zo ?_); simp [zE, a0, a1, a4, a5, a6, hlt, hx, m4, m5, zF, zP, zbE, hs, w1])); repeat' (first | ((first | refine zd ?_ | refine zh ?_ | refine dN (by decide +kernel) ?_ | (refine za ?_ ?_ <;> (intro hg; simp only [hg])) | fail) <;> simp [zE, a0, a1, a4, a5, a6, hlt, hx, m4, m5, zF, zP, zbE, hs, w1]) | refine zg ?_ | refine zc ?_ | (refine zs ?_; simp only [zt]; try simp) | ((first | refine zl (by simp) ?_ | refine zw (by simp) (by simp) (by simp (maxDischargeDepth := 30) [zE, a0, a1, a4, a5, a6, hlt, hx, m4, m5, zF, zP, zbE, hs, w1]) ?_ | fail); simp) | (refine zb (fun hc => ?_) (fun hc => ?_) <;> try simp at hc) | fail)
      exact hI1 (z.length - (k + 1)) _ _ (by omega) ⟨by simp [a0], by simp [a1], by simp [a4], by simp [a5], ⟨y, m4⟩, hE, k + 1, by simp, by omega, by omega, by rw [m5, zjY h1 hx, if_neg hs], rfl⟩
  · have : k = z.length := by omega
    subst this
    rw [List.take_length] at m5
    (try ((first | with_reducible refine zk ?_ | with_reducible refine zm ?_ | with_reducible refine zo ?_); simp [zE, a0, a1, a4, a5, a6, m4, m5, zF, zP, zbE])); repeat' (first | ((first | refine zd ?_ | refine zh ?_ | refine dN (by decide +kernel) ?_ | (refine za ?_ ?_ <;> (intro hg; simp only [hg])) | fail) <;> simp [zE, a0, a1, a4, a5, a6, m4, m5, zF, zP, zbE]) | refine zg ?_ | refine zc ?_ | (refine zs ?_; simp only [zt]; try simp) | (refine zb (fun hc => ?_) (fun hc => ?_) <;> try simp at hc) | fail)
    refine zw (.inr rfl) rfl (hE.setF f4) ?_
    simp [a4, m4, St.set, zF]
    exact zP _
theorem ACalls.args {P : Program} {f : FuncId} {as_ bs : List AV} {σ : St} {K : AV → St → Prop} (hw : ∀ S vs, LRel S as_ vs → LRel S bs vs) (h : ACalls P f bs σ K) : ACalls P f as_ σ K :=
  ⟨h.1, fun S vs hS hl => h.2 S vs hS (hw S vs hl)⟩
def OwnP (σ0 τ : St) (n : Nat) (v : AV) (es : List AV) : Prop :=
  (es = [] ∧ v = .sl 0 [] true) ∨ ∃ j rest, v = .rs j 0 es.length ∧ j.sz = n ∧ τ.m j = some (.buf (es ++ rest)) ∧ σ0.m j = none
theorem OwnL.toP {σ0 τ : St} {n : Nat} {v : AV} {es : List AV} (h : OwnL σ0 τ n v es) : OwnP σ0 τ n v es := by
  rcases h with h | ⟨j, h1, h2, h3, h4⟩
  · exact .inl h
  · exact .inr ⟨j, [], h1, h2, by rw [List.append_nil]; exact h3, h4⟩
theorem OwnP.ext {σ0 τ ρ : St} {n : Nat} {v : AV} {es : List AV} (h : OwnP σ0 τ n v es) (k : Ext τ ρ) : OwnP σ0 ρ n v es := by
  rcases h with h | ⟨j, r, h1, h2, h3, h4⟩
  · exact .inl h
  · exact .inr ⟨j, r, h1, h2, k.m _ _ h3, h4⟩
theorem PCalls.useP {P : Program} {f : FuncId} {σ0 σ : St} {n : Nat} {a v r : AV} {es : List AV} {K : AV → St → Prop} (h : PCalls P f [.sl n es false, a] r) (hr : r.plain = true) (hO : OwnP σ0 σ n v es) (k : K r σ) : ACalls P f [v, a] σ K := by
  rcases hO with ⟨rfl, rfl⟩ | ⟨j, rest, rfl, hj, hm, hn⟩
  · refine ACalls.args (bs := [.sl n [] false, a]) (fun S vs hl => ?_) (h.use k)
    simp only [LRel] at hl ⊢
    obtain ⟨w, ws, e2, h2, v, us, e, h1, h3⟩ := hl
    exact ⟨w, ws, e2, zbD _ _ h2, v, us, e, h1, h3⟩
  · refine RCalls.use (.inr ⟨[.sl n es false, a], ?_, h, hr⟩) k
    simp only [zcS]
    exact ⟨_, _, rfl, .inr ⟨es ++ rest, hm, by simp, by simp [hj]⟩, _, _, rfl, .inl rfl, rfl⟩
theorem zk9 {g : FuncId} {caps : List AV} {p : Ru → Bool} (l : List Ru) {σ0 σ : St} {v : AV} {K : AV → St → Prop} (hO : OwnL σ0 σ 7 v (l.map zac)) (hE : Ext σ0 σ) (hl : l.length < 2932031007403)
    (hg : ∀ r ∈ l, PCalls Tryz.prog g (zac r :: caps) (.raw (.bool (p r)))) (h : ∀ v' τ, OwnP σ0 τ 7 v' ((l.filter fun r => !p r).map zac) → Ext σ0 τ → K v' τ) : ACalls Tryz.prog 232 [v, .fn (.func g) [] caps] σ K := by
  refine zcr Tryz.func232 rfl (N := 42) rfl rfl (by simp) ?_
  (try ((first | with_reducible refine zk ?_ | with_reducible refine zm ?_ | with_reducible refine zo ?_); simp)); repeat' (first | ((first | refine zd ?_ | refine zh ?_ | refine dN (by decide +kernel) ?_ | (refine za ?_ ?_ <;> (intro hg; simp only [hg])) | fail) <;> simp) | refine zg ?_ | refine zc ?_ | (refine zs ?_; simp only [zt]; try simp) | ((first | refine zl (by simp) ?_ | refine zw (by simp) (by simp) (by simp (maxDischargeDepth := 30)) ?_ | fail); simp) | (refine zb (fun hc => ?_) (fun hc => ?_) <;> try simp at hc) | fail)
  refine PCalls.useP (zkh l false (by omega) hg) rfl hO.toP ?_
  cases ha : l.any p with
  | false =>
    have hi : idxOf p l = -1 := by unfold idxOf; rw [ha]; rfl
    have hfl : (l.filter fun r => !p r) = l := by
      rw [List.filter_eq_self]
      intro r hr
      rw [List.any_eq_false] at ha
      simpa using ha r hr
    have w1 : IntKind.i64.wrap (-1) = -1 := zU (by omega) (by omega)
    rw [hfl] at h
    (try ((first | with_reducible refine zk ?_ | with_reducible refine zm ?_ | with_reducible refine zo ?_); simp [hi, w1])); repeat' (first | ((first | refine zd ?_ | refine zh ?_ | refine dN (by decide +kernel) ?_ | (refine za ?_ ?_ <;> (intro hg; simp only [hg])) | fail) <;> simp [hi, w1]) | refine zg ?_ | refine zc ?_ | (refine zs ?_; simp only [zt]; try simp) | (refine zb (fun hc => ?_) (fun hc => ?_) <;> try simp at hc) | fail)
    exact zaF (.inr rfl) (by simp) (h _ _ hO.toP hE)
  | true =>
    have hi : idxOf p l = (l.findIdx p : Nat) := by unfold idxOf; rw [ha]; rfl
    have hlt0 : l.findIdx p < l.length := List.findIdx_lt_length.2 (by simpa using ha)
    obtain ⟨i0, hi0⟩ : ∃ i0, l.findIdx p = i0 := ⟨_, rfl⟩
    rw [hi0] at hi hlt0
    have hne : ¬ ((i0 : Int) = -1) := by omega
    have w0 : IntKind.i64.wrap ((i0 : Int) + 1) = ((i0 + 1 : Nat) : Int) := by rw [zU (by omega) (by omega)]; omega
    have w1 : IntKind.i64.wrap (-1) = -1 := zU (by omega) (by omega)
    rcases hO with ⟨he, _⟩ | ⟨j, hv, hj, hm, hn⟩
    · have : l = [] := by simpa using he
      subst this
      simp at ha
    rw [List.length_map] at hv
    subst hv
    (try ((first | with_reducible refine zk ?_ | with_reducible refine zm ?_ | with_reducible refine zo ?_); simp [hi, w1, hne, w0])); repeat' (first | ((first | refine zd ?_ | refine zh ?_ | refine dN (by decide +kernel) ?_ | (refine za ?_ ?_ <;> (intro hg; simp only [hg])) | fail) <;> simp [hi, w1, hne, w0]) | refine zg ?_ | refine zc ?_ | (refine zs ?_; simp only [zt]; try simp) | ((first | refine zl (by simp) ?_ | refine zw (by simp) (by simp) (by simp (maxDischargeDepth := 30) [hi, w1, hne, w0]) ?_ | fail); simp) | (refine zb (fun hc => ?_) (fun hc => ?_) <;> try simp at hc) | fail)
    have hfirst : ∀ r ∈ l.take i0, p r = false := fun r hr => by
      obtain ⟨q, hq⟩ := List.getElem?_of_mem hr
      obtain ⟨hq1, hq2⟩ := List.getElem?_eq_some_iff.1 hq
      rw [List.length_take] at hq1
      rw [List.getElem_take] at hq2
      have := List.not_of_lt_findIdx (p := p) (xs := l) (i := q) (by omega)
      rw [hq2] at this
      simpa using this
    have hp0 : p l[i0] = true := by
      have := List.findIdx_getElem (p := p) (xs := l) (w := by omega)
      simpa only [hi0] using this
    have htk : ∀ k, (hk : k < l.length) → (l.take (k + 1)).filter (fun r => !p r) = (l.take k).filter (fun r => !p r) ++ if p l[k] = true then [] else [l[k]] := fun k hk => by
      rw [List.take_add_one, List.getElem?_eq_getElem hk, List.filter_append]
      congr 1
      cases hb : p l[k] <;> simp [hb]
    refine zab (fun n A τ => A 0 = .rs j 0 l.length ∧ A 1 = .fn (.func g) [] caps ∧ Ext σ0 τ ∧ ∃ (k : Nat) (q : List Ru), A 6 = .raw (.int .i64 k) ∧ A 5 = .raw (.int .i64 (((l.take k).filter fun r => !p r).length : Nat)) ∧ k ≤ l.length ∧
      ((l.take k).filter fun r => !p r).length < k ∧ q.length = l.length ∧ q.take ((l.take k).filter fun r => !p r).length = (l.take k).filter (fun r => !p r) ∧ q.drop k = l.drop k ∧ τ.m j = some (.buf (q.map zac)) ∧ n = l.length - k) (l.length - (i0 + 1)) ?_ ?_
    · have e1 : (l.take (i0 + 1)).filter (fun r => !p r) = l.take i0 := by
        rw [htk i0 hlt0, if_pos hp0, List.append_nil, List.filter_eq_self]
        intro r hr; simp [hfirst r hr]
      refine ⟨by simp, by simp, hE, i0 + 1, l, by simp, ?_, by omega, ?_, rfl, ?_, rfl, hm, rfl⟩
      · rw [e1, List.length_take, Nat.min_eq_left (by omega)]; simp
      · rw [e1, List.length_take, Nat.min_eq_left (by omega)]; omega
      · rw [e1, List.length_take, Nat.min_eq_left (by omega)]
    rintro n A τ ⟨a0, a1, hE, k, q, a6, a5, hk, hik, hq, hq1, hq2, hmq, rfl⟩ I1 hI1
    obtain ⟨i, hii⟩ : ∃ i, ((l.take k).filter fun r => !p r).length = i := ⟨_, rfl⟩
    rw [hii] at a5 hik hq1
    by_cases hlt : k < l.length
    · have hx : q[k]? = some l[k] := by
        have := congrArg (·[0]?) hq2
        simpa [List.getElem?_drop, List.getElem?_eq_getElem hlt] using this
      have hxi : q[i]? = some q[i] := List.getElem?_eq_getElem (by omega)
      have w2 : IntKind.i64.wrap ((k : Int) + 1) = ((k + 1 : Nat) : Int) := by rw [zU (by omega) (by omega)]; omega
      have w3 : IntKind.i64.wrap ((i : Int) + 1) = ((i + 1 : Nat) : Int) := by rw [zU (by omega) (by omega)]; omega
      have hjf : j ≠ ⟨7, τ.nx 7, 7⟩ := fun e => by rw [e, zf] at hmq; cases hmq
      have hil : i < l.length := by omega
      (try ((first | with_reducible refine zk ?_ | with_reducible refine zm ?_ | with_reducible refine zo ?_); simp [a0, a1, a6, a5, hlt, hx, hmq, hj, hjf, zF, zP, w2, w3])); repeat' (first | ((first | refine zd ?_ | refine zh ?_ | refine dN (by decide +kernel) ?_ | (refine za ?_ ?_ <;> (intro hg; simp only [hg])) | fail) <;> simp [a0, a1, a6, a5, hlt, hx, hmq, hj, hjf, zF, zP, w2, w3]) | refine zg ?_ | refine zc ?_ | (refine zs ?_; simp only [zt]; try simp) | ((first | refine zl (by simp) ?_ | refine zw (by simp) (by simp) (by simp (maxDischargeDepth := 30) [a0, a1, a6, a5, hlt, hx, hmq, hj, hjf, zF, zP, w2, w3]) ?_ | fail); simp) | (refine zb (fun hc => ?_) (fun hc => ?_) <;> try simp at hc) | fail)
      refine PCalls.use (hg l[k] (List.getElem_mem _)) ?_
      cases hpk : p l[k] with
      | true =>
        (try ((first | with_reducible refine zk ?_ | with_reducible refine zm ?_ | with_reducible refine zo ?_); simp [a0, a1, a6, a5, hlt, hx, hmq, hj, hjf, zF, zP, w2, w3])); repeat' (first | ((first | refine zd ?_ | refine zh ?_ | refine dN (by decide +kernel) ?_ | (refine za ?_ ?_ <;> (intro hg; simp only [hg])) | fail) <;> simp [a0, a1, a6, a5, hlt, hx, hmq, hj, hjf, zF, zP, w2, w3]) | refine zg ?_ | refine zc ?_ | (refine zs ?_; simp only [zt]; try simp) | ((first | refine zl (by simp) ?_ | refine zw (by simp) (by simp) (by simp (maxDischargeDepth := 30) [a0, a1, a6, a5, hlt, hx, hmq, hj, hjf, zF, zP, w2, w3]) ?_ | fail); simp) | (refine zb (fun hc => ?_) (fun hc => ?_) <;> try simp at hc) | fail)
        have e := htk k hlt
        rw [if_pos hpk, List.append_nil] at e
        refine hI1 (l.length - (k + 1)) _ _ (by omega) ⟨by simp [a0], by simp [a1], by simp [hE], k + 1, q, by simp, by rw [e, hii]; simp [a5], by omega, by rw [e, hii]; omega, hq, by rw [e, hii]; exact hq1, ?_, by simp [St.set, St.new, hjf, hmq], rfl⟩
        have := congrArg (List.drop 1) hq2
        simpa [List.drop_drop, Nat.add_comm] using this
      | false =>
        have hsp : setPart (zac q[i]) 0 (zac l[k]).cells = zac l[k] := rfl
        rw [zF] at hsp
        (try ((first | with_reducible refine zk ?_ | with_reducible refine zm ?_ | with_reducible refine zo ?_); simp [a0, a1, a6, a5, hlt, hil, hx, hxi, hmq, hj, hjf, zF, zP, hsp, w2, w3])); repeat' (first | ((first | refine zd ?_ | refine zh ?_ | refine dN (by decide +kernel) ?_ | (refine za ?_ ?_ <;> (intro hg; simp only [hg])) | fail) <;> simp [a0, a1, a6, a5, hlt, hil, hx, hxi, hmq, hj, hjf, zF, zP, hsp, w2, w3]) | refine zg ?_ | refine zc ?_ | (refine zs ?_; simp only [zt]; try simp) | ((first | refine zl (by simp) ?_ | refine zw (by simp) (by simp) (by simp (maxDischargeDepth := 30) [a0, a1, a6, a5, hlt, hil, hx, hxi, hmq, hj, hjf, zF, zP, hsp, w2, w3]) ?_ | fail); simp) | (refine zb (fun hc => ?_) (fun hc => ?_) <;> try simp at hc) | fail)
        have e := htk k hlt
        rw [if_neg (by simp [hpk])] at e
        have el : (((l.take k).filter fun r => !p r) ++ [l[k]]).length = i + 1 := by rw [List.length_append, hii]; rfl
        refine hI1 (l.length - (k + 1)) _ _ (by omega) ⟨by simp [a0], by simp [a1], Ext.setF (by simp [hE]) hn, k + 1, q.set i l[k], by simp, by rw [e, el]; simp, by omega, by rw [e, el]; omega, by simpa using hq, ?_, ?_, by simp [St.set, St.new, hjf, hmq, List.map_set], rfl⟩
        · rw [e, el, ← hq1, List.take_succ_eq_append_getElem (by simp; omega)]
          simp
          rw [List.take_set, List.set_eq_of_length_le (by simp; omega)]
        · have := congrArg (List.drop 1) hq2
          rw [List.drop_set_of_lt (by omega)]
          simpa [List.drop_drop, Nat.add_comm] using this
    · have : k = l.length := by omega
      subst this
      rw [List.take_length] at *
      have hil : i ≤ l.length := by omega
      obtain ⟨m, hm'⟩ : ∃ m, l.length - i = m + 1 := ⟨l.length - i - 1, by omega⟩
      have ecut : zfd j 0 i l.length = .rs j i (m + 1) := by unfold zfd; rw [if_pos (.inr (by omega)), hm', Nat.zero_add]
      obtain ⟨rest, hcl⟩ : ∃ rest, zeO Tryz.prog τ.m 26 (.rs j i (m + 1)) = some (.wrv j ((l.filter fun r => !p r).map zac ++ rest) (.tup [])) := by
        have hle : i + (m + 1) ≤ q.length := by omega
        refine ⟨List.replicate (m + 1) (zac ⟨0, 0, 0, 0, ⟨0, 0⟩, 0⟩) ++ (q.map zac).drop (i + (m + 1)), ?_⟩
        rw [← hq1, List.map_take]
        simp [zeO, hmq, hj, zaE, cellOK, hle, zac]
      (try ((first | with_reducible refine zk ?_ | with_reducible refine zm ?_ | with_reducible refine zo ?_); simp [a0, a1, a6, a5, hj, hil, ecut, hcl])); repeat' (first | ((first | refine zd ?_ | refine zh ?_ | refine dN (by decide +kernel) ?_ | (refine za ?_ ?_ <;> (intro hg; simp only [hg])) | fail) <;> simp [a0, a1, a6, a5, hj, hil, ecut, hcl]) | refine zg ?_ | refine zc ?_ | (refine zs ?_; simp only [zt]; try simp) | (refine zb (fun hc => ?_) (fun hc => ?_) <;> try simp at hc) | fail)
      have ec0 : zfd j 0 0 i = .rs j 0 ((l.filter fun r => !p r).map zac).length := by
        unfold zfd; rw [if_pos (.inl rfl), List.length_map, hii]; simp
      exact zaF (.inr rfl) (x := zfd j 0 0 i) (by simp) (by
        rw [ec0]
        exact h _ _ (.inr ⟨j, rest, rfl, hj, zmf hmq, hn⟩) (Ext.setF hE hn))
end Go.Proofs.YtanimmdlgmkmkaaGreat.Av
namespace Go.Proofs.YtanimmdlgmkmkaaGreat.Av
open Go
set_option linter.unusedSimpArgs false
set_option linter.unusedVariables false
set_option maxRecDepth 100000
set_option maxHeartbeats 2000000
set_option pp.maxSteps 300
theorem zjy {g : FuncId} {caps : List AV} {p : Ru → Bool} (r : Ru) (hg : PCalls Tryz.prog g (zac r :: caps) (.raw (.bool (p r)))) : PCalls Tryz.prog 233 [zac r, .pp [.fn (.func g) [] caps] 0] (.raw (.bool (!p r))) := by
  refine zK Tryz.func233 rfl (N := 8) rfl rfl (by simp) (by simp [noIds]) fun σ => ?_
  (try ((first | with_reducible refine zk ?_ | with_reducible refine zm ?_ | with_reducible refine zo ?_); simp [zF, zam])); repeat' (first | ((first | refine zd ?_ | refine zh ?_ | refine dN (by decide +kernel) ?_ | (refine za ?_ ?_ <;> (intro hg; simp only [hg])) | fail) <;> simp [zF, zam]) | refine zg ?_ | refine zc ?_ | (refine zs ?_; simp only [zt]; try simp) | ((first | refine zl (by simp) ?_ | refine zw (by simp) (by simp) (by simp (maxDischargeDepth := 30) [zF, zam]) ?_ | fail); simp) | (refine zb (fun hc => ?_) (fun hc => ?_) <;> try simp at hc) | fail)
  rw [zP]
  refine PCalls.use hg ?_
  (try ((first | with_reducible refine zk ?_ | with_reducible refine zm ?_ | with_reducible refine zo ?_); simp)); repeat' (first | ((first | refine zd ?_ | refine zh ?_ | refine dN (by decide +kernel) ?_ | (refine za ?_ ?_ <;> (intro hg; simp only [hg])) | fail) <;> simp) | refine zg ?_ | refine zc ?_ | (refine zs ?_; simp only [zt]; try simp) | ((first | refine zl (by simp) ?_ | refine zw (by simp) (by simp) (by simp (maxDischargeDepth := 30)) ?_ | fail); simp) | (refine zb (fun hc => ?_) (fun hc => ?_) <;> try simp at hc) | fail)
theorem zhP {g : FuncId} {caps : List AV} {p : Ru → Bool} (l : List Ru) (f : Bool) (hl : l.length < 2932031007403) (hg : ∀ r ∈ l, PCalls Tryz.prog g (zac r :: caps) (.raw (.bool (p r)))) :
    PCalls Tryz.prog 215 [zE l f, .fn (.func g) [] caps] (.tup [zac (zbm (l.filter p)), .raw (.bool (l.any p))]) := by
  refine zK Tryz.func215 rfl (N := 16) rfl rfl (by simp) (by simp [noIds, zac]) fun σ => ?_
  repeat (refine zg ?_)
  refine zh ?_
  simp
  refine zY ⟨3, σ.nx 3, 1⟩ ?_
  generalize hτ : St.del _ _ = τ
  generalize hA : (fun t => zD _ _ _) = A
  have a0 : A 0 = zE l f := by rw [← hA]; simp [zE]
  have a3 : A 3 = .pp [.fn (.func g) [] caps] 0 := by rw [← hA, ← hτ]; simp [zD, St.new, St.del]
  have a4 : A 4 = .rp ⟨4, σ.nx 4, 7⟩ 0 0 := by rw [← hA, ← hτ]; simp [zD, St.new, St.del]
  have m4 : τ.m ⟨4, σ.nx 4, 7⟩ = some (.buf [zac ⟨0, 0, 0, 0, ⟨0, 0⟩, 0⟩]) := by rw [← hτ]; simp [St.new, St.del, zac]
  have hE : Ext σ τ := by
    rw [← hτ]
    refine ⟨fun i o h => ?_, fun s => ?_⟩
    · rw [zag (fun e => by rw [e, zf] at h; cases h)]
      exact zaR _ _ (zaR _ _ h)
    · exact Nat.le_trans (St.new_le σ 3 1 (.buf [.fn (.func g) [] caps]) s) (St.new_le (σ.new 3 1 (.buf [.fn (.func g) [] caps])) 4 7 (.buf [zac ⟨0, 0, 0, 0, ⟨0, 0⟩, 0⟩]) s)
  clear hτ hA
  have f4 : σ.m ⟨4, σ.nx 4, 7⟩ = none := zf _ _ _
  (try ((first | with_reducible refine zk ?_ | with_reducible refine zm ?_ | with_reducible refine zo ?_); simp [a0, a3, a4, m4])); repeat' (first | ((first | refine zd ?_ | refine zh ?_ | refine dN (by decide +kernel) ?_ | (refine za ?_ ?_ <;> (intro hg; simp only [hg])) | fail) <;> simp [a0, a3, a4, m4]) | refine zg ?_ | refine zc ?_ | (refine zs ?_; simp only [zt]; try simp) | ((first | refine zl (by simp) ?_ | refine zw (by simp) (by simp) (by simp (maxDischargeDepth := 30) [a0, a3, a4, m4]) ?_ | fail); simp) | (refine zb (fun hc => ?_) (fun hc => ?_) <;> try simp at hc) | fail)
  refine zkk l f hl fun v τ1 hO hE1 => ?_
  (try ((first | with_reducible refine zk ?_ | with_reducible refine zm ?_ | with_reducible refine zo ?_); simp [a0, a3, a4])); repeat' (first | ((first | refine zd ?_ | refine zh ?_ | refine dN (by decide +kernel) ?_ | (refine za ?_ ?_ <;> (intro hg; simp only [hg])) | fail) <;> simp [a0, a3, a4]) | refine zg ?_ | refine zc ?_ | (refine zs ?_; simp only [zt]; try simp) | ((first | refine zl (by simp) ?_ | refine zw (by simp) (by simp) (by simp (maxDischargeDepth := 30) [a0, a3, a4]) ?_ | fail); simp) | (refine zb (fun hc => ?_) (fun hc => ?_) <;> try simp at hc) | fail)
  refine zk9 (σ0 := τ) l hO hE1 hl (fun r hr => zjy r (hg r hr)) fun v' τ2 hP hE2 => ?_
  have hfl : (l.filter fun r => !(!p r)) = l.filter p := by simp
  rw [hfl] at hP
  have m4' : τ2.m ⟨4, σ.nx 4, 7⟩ = some (.buf [zac ⟨0, 0, 0, 0, ⟨0, 0⟩, 0⟩]) := hE2.m _ _ m4
  have hE3 : Ext σ τ2 := hE.trans hE2
  cases ha : l.any p with
  | false =>
    have hnil : l.filter p = [] := by
      rw [List.filter_eq_nil_iff]
      intro r hr
      rw [List.any_eq_false] at ha
      exact ha r hr
    rw [hnil] at hP ⊢
    have hlen : ∃ z, (v' = .sl 0 [] true ∨ v' = .rs z 0 0) := by
      rcases hP with ⟨_, h⟩ | ⟨z, rest, h, _⟩
      · exact ⟨⟨0, 0, 0⟩, .inl h⟩
      · exact ⟨z, .inr h⟩
    have hz : setPart (zac ⟨0, 0, 0, 0, ⟨0, 0⟩, 0⟩) 0 [.raw (.int .i64 0), .raw (.int .i64 0), .raw (.int .i64 0), .raw (.int .i64 0), .raw (.int .u32 0), .raw (.int .u32 0), .raw (.int .i64 0)] = zac ⟨0, 0, 0, 0, ⟨0, 0⟩, 0⟩ := rfl
    obtain ⟨z, rfl | rfl⟩ := hlen
    · (try ((first | with_reducible refine zk ?_ | with_reducible refine zm ?_ | with_reducible refine zo ?_); simp [a0, a3, a4, m4'])); repeat' (first | ((first | refine zd ?_ | refine zh ?_ | refine dN (by decide +kernel) ?_ | (refine za ?_ ?_ <;> (intro hg; simp only [hg])) | fail) <;> simp [a0, a3, a4, m4']) | refine zg ?_ | refine zc ?_ | (refine zs ?_; simp only [zt]; try simp) | (refine zb (fun hc => ?_) (fun hc => ?_) <;> try simp at hc) | fail)
      exact zw (.inr rfl) rfl (hE3.setF f4) (by simp [a4, m4', St.set, zbm, hz, zF]; rfl)
    · (try ((first | with_reducible refine zk ?_ | with_reducible refine zm ?_ | with_reducible refine zo ?_); simp [a0, a3, a4, m4'])); repeat' (first | ((first | refine zd ?_ | refine zh ?_ | refine dN (by decide +kernel) ?_ | (refine za ?_ ?_ <;> (intro hg; simp only [hg])) | fail) <;> simp [a0, a3, a4, m4']) | refine zg ?_ | refine zc ?_ | (refine zs ?_; simp only [zt]; try simp) | (refine zb (fun hc => ?_) (fun hc => ?_) <;> try simp at hc) | fail)
      exact zw (.inr rfl) rfl (hE3.setF f4) (by simp [a4, m4', St.set, zbm, hz, zF]; rfl)
  | true =>
    have hne : l.filter p ≠ [] := by
      intro e
      rw [List.filter_eq_nil_iff] at e
      obtain ⟨r, hr, h⟩ := List.any_eq_true.1 ha
      exact e r hr h
    have hlf : (l.filter p).length ≤ l.length := List.length_filter_le _ _
    have hmin := zkl (l.filter p) hne false (by omega)
    have hpos : 0 < (l.filter p).length := List.length_pos_iff.2 hne
    have hP' := hP
    rcases hP with ⟨h, _⟩ | ⟨z, rest, rfl, hz7, hz, hzn⟩
    · exact absurd (by simpa using h) hne
    rw [List.length_map] at hP' ⊢
    have hl0 : ¬ ((l.filter p).length = 0) := by omega
    (try ((first | with_reducible refine zk ?_ | with_reducible refine zm ?_ | with_reducible refine zo ?_); simp [a0, a3, a4, m4', hl0])); repeat' (first | ((first | refine zd ?_ | refine zh ?_ | refine dN (by decide +kernel) ?_ | (refine za ?_ ?_ <;> (intro hg; simp only [hg])) | fail) <;> simp [a0, a3, a4, m4', hl0]) | refine zg ?_ | refine zc ?_ | (refine zs ?_; simp only [zt]; try simp) | ((first | refine zl (by simp) ?_ | refine zw (by simp) (by simp) (by simp (maxDischargeDepth := 30) [a0, a3, a4, m4', hl0]) ?_ | fail); simp) | (refine zb (fun hc => ?_) (fun hc => ?_) <;> try simp at hc) | fail)
    refine PCalls.useP hmin rfl hP' ?_
    (try ((first | with_reducible refine zk ?_ | with_reducible refine zm ?_ | with_reducible refine zo ?_); simp [a0, a3, a4, m4', zF, zbE])); repeat' (first | ((first | refine zd ?_ | refine zh ?_ | refine dN (by decide +kernel) ?_ | (refine za ?_ ?_ <;> (intro hg; simp only [hg])) | fail) <;> simp [a0, a3, a4, m4', zF, zbE]) | refine zg ?_ | refine zc ?_ | (refine zs ?_; simp only [zt]; try simp) | (refine zb (fun hc => ?_) (fun hc => ?_) <;> try simp at hc) | fail)
    exact zw (.inr rfl) rfl (hE3.setF f4) (by simp [a4, m4', St.set, zF]; exact zP _)
def zfr (d a : Int) (r : Ru) : Bool := decide (1 < r.kind) && zfM r d a
def zfs (d a : Int) (r : Ru) : Bool := decide (r.kind ≤ 1) && zfM r d a
theorem zmO (r : Ru) (d a : Int) : PCalls Tryz.prog 216 [zac r, .pp [.raw (.int .i64 d)] 0, .pp [.raw (.int .u32 a)] 0] (.raw (.bool (zfr d a r))) := by
  refine zK Tryz.func216 rfl (N := 14) rfl rfl (by simp) (by simp [noIds]) fun σ => ?_
  obtain ⟨b, hb⟩ : ∃ b, decide (1 < r.kind) = b := ⟨_, rfl⟩
  unfold zfr
  rw [hb]
  (try ((first | with_reducible refine zk ?_ | with_reducible refine zm ?_ | with_reducible refine zo ?_); simp [zF, zam, hb, zP])); repeat' (first | ((first | refine zd ?_ | refine zh ?_ | refine dN (by decide +kernel) ?_ | (refine za ?_ ?_ <;> (intro hg; simp only [hg])) | fail) <;> simp [zF, zam, hb, zP]) | refine zg ?_ | refine zc ?_ | (refine zs ?_; simp only [zt]; try simp) | ((first | refine zl (by simp) ?_ | refine zw (by simp) (by simp) (by simp (maxDischargeDepth := 30) [zF, zam, hb, zP]) ?_ | fail); simp) | (refine zb (fun hc => ?_) (fun hc => ?_) <;> try simp at hc) | fail)
  refine PCalls.use (zhN r d a) ?_
  (try ((first | with_reducible refine zk ?_ | with_reducible refine zm ?_ | with_reducible refine zo ?_); simp)); repeat' (first | ((first | refine zd ?_ | refine zh ?_ | refine dN (by decide +kernel) ?_ | (refine za ?_ ?_ <;> (intro hg; simp only [hg])) | fail) <;> simp) | refine zg ?_ | refine zc ?_ | (refine zs ?_; simp only [zt]; try simp) | ((first | refine zl (by simp) ?_ | refine zw (by simp) (by simp) (by simp (maxDischargeDepth := 30)) ?_ | fail); simp) | (refine zb (fun hc => ?_) (fun hc => ?_) <;> try simp at hc) | fail)
theorem zmP (r : Ru) (d a : Int) : PCalls Tryz.prog 218 [zac r, .pp [.raw (.int .i64 d)] 0, .pp [.raw (.int .u32 a)] 0] (.raw (.bool (zfs d a r))) := by
  refine zK Tryz.func218 rfl (N := 14) rfl rfl (by simp) (by simp [noIds]) fun σ => ?_
  obtain ⟨b, hb⟩ : ∃ b, decide (r.kind ≤ 1) = b := ⟨_, rfl⟩
  unfold zfs
  rw [hb]
  (try ((first | with_reducible refine zk ?_ | with_reducible refine zm ?_ | with_reducible refine zo ?_); simp [zF, zam, hb, zP])); repeat' (first | ((first | refine zd ?_ | refine zh ?_ | refine dN (by decide +kernel) ?_ | (refine za ?_ ?_ <;> (intro hg; simp only [hg])) | fail) <;> simp [zF, zam, hb, zP]) | refine zg ?_ | refine zc ?_ | (refine zs ?_; simp only [zt]; try simp) | ((first | refine zl (by simp) ?_ | refine zw (by simp) (by simp) (by simp (maxDischargeDepth := 30) [zF, zam, hb, zP]) ?_ | fail); simp) | (refine zb (fun hc => ?_) (fun hc => ?_) <;> try simp at hc) | fail)
  refine PCalls.use (zhN r d a) ?_
  (try ((first | with_reducible refine zk ?_ | with_reducible refine zm ?_ | with_reducible refine zo ?_); simp)); repeat' (first | ((first | refine zd ?_ | refine zh ?_ | refine dN (by decide +kernel) ?_ | (refine za ?_ ?_ <;> (intro hg; simp only [hg])) | fail) <;> simp) | refine zg ?_ | refine zc ?_ | (refine zs ?_; simp only [zt]; try simp) | ((first | refine zl (by simp) ?_ | refine zw (by simp) (by simp) (by simp (maxDischargeDepth := 30)) ?_ | fail); simp) | (refine zb (fun hc => ?_) (fun hc => ?_) <;> try simp at hc) | fail)
end Go.Proofs.YtanimmdlgmkmkaaGreat.Av
namespace Go.Proofs.YtanimmdlgmkmkaaGreat.Av
open Go
set_option linter.unusedSimpArgs false
set_option linter.unusedVariables false
set_option maxRecDepth 100000
set_option maxHeartbeats 4000000
set_option pp.maxSteps 300
def zbi (d a : Int) (acl : Bool) (r : Ru) : Bool := decide (r.dev = d) && (!decide (a < r.r.lo) && (!decide (r.r.hi < a) && ((decide (r.kind = 2) || decide (r.kind = 3)) == acl)))
def zeP (x m : Ru) : Bool := decide (m.prio < x.prio) || (decide (x.prio = m.prio) && decide (x.id < m.id))
theorem ziY (x m : Ru) : zdP x m < 0 ↔ zeP x m = true := by
  unfold zdP cmpI zeP
  simp only [Bool.or_eq_true, Bool.and_eq_true, decide_eq_true_eq]
  repeat' split
  all_goals omega
theorem zjZ (z : List Ru) (x : Ru) : zbm (z ++ [x]) = if z = [] then x else if zeP x (zbm z) = true then x else zbm z := by
  cases z with
  | nil => rfl
  | cons r l =>
    simp only [reduceCtorEq, if_false, List.cons_append, zbm, List.foldl_append, List.foldl_cons, List.foldl_nil]
    by_cases h : zdP x (l.foldl (fun m x => if zdP x m < 0 then x else m) r) < 0
    · rw [if_pos h]; exact (if_pos ((ziY _ _).1 h)).symm
    · rw [if_neg h]; exact (if_neg (fun q => h ((ziY _ _).2 q))).symm
theorem pb1 : ∀ b1 b2 b3 b4 b5 acl : Bool, b4 = false → ¬ b5 = acl → (b1 && (!b2 && (!b3 && ((b4 || b5) == acl)))) = false := by decide
theorem pb2 : ∀ b1 b2 b3 b4 b5 acl : Bool, b4 = !false → acl = false → (b1 && (!b2 && (!b3 && ((b4 || b5) == acl)))) = false := by decide
theorem pb3 : ∀ b1 b2 b3 b4 b5 acl : Bool, b3 = !false → (b1 && (!b2 && (!b3 && ((b4 || b5) == acl)))) = false := by decide
theorem pb4 : ∀ b1 b2 b3 b4 b5 acl : Bool, b2 = !false → (b1 && (!b2 && (!b3 && ((b4 || b5) == acl)))) = false := by decide
theorem pb5 : ∀ b1 b2 b3 b4 b5 acl : Bool, (!b1) = !false → (b1 && (!b2 && (!b3 && ((b4 || b5) == acl)))) = false := by decide
theorem pb6 : ∀ b1 b2 b3 b4 b5 acl : Bool, b4 = false → (!b1) = false → b2 = false → b3 = false → b5 = acl → (b1 && (!b2 && (!b3 && ((b4 || b5) == acl)))) = true := by decide
theorem pb7 : ∀ b1 b2 b3 b4 b5 acl : Bool, b4 = !false → (!b1) = false → b2 = false → b3 = false → acl = true → (b1 && (!b2 && (!b3 && ((b4 || b5) == acl)))) = true := by decide
theorem pc1 : ∀ b6 b7 b8 : Bool, b6 = !false → (b6 || (b7 && b8)) = true := by decide
theorem pc2 : ∀ b6 b7 b8 : Bool, b7 = true → b8 = true → (b6 || (b7 && b8)) = true := by decide
theorem pc3 : ∀ b6 b7 b8 : Bool, b6 = false → b7 = !true → (b6 || (b7 && b8)) = false := by decide
theorem pc4 : ∀ b6 b7 b8 : Bool, b6 = false → b8 = false → (b6 || (b7 && b8)) = false := by decide
theorem zfP (l : List Ru) (f : Bool) (d a : Int) (acl : Bool) (hl : l.length < 2932031007403) :
    PCalls Tryz.prog 202 [zE l f, .raw (.int .i64 d), .raw (.int .u32 a), .raw (.bool acl)] (.tup [zac (zbm (l.filter (zbi d a acl))), .raw (.bool (l.any (zbi d a acl)))]) := by
  refine zK Tryz.func202 rfl (N := 83) rfl rfl (by simp) (by simp [noIds, zac]) fun σ => ?_
  have hz : setPart (zac ⟨0, 0, 0, 0, ⟨0, 0⟩, 0⟩) 0 [.raw (.int .i64 0), .raw (.int .i64 0), .raw (.int .i64 0), .raw (.int .i64 0), .raw (.int .u32 0), .raw (.int .u32 0), .raw (.int .i64 0)] = zac ⟨0, 0, 0, 0, ⟨0, 0⟩, 0⟩ := rfl
  (try ((first | with_reducible refine zk ?_ | with_reducible refine zm ?_ | with_reducible refine zo ?_); simp [zE])); repeat' (first | ((first | refine zd ?_ | refine zh ?_ | refine dN (by decide +kernel) ?_ | (refine za ?_ ?_ <;> (intro hg; simp only [hg])) | fail) <;> simp [zE]) | refine zg ?_ | refine zc ?_ | (refine zs ?_; simp only [zt]; try simp) | ((first | refine zl (by simp) ?_ | refine zw (by simp) (by simp) (by simp (maxDischargeDepth := 30) [zE]) ?_ | fail); simp) | (refine zb (fun hc => ?_) (fun hc => ?_) <;> try simp at hc) | fail)
  refine zab (fun n A τ => Ext σ τ ∧ A 0 = zE l f ∧ A 1 = .raw (.int .i64 d) ∧ A 2 = .raw (.int .u32 a) ∧ A 3 = .raw (.bool acl) ∧ A 8 = .rp ⟨8, σ.nx 8, 7⟩ 0 0 ∧ A 10 = .rp ⟨10, σ.nx 10, 7⟩ 0 0 ∧
    τ.m ⟨8, σ.nx 8, 7⟩ = some (.buf [zac ⟨0, 0, 0, 0, ⟨0, 0⟩, 0⟩]) ∧ ∃ (i : Nat) (q : List Ru), q = (l.take i).filter (zbi d a acl) ∧ τ.m ⟨10, σ.nx 10, 7⟩ = some (.buf [zac (zbm q)]) ∧
      A 12 = .raw (.int .i64 i) ∧ A 11 = .raw (.bool (!q.isEmpty)) ∧ i ≤ l.length ∧ n = l.length - i) l.length ?_ ?_
  · refine ⟨by simp (maxDischargeDepth := 30), by simp [zE], by simp, by simp, by simp, by simp, by simp [St.new], by simp [St.new, zac], 0, [], by simp, by simp [St.new, zac, zbm], by simp, by simp, by omega, by omega⟩
  rintro n A τ ⟨hE, a0, a1, a2, a3, a8, a10, m8, i, q, hq, m10, a12, a11, hi, rfl⟩ I1 hI1
  have f8 : σ.m ⟨8, σ.nx 8, 7⟩ = none := zf _ _ _
  have f10 : σ.m ⟨10, σ.nx 10, 7⟩ = none := zf _ _ _
  by_cases hlt : i < l.length
  · have hx : l[i]? = some l[i] := List.getElem?_eq_getElem hlt
    have w1 : IntKind.i64.wrap ((i : Int) + 1) = ((i + 1 : Nat) : Int) := by rw [zU (by omega) (by omega)]; omega
    have htk : (l.take (i + 1)).filter (zbi d a acl) = q ++ if zbi d a acl l[i] = true then [l[i]] else [] := by
      rw [List.take_add_one, hx, List.filter_append, hq]
      congr 1
      cases hb : zbi d a acl l[i] <;> simp [hb]
    obtain ⟨m, hmm⟩ : ∃ m, zbm q = m := ⟨_, rfl⟩
    rw [hmm] at m10
    obtain ⟨e', he⟩ : ∃ e', q.isEmpty = e' := ⟨_, rfl⟩
    rw [he] at a11
    have n8 : (⟨8, σ.nx 8, 7⟩ : Id) ≠ ⟨13, τ.nx 13, 7⟩ := by simp
    obtain ⟨b1, h1⟩ : ∃ b, decide (l[i].dev = d) = b := ⟨_, rfl⟩
    obtain ⟨b2, h2⟩ : ∃ b, decide (a < l[i].r.lo) = b := ⟨_, rfl⟩
    obtain ⟨b3, h3⟩ : ∃ b, decide (l[i].r.hi < a) = b := ⟨_, rfl⟩
    obtain ⟨b4, h4⟩ : ∃ b, decide (l[i].kind = 2) = b := ⟨_, rfl⟩
    obtain ⟨b5, h5⟩ : ∃ b, decide (l[i].kind = 3) = b := ⟨_, rfl⟩
    obtain ⟨b6, h6⟩ : ∃ b, decide (m.prio < l[i].prio) = b := ⟨_, rfl⟩
    obtain ⟨b7, h7⟩ : ∃ b, decide (l[i].prio = m.prio) = b := ⟨_, rfl⟩
    obtain ⟨b8, h8⟩ : ∃ b, decide (l[i].id < m.id) = b := ⟨_, rfl⟩
    have hp : zbi d a acl l[i] = (b1 && (!b2 && (!b3 && ((b4 || b5) == acl)))) := by unfold zbi; rw [h1, h2, h3, h4, h5]
    have hbt : zeP l[i] m = (b6 || (b7 && b8)) := by unfold zeP; rw [h6, h7, h8]
    have h1' : decide (¬ l[i].dev = d) = !b1 := by rw [← h1]; simp
    have fin : ∀ (q' : List Ru) (A' : zQ) (τ' : St), Ext σ τ' → A' 0 = zE l f → A' 1 = .raw (.int .i64 d) → A' 2 = .raw (.int .u32 a) → A' 3 = .raw (.bool acl) → A' 8 = .rp ⟨8, σ.nx 8, 7⟩ 0 0 → A' 10 = .rp ⟨10, σ.nx 10, 7⟩ 0 0 →
        τ'.m ⟨8, σ.nx 8, 7⟩ = some (.buf [zac ⟨0, 0, 0, 0, ⟨0, 0⟩, 0⟩]) → q' = (l.take (i + 1)).filter (zbi d a acl) → τ'.m ⟨10, σ.nx 10, 7⟩ = some (.buf [zac (zbm q')]) →
        A' 12 = .raw (.int .i64 ((i : Int) + 1)) → A' 11 = .raw (.bool (!q'.isEmpty)) → I1 A' τ' := fun q' A' τ' x1 x2 x3 x4 x5 x6 x7 x8 x9 x10 x11 x12 =>
      hI1 (l.length - (i + 1)) _ _ (by omega) ⟨x1, x2, x3, x4, x5, x6, x7, x8, i + 1, q', x9, x10, by simpa using x11, x12, by omega, rfl⟩
    (try ((first | with_reducible refine zk ?_ | with_reducible refine zm ?_ | with_reducible refine zo ?_); simp [zE, a0, a1, a2, a3, a8, a10, a11, a12, hlt, hx, m8, m10, zF, zam, zP, zbE, w1, h1, h2, h3, h4, h5, h6, h7, h8, h1'])); repeat' (first | ((first | refine zd ?_ | refine zh ?_ | refine dN (by decide +kernel) ?_ | (refine za ?_ ?_ <;> (intro hg; simp only [hg])) | fail) <;> simp [zE, a0, a1, a2, a3, a8, a10, a11, a12, hlt, hx, m8, m10, zF, zam, zP, zbE, w1, h1, h2, h3, h4, h5, h6, h7, h8, h1']) | refine zg ?_ | refine zc ?_ | (refine zs ?_; simp only [zt]; try simp) | ((first | refine zl (by simp) ?_ | refine zw (by simp) (by simp) (by simp (maxDischargeDepth := 30) [zE, a0, a1, a2, a3, a8, a10, a11, a12, hlt, hx, m8, m10, zF, zam, zP, zbE, w1, h1, h2, h3, h4, h5, h6, h7, h8, h1']) ?_ | fail); simp) | (refine zb (fun hc => ?_) (fun hc => ?_) <;> try simp at hc) | fail)
    all_goals first
      | (have e : zbi d a acl l[i] = false := by
           rw [hp]; first | exact pb1 _ _ _ _ _ _ ‹_› ‹_› | exact pb2 _ _ _ _ _ _ ‹_› ‹_› | exact pb3 _ _ _ _ _ _ ‹_› | exact pb4 _ _ _ _ _ _ ‹_› | exact pb5 _ _ _ _ _ _ ‹_›
         exact fin q _ _ (by simp [hE]) (by simp [a0]) (by simp [a1]) (by simp [a2]) (by simp [a3]) (by simp [a8]) (by simp [a10]) (by simp [St.new, m8]) (by rw [htk, e]; simp) (by simp [St.new, m10, hmm]) (by simp) (by simp [a11, he]))
      | (have e : zbi d a acl l[i] = true := by
           rw [hp]; first | exact pb6 _ _ _ _ _ _ ‹_› ‹_› ‹_› ‹_› ‹_› | exact pb7 _ _ _ _ _ _ ‹_› ‹_› ‹_› ‹_› ‹_›
         first
         | (have hm' : zbm (q ++ [l[i]]) = l[i] := by
              rw [zjZ, hmm]
              first
              | rw [if_pos (by rw [← List.isEmpty_iff, he]; assumption)]
              | (rw [if_pos (c := zeP l[i] m = true) (by rw [hbt]; first | exact pc1 _ _ _ ‹_› | exact pc2 _ _ _ ‹_› ‹_›)]; split <;> rfl)
            exact fin (q ++ [l[i]]) _ _ (Ext.setF (by simp [hE]) f10) (by simp [a0]) (by simp [a1]) (by simp [a2]) (by simp [a3]) (by simp [a8]) (by simp [a10]) (by simp [St.set, St.new, m8]) (by rw [htk, e]; simp) (by simp [St.set, St.new, m10, hm']) (by simp) (by simp))
         | (have e0 : e' = false := ‹_›
            have hq0 : q ≠ [] := fun h => by rw [← List.isEmpty_iff, he, e0] at h; cases h
            have hm' : zbm (q ++ [l[i]]) = m := by
              rw [zjZ, hmm, if_neg hq0, if_neg]
              rw [hbt]; first | (rw [pc3 _ _ _ ‹_› ‹_›]; simp) | (rw [pc4 _ _ _ ‹_› ‹_›]; simp)
            exact fin (q ++ [l[i]]) _ _ (by simp [hE]) (by simp [a0]) (by simp [a1]) (by simp [a2]) (by simp [a3]) (by simp [a8]) (by simp [a10]) (by simp [St.new, m8]) (by rw [htk, e]; simp) (by simp [St.new, m10, hm']) (by simp) (by simp [a11, e0])))
  · have : i = l.length := by omega
    subst this
    rw [List.take_length] at hq
    subst hq
    have hem : (!(l.filter (zbi d a acl)).isEmpty) = l.any (zbi d a acl) := by
      rw [Bool.eq_iff_iff]; simp [List.isEmpty_iff, List.filter_eq_nil_iff]
    rw [hem] at a11
    (try ((first | with_reducible refine zk ?_ | with_reducible refine zm ?_ | with_reducible refine zo ?_); simp [zE, a0, a8, a10, a11, a12, m8, m10, zF, zam, zP, zbE])); repeat' (first | ((first | refine zd ?_ | refine zh ?_ | refine dN (by decide +kernel) ?_ | (refine za ?_ ?_ <;> (intro hg; simp only [hg])) | fail) <;> simp [zE, a0, a8, a10, a11, a12, m8, m10, zF, zam, zP, zbE]) | refine zg ?_ | refine zc ?_ | (refine zs ?_; simp only [zt]; try simp) | (refine zb (fun hc => ?_) (fun hc => ?_) <;> try simp at hc) | fail)
    exact zw (.inr rfl) rfl (hE.setF f8) (by simp [a8, m8, St.set, zF]; exact zP _)
end Go.Proofs.YtanimmdlgmkmkaaGreat.Av
namespace Go.Proofs.YtanimmdlgmkmkaaGreat.Av
open Go
set_option linter.unusedSimpArgs false
set_option linter.unusedVariables false
set_option maxRecDepth 100000
set_option maxHeartbeats 2000000
set_option pp.maxSteps 300
def zdQ (l : List Ru) (d a : Int) : Bool := l.any (zbi d a true) && decide ((zbm (l.filter (zbi d a true))).kind = 3)
theorem ziZ (l : List Ru) (f : Bool) (d a : Int) (hl : l.length < 2932031007403) : PCalls Tryz.prog 169 [zE l f, .raw (.int .i64 d), .raw (.int .u32 a)] (.raw (.bool (zdQ l d a))) := by
  have hf := zfP l f d a true hl
  unfold zdQ
  obtain ⟨b, hb⟩ : ∃ b, l.any (zbi d a true) = b := ⟨_, rfl⟩
  obtain ⟨m, hmm⟩ : ∃ m, zbm (l.filter (zbi d a true)) = m := ⟨_, rfl⟩
  rw [hb, hmm] at hf ⊢
  refine zK Tryz.func169 rfl (N := 22) rfl rfl (by simp) (by simp [noIds]) fun σ => ?_
  (try ((first | with_reducible refine zk ?_ | with_reducible refine zm ?_ | with_reducible refine zo ?_); simp)); repeat' (first | ((first | refine zd ?_ | refine zh ?_ | refine dN (by decide +kernel) ?_ | (refine za ?_ ?_ <;> (intro hg; simp only [hg])) | fail) <;> simp) | refine zg ?_ | refine zc ?_ | (refine zs ?_; simp only [zt]; try simp) | ((first | refine zl (by simp) ?_ | refine zw (by simp) (by simp) (by simp (maxDischargeDepth := 30)) ?_ | fail); simp) | (refine zb (fun hc => ?_) (fun hc => ?_) <;> try simp at hc) | fail)
  refine PCalls.use hf ?_
  (try ((first | with_reducible refine zk ?_ | with_reducible refine zm ?_ | with_reducible refine zo ?_); simp [zF, zam, zP])); repeat' (first | ((first | refine zd ?_ | refine zh ?_ | refine dN (by decide +kernel) ?_ | (refine za ?_ ?_ <;> (intro hg; simp only [hg])) | fail) <;> simp [zF, zam, zP]) | refine zg ?_ | refine zc ?_ | (refine zs ?_; simp only [zt]; try simp) | ((first | refine zl (by simp) ?_ | refine zw (by simp) (by simp) (by simp (maxDischargeDepth := 30) [zF, zam, zP]) ?_ | fail); simp) | (refine zb (fun hc => ?_) (fun hc => ?_) <;> try simp at hc) | fail)
theorem zjz (l : List Ru) (f : Bool) (d a : Int) (hl : l.length < 2932031007403) : PCalls Tryz.prog 170 [zE l f, .raw (.int .i64 d), .raw (.int .u32 a)] (.tup [zac (zbm (l.filter (zbi d a false))), .raw (.bool (l.any (zbi d a false)))]) := by
  have hf := zfP l f d a false hl
  obtain ⟨b, hb⟩ : ∃ b, l.any (zbi d a false) = b := ⟨_, rfl⟩
  obtain ⟨m, hmm⟩ : ∃ m, zbm (l.filter (zbi d a false)) = m := ⟨_, rfl⟩
  rw [hb, hmm] at hf ⊢
  refine zK Tryz.func170 rfl (N := 14) rfl rfl (by simp) (by simp [noIds, zac]) fun σ => ?_
  have hps : ∀ (q : Ru) (m : Ru), setPart (zac q) 0 [.raw (.int .i64 m.id), .raw (.int .i64 m.dev), .raw (.int .i64 m.prio), .raw (.int .i64 m.kind), .raw (.int .u32 m.r.lo), .raw (.int .u32 m.r.hi), .raw (.int .i64 m.port)] = zac m := fun _ _ => rfl
  (try ((first | with_reducible refine zk ?_ | with_reducible refine zm ?_ | with_reducible refine zo ?_); simp)); repeat' (first | ((first | refine zd ?_ | refine zh ?_ | refine dN (by decide +kernel) ?_ | (refine za ?_ ?_ <;> (intro hg; simp only [hg])) | fail) <;> simp) | refine zg ?_ | refine zc ?_ | (refine zs ?_; simp only [zt]; try simp) | ((first | refine zl (by simp) ?_ | refine zw (by simp) (by simp) (by simp (maxDischargeDepth := 30)) ?_ | fail); simp) | (refine zb (fun hc => ?_) (fun hc => ?_) <;> try simp at hc) | fail)
  refine PCalls.use hf ?_
  (try ((first | with_reducible refine zk ?_ | with_reducible refine zm ?_ | with_reducible refine zo ?_); simp [zF, zam, zP, hps])); repeat' (first | ((first | refine zd ?_ | refine zh ?_ | refine dN (by decide +kernel) ?_ | (refine za ?_ ?_ <;> (intro hg; simp only [hg])) | fail) <;> simp [zF, zam, zP, hps]) | refine zg ?_ | refine zc ?_ | (refine zs ?_; simp only [zt]; try simp) | (refine zb (fun hc => ?_) (fun hc => ?_) <;> try simp at hc) | fail)
  refine zw (.inr rfl) rfl (by repeat (first | exact Ext.refl _ | refine zu ?_ | refine Ext.setF ?_ (by simp [St.set, zf]))) ?_
  simp [St.set, St.new, zF]
  exact zP _
theorem zla {r : Ru} (h : 0 ≤ r.kind ∧ r.kind ≤ 3) (d a : Int) : zbi d a true r = zfr d a r := by
  unfold zbi zfr zfM
  rw [Bool.eq_iff_iff]
  simp
  omega
theorem zlb {r : Ru} (h : 0 ≤ r.kind ∧ r.kind ≤ 3) (d a : Int) : zbi d a false r = zfs d a r := by
  unfold zbi zfs zfM
  rw [Bool.eq_iff_iff]
  simp
  omega
theorem zl2 (z : List Int) (fz : Bool) (v : Int) (hl : z.length < 2 ^ 60) : PCalls Tryz.prog 154 [zq z fz, .raw (.int .i64 v)] (.raw (.int .i64 (idxOf (fun x => decide (v = x)) z))) := by
  refine zK Tryz.func154 rfl (N := 19) rfl rfl (by simp) (by simp [noIds]) fun σ => ?_
  (try ((first | with_reducible refine zk ?_ | with_reducible refine zm ?_ | with_reducible refine zo ?_); simp [zq])); repeat' (first | ((first | refine zd ?_ | refine zh ?_ | refine dN (by decide +kernel) ?_ | (refine za ?_ ?_ <;> (intro hg; simp only [hg])) | fail) <;> simp [zq]) | refine zg ?_ | refine zc ?_ | (refine zs ?_; simp only [zt]; try simp) | ((first | refine zl (by simp) ?_ | refine zw (by simp) (by simp) (by simp (maxDischargeDepth := 30) [zq]) ?_ | fail); simp) | (refine zb (fun hc => ?_) (fun hc => ?_) <;> try simp at hc) | fail)
  refine zab (fun n A τ => τ = σ ∧ A 0 = zq z fz ∧ A 1 = .raw (.int .i64 v) ∧ A 7 = .raw (.int .i64 z.length) ∧ ∃ i : Nat, A 8 = .raw (.int .i64 i) ∧ i ≤ z.length ∧ n = z.length - i ∧ ∀ j, j < i → ∀ y, z[j]? = some y → decide (v = y) = false) z.length ?_ ?_
  · exact ⟨rfl, by simp [zq], by simp, by simp, 0, by simp, by omega, by omega, fun j h => by omega⟩
  rintro n A τ ⟨rfl, a0, a1, a7, i, a8, hi, rfl, hn⟩ I1 hI1
  by_cases hlt : i < z.length
  · have hx : z[i]? = some z[i] := List.getElem?_eq_getElem hlt
    have w1 : IntKind.i64.wrap ((i : Int) + 1) = ((i + 1 : Nat) : Int) := by rw [zU (by omega) (by omega)]; omega
    by_cases hp : v = z[i]
    · (try ((first | with_reducible refine zk ?_ | with_reducible refine zm ?_ | with_reducible refine zo ?_); simp [zq, iAV, a0, a1, a7, a8, hlt, hx, hp])); repeat' (first | ((first | refine zd ?_ | refine zh ?_ | refine dN (by decide +kernel) ?_ | (refine za ?_ ?_ <;> (intro hg; simp only [hg])) | fail) <;> simp [zq, iAV, a0, a1, a7, a8, hlt, hx, hp]) | refine zg ?_ | refine zc ?_ | (refine zs ?_; simp only [zt]; try simp) | ((first | refine zl (by simp) ?_ | refine zw (by simp) (by simp) (by simp (maxDischargeDepth := 30) [zq, iAV, a0, a1, a7, a8, hlt, hx, hp]) ?_ | fail); simp) | (refine zb (fun hc => ?_) (fun hc => ?_) <;> try simp at hc) | fail)
      exact (zgi hx (by simpa using hp) hn).symm
    · (try ((first | with_reducible refine zk ?_ | with_reducible refine zm ?_ | with_reducible refine zo ?_); simp [zq, iAV, a0, a1, a7, a8, hlt, hx, hp])); repeat' (first | ((first | refine zd ?_ | refine zh ?_ | refine dN (by decide +kernel) ?_ | (refine za ?_ ?_ <;> (intro hg; simp only [hg])) | fail) <;> simp [zq, iAV, a0, a1, a7, a8, hlt, hx, hp]) | refine zg ?_ | refine zc ?_ | (refine zs ?_; simp only [zt]; try simp) | ((first | refine zl (by simp) ?_ | refine zw (by simp) (by simp) (by simp (maxDischargeDepth := 30) [zq, iAV, a0, a1, a7, a8, hlt, hx, hp]) ?_ | fail); simp) | (refine zb (fun hc => ?_) (fun hc => ?_) <;> try simp at hc) | fail)
      refine hI1 (z.length - (i + 1)) _ _ (by omega) ⟨rfl, by simp [a0, zq], by simp [a1], by simp [a7], i + 1, by simp [w1], by omega, rfl, fun j hj y hy => ?_⟩
      by_cases e : j = i
      · subst e; rw [hx] at hy; injection hy with hy; subst hy; simpa using hp
      · exact hn j (by omega) y hy
  · have hi' : i = z.length := by omega
    subst hi'
    have w1 : IntKind.i64.wrap (-1) = -1 := zU (by omega) (by omega)
    (try ((first | with_reducible refine zk ?_ | with_reducible refine zm ?_ | with_reducible refine zo ?_); simp [zq, a0, a1, a7, a8, w1])); repeat' (first | ((first | refine zd ?_ | refine zh ?_ | refine dN (by decide +kernel) ?_ | (refine za ?_ ?_ <;> (intro hg; simp only [hg])) | fail) <;> simp [zq, a0, a1, a7, a8, w1]) | refine zg ?_ | refine zc ?_ | (refine zs ?_; simp only [zt]; try simp) | ((first | refine zl (by simp) ?_ | refine zw (by simp) (by simp) (by simp (maxDischargeDepth := 30) [zq, a0, a1, a7, a8, w1]) ?_ | fail); simp) | (refine zb (fun hc => ?_) (fun hc => ?_) <;> try simp at hc) | fail)
    exact (zgj hn).1.symm
theorem zdc (z : List Int) (fz : Bool) (v : Int) (hl : z.length < 2 ^ 60) : PCalls Tryz.prog 102 [zq z fz, .raw (.int .i64 v)] (.raw (.bool (z.any fun x => decide (v = x)))) := by
  refine zK Tryz.func102 rfl (N := 9) rfl rfl (by simp) (by simp [noIds]) fun σ => ?_
  (try ((first | with_reducible refine zk ?_ | with_reducible refine zm ?_ | with_reducible refine zo ?_); simp)); repeat' (first | ((first | refine zd ?_ | refine zh ?_ | refine dN (by decide +kernel) ?_ | (refine za ?_ ?_ <;> (intro hg; simp only [hg])) | fail) <;> simp) | refine zg ?_ | refine zc ?_ | (refine zs ?_; simp only [zt]; try simp) | ((first | refine zl (by simp) ?_ | refine zw (by simp) (by simp) (by simp (maxDischargeDepth := 30)) ?_ | fail); simp) | (refine zb (fun hc => ?_) (fun hc => ?_) <;> try simp at hc) | fail)
  refine PCalls.use (zl2 z fz v hl) ?_
  have := zjX (fun x => decide (v = x)) z
  (try ((first | with_reducible refine zk ?_ | with_reducible refine zm ?_ | with_reducible refine zo ?_); simp)); repeat' (first | ((first | refine zd ?_ | refine zh ?_ | refine dN (by decide +kernel) ?_ | (refine za ?_ ?_ <;> (intro hg; simp only [hg])) | fail) <;> simp) | refine zg ?_ | refine zc ?_ | (refine zs ?_; simp only [zt]; try simp) | ((first | refine zl (by simp) ?_ | refine zw (by simp) (by simp) (by simp (maxDischargeDepth := 30)) ?_ | fail); simp) | (refine zb (fun hc => ?_) (fun hc => ?_) <;> try simp at hc) | fail)
  simpa using this
end Go.Proofs.YtanimmdlgmkmkaaGreat.Av
namespace Go.Proofs.YtanimmdlgmkmkaaGreat.Av
set_option linter.unusedSimpArgs false
set_option linter.unusedVariables false
inductive Tr where
  | nil
  | node (l : Tr) (k v : Int) (r : Tr)
namespace Tr
def ht : Tr → Int
  | nil => 0
  | node l _ _ r => 1 + max l.ht r.ht
def sz : Tr → Int
  | nil => 0
  | node l _ _ r => 1 + l.sz + r.sz
def toL : Tr → List (Int × Int)
  | nil => []
  | node l k v r => l.toL ++ (k, v) :: r.toL
theorem ht_nn : ∀ t : Tr, 0 ≤ t.ht
  | nil => by simp [ht]
  | node l k v r => by have := ht_nn l; have := ht_nn r; simp only [ht]; omega
theorem sz_nn : ∀ t : Tr, 0 ≤ t.sz
  | nil => by simp [sz]
  | node l k v r => by have := sz_nn l; have := sz_nn r; simp only [sz]; omega
theorem ht_le : ∀ t : Tr, t.ht ≤ t.sz
  | nil => by simp [ht, sz]
  | node l k v r => by have := ht_le l; have := ht_le r; have := sz_nn l; have := sz_nn r; simp only [ht, sz]; omega
theorem sz_toL : ∀ t : Tr, t.sz = t.toL.length
  | nil => by simp [sz, toL]
  | node l k v r => by have := sz_toL l; have := sz_toL r; simp only [sz, toL, List.length_append, List.length_cons]; omega
def left : Tr → Tr
  | nil => nil
  | node l _ _ _ => l
def right : Tr → Tr
  | nil => nil
  | node _ _ _ r => r
def even (l : Tr) (k v : Int) (r : Tr) : Tr :=
  if r.ht + 1 < l.ht then
    match l with
    | nil => nil
    | node ll lk lv lr => if lr.ht ≤ ll.ht then node ll lk lv (node lr k v r) else match lr with
      | nil => nil
      | node a mk mv b => node (node ll lk lv a) mk mv (node b k v r)
  else if l.ht + 1 < r.ht then
    match r with
    | nil => nil
    | node rl rk rv rr => if rl.ht ≤ rr.ht then node (node l k v rl) rk rv rr else match rl with
      | nil => nil
      | node a mk mv b => node (node l k v a) mk mv (node b rk rv rr)
  else node l k v r
theorem zcI (l : Tr) (k v : Int) (r : Tr) : (even l k v r).toL = l.toL ++ (k, v) :: r.toL := by
  unfold even
  split
  · rename_i h
    cases l with
    | nil => have := ht_nn r; simp only [ht] at h; omega
    | node ll lk lv lr =>
      simp only []
      split
      · simp [toL]
      · rename_i h2
        cases lr with
        | nil => have := ht_nn ll; simp only [ht] at h2; omega
        | node a mk mv b => simp [toL]
  · split
    · rename_i h
      cases r with
      | nil => have := ht_nn l; simp only [ht] at h; omega
      | node rl rk rv rr =>
        simp only []
        split
        · simp [toL]
        · rename_i h2
          cases rl with
          | nil => have := ht_nn rr; simp only [ht] at h2; omega
          | node a mk mv b => simp [toL]
    · simp [toL]
theorem even_sz (l : Tr) (k v : Int) (r : Tr) : (even l k v r).sz = 1 + l.sz + r.sz := by
  rw [sz_toL, zcI, sz_toL l, sz_toL r]
  simp only [List.length_append, List.length_cons]
  omega
def with_ : Tr → Int → Int → Tr
  | nil, k, v => node nil k v nil
  | node l k' v' r, k, v => if k < k' then even (l.with_ k v) k' v' r else if k' < k then even l k' v' (r.with_ k v) else node l k v r
def get : Tr → Int → Option Int
  | nil, _ => none
  | node l k' v' r, k => if k < k' then l.get k else if k' < k then r.get k else some v'
def least : Tr → (Int × Int) × Tr
  | nil => ((0, 0), nil)
  | node nil k v r => ((k, v), r)
  | node (node a b c d) k v r => ((node a b c d).least.1, even (node a b c d).least.2 k v r)
def without : Tr → Int → Tr
  | nil, _ => nil
  | node l k' v' r, k => if k < k' then even (l.without k) k' v' r else if k' < k then even l k' v' (r.without k) else match r with
    | nil => l
    | node a b c d => even l (node a b c d).least.1.1 (node a b c d).least.1.2 (node a b c d).least.2
def under : Tr → Int → Int
  | nil, _ => 0
  | node l k' _ r, k => if k' < k then 1 + l.sz + r.under k else l.under k
def at_ : Tr → Int → Option (Int × Int)
  | nil, _ => none
  | node l k v r, i => if i < l.sz then l.at_ i else if l.sz < i then r.at_ (i - (1 + l.sz)) else some (k, v)
def join (l : Tr) (k v : Int) (r : Tr) : Tr :=
  if r.ht + 1 < l.ht then
    match l with
    | nil => nil
    | node ll lk lv lr => even ll lk lv (join lr k v r)
  else if l.ht + 1 < r.ht then
    match r with
    | nil => nil
    | node rl rk rv rr => even (join l k v rl) rk rv rr
  else node l k v r
termination_by SizeOf.sizeOf l + SizeOf.sizeOf r
def cut : Tr → Int → Tr × Tr
  | nil, _ => (nil, nil)
  | node l k v r, b => if k < b then (join l k v (r.cut b).1, (r.cut b).2) else ((l.cut b).1, join (l.cut b).2 k v r)
theorem join_toL (l : Tr) (k v : Int) (r : Tr) : (join l k v r).toL = l.toL ++ (k, v) :: r.toL := by
  fun_induction join l k v r with
  | case1 r h => have := ht_nn r; simp only [ht] at h; omega
  | case2 r ll lk lv lr h ih => rw [zcI, ih]; simp [toL]
  | case3 l h1 h => have := ht_nn l; simp only [ht] at h; omega
  | case4 l rl rk rv rr h1 h ih => rw [zcI, ih]; simp [toL]
  | case5 l r h1 h2 => simp [toL]
def Srt (l : List (Int × Int)) : Prop := l.Pairwise fun a b => a.1 < b.1
def Lt (b : Int) (l : List (Int × Int)) : Prop := ∀ e ∈ l, e.1 < b
def Gt (b : Int) (l : List (Int × Int)) : Prop := ∀ e ∈ l, b < e.1
theorem zgn {l : Tr} {k v : Int} {r : Tr} : Srt (node l k v r).toL ↔ Srt l.toL ∧ Srt r.toL ∧ Lt k l.toL ∧ Gt k r.toL := by
  simp only [Srt, toL, Lt, Gt]
  rw [List.pairwise_append, List.pairwise_cons]
  constructor
  · rintro ⟨h1, ⟨h2, h3⟩, h4⟩
    exact ⟨h1, h3, fun e he => h4 e he (k, v) (by simp), fun e he => h2 e he⟩
  · rintro ⟨h1, h2, h3, h4⟩
    refine ⟨h1, ⟨fun e he => h4 e he, h2⟩, fun a ha b hb => ?_⟩
    rcases List.mem_cons.1 hb with rfl | hb
    · exact h3 a ha
    · have := h3 a ha; have := h4 b hb; omega
def put (l : List (Int × Int)) (k v : Int) : List (Int × Int) := l.filter (fun e => decide (e.1 < k)) ++ (k, v) :: l.filter (fun e => decide (k < e.1))
theorem zbR {p : Int × Int → Bool} {l : List (Int × Int)} (h : ∀ e ∈ l, p e = true) : l.filter p = l := List.filter_eq_self.2 h
theorem zdC {p : Int × Int → Bool} {l : List (Int × Int)} (h : ∀ e ∈ l, p e = false) : l.filter p = [] := List.filter_eq_nil_iff.2 fun e he => by simp [h e he]
theorem with_toL : ∀ (t : Tr) (k v : Int), Srt t.toL → (t.with_ k v).toL = put t.toL k v
  | nil, k, v, _ => by simp [with_, toL, put]
  | node l k' v' r, k, v, h => by
    obtain ⟨h1, h2, h3, h4⟩ := zgn.1 h
    simp only [with_]
    split
    · rename_i hk
      rw [zcI, with_toL l k v h1]
      simp only [put, toL, List.filter_append, List.filter_cons]
      have e1 : r.toL.filter (fun e => decide (e.1 < k)) = [] := zdC fun e he => by have := h4 e he; simp; omega
      have e2 : r.toL.filter (fun e => decide (k < e.1)) = r.toL := zbR fun e he => by have := h4 e he; simp; omega
      have e3 : ¬ k' < k := by omega
      simp [e1, e2, hk, e3]
    · split
      · rename_i hk0 hk
        rw [zcI, with_toL r k v h2]
        simp only [put, toL, List.filter_append, List.filter_cons]
        have e1 : l.toL.filter (fun e => decide (k < e.1)) = [] := zdC fun e he => by have := h3 e he; simp; omega
        have e2 : l.toL.filter (fun e => decide (e.1 < k)) = l.toL := zbR fun e he => by have := h3 e he; simp; omega
        simp [e1, e2, hk, hk0]
      · have : k = k' := by omega
        subst this
        simp only [put, toL, List.filter_append, List.filter_cons]
        have e1 : l.toL.filter (fun e => decide (k < e.1)) = [] := zdC fun e he => by have := h3 e he; simp; omega
        have e2 : l.toL.filter (fun e => decide (e.1 < k)) = l.toL := zbR fun e he => by have := h3 e he; simp; omega
        have e3 : r.toL.filter (fun e => decide (e.1 < k)) = [] := zdC fun e he => by have := h4 e he; simp; omega
        have e4 : r.toL.filter (fun e => decide (k < e.1)) = r.toL := zbR fun e he => by have := h4 e he; simp; omega
        simp [e1, e2, e3, e4]
theorem put_srt {l : List (Int × Int)} (h : Srt l) (k v : Int) : Srt (put l k v) := by
  unfold Srt put
  rw [List.pairwise_append, List.pairwise_cons]
  refine ⟨h.filter _, ⟨fun e he => by simpa using (List.mem_filter.1 he).2, h.filter _⟩, fun a ha b hb => ?_⟩
  have h1 := (List.mem_filter.1 ha).2
  simp only [decide_eq_true_eq] at h1
  rcases List.mem_cons.1 hb with rfl | hb
  · exact h1
  · have h2 := (List.mem_filter.1 hb).2
    simp only [decide_eq_true_eq] at h2
    omega
theorem get_eq : ∀ (t : Tr) (k : Int), Srt t.toL → t.get k = (t.toL.find? fun e => decide (e.1 = k)).map (·.2)
  | nil, k, _ => by simp [get, toL]
  | node l k' v' r, k, h => by
    obtain ⟨h1, h2, h3, h4⟩ := zgn.1 h
    simp only [get, toL, List.find?_append, List.find?_cons]
    split
    · rename_i hk
      have e1 : r.toL.find? (fun e => decide (e.1 = k)) = none := List.find?_eq_none.2 fun e he => by have := h4 e he; simp; omega
      have e2 : decide (k' = k) = false := by simp; omega
      rw [get_eq l k h1, e1, e2]; simp
    · split
      · rename_i hk0 hk
        have e1 : l.toL.find? (fun e => decide (e.1 = k)) = none := List.find?_eq_none.2 fun e he => by have := h3 e he; simp; omega
        have e2 : decide (k' = k) = false := by simp; omega
        rw [get_eq r k h2, e1, e2]; simp
      · have : k' = k := by omega
        subst this
        have e1 : l.toL.find? (fun e => decide (e.1 = k')) = none := List.find?_eq_none.2 fun e he => by have := h3 e he; simp; omega
        rw [e1]; simp
theorem get_none {t : Tr} (h : Srt t.toL) (k : Int) : t.get k = none ↔ k ∉ t.toL.map (·.1) := by
  rw [get_eq t k h]
  simp only [Option.map_eq_none_iff, List.find?_eq_none, decide_eq_true_eq, List.mem_map, not_exists, not_and]
theorem get_with {t : Tr} (h : Srt t.toL) (k v k2 : Int) : (t.with_ k v).get k2 = if k2 = k then some v else t.get k2 := by
  have hs : Srt (t.with_ k v).toL := by rw [with_toL t k v h]; exact put_srt h k v
  rw [get_eq _ _ hs, with_toL t k v h, get_eq _ _ h]
  simp only [put, List.find?_append, List.find?_cons]
  by_cases e : k2 = k
  · subst e
    have e1 : (t.toL.filter fun e => decide (e.1 < k2)).find? (fun e => decide (e.1 = k2)) = none := List.find?_eq_none.2 fun e he => by have := (List.mem_filter.1 he).2; simp at this ⊢; omega
    rw [e1]; simp
  · rw [if_neg e]
    have e2 : decide (k = k2) = false := by simp; omega
    rw [e2]
    simp only [Bool.false_eq_true, if_false, List.find?_filter]
    congr 1
    have : ∀ l : List (Int × Int), Srt l → (l.find? fun a => decide (a.1 < k) && decide (a.1 = k2)).or (l.find? fun a => decide (k < a.1) && decide (a.1 = k2)) = l.find? fun a => decide (a.1 = k2) := by
      intro l hl
      induction l with
      | nil => rfl
      | cons a l ih =>
        have hl' := List.pairwise_cons.1 hl
        simp only [List.find?_cons]
        by_cases q : a.1 = k2
        · by_cases q2 : a.1 < k
          · simp [q, q2]; rw [q] at q2; simp [q2]
          · have q3 : k < a.1 := by omega
            have q4 : l.find? (fun a => decide (a.1 < k) && decide (a.1 = k2)) = none := List.find?_eq_none.2 fun e he => by have := hl'.1 e he; simp; omega
            rw [q4]
            simp [q, q2]
            rw [q] at q2 q3; simp [q2, q3]
        · simp [q]; exact ih hl'.2
    simp only [Bool.decide_and, Bool.decide_eq_true]
    exact this _ h
theorem at_eq : ∀ (t : Tr) (i : Int), 0 ≤ i → t.at_ i = t.toL[i.toNat]?
  | nil, i, _ => by simp [at_, toL]
  | node l k v r, i, hi => by
    simp only [at_, toL]
    have hz := sz_toL l
    split
    · rename_i h
      rw [at_eq l i hi, List.getElem?_append_left (by omega)]
    · split
      · rename_i h0 h
        rw [at_eq r _ (by omega), List.getElem?_append_right (by omega)]
        have : i.toNat - l.toL.length = (i - (1 + l.sz)).toNat + 1 := by omega
        rw [this, List.getElem?_cons_succ]
      · have : i.toNat = l.toL.length := by omega
        rw [this, List.getElem?_append_right (by omega)]
        simp
theorem zjA : ∀ (t : Tr) (b : Int), Srt t.toL → (t.cut b).1.toL = t.toL.filter (fun e => decide (e.1 < b)) ∧ (t.cut b).2.toL = t.toL.filter (fun e => decide (b ≤ e.1))
  | nil, b, _ => by simp [cut, toL]
  | node l k v r, b, h => by
    obtain ⟨h1, h2, h3, h4⟩ := zgn.1 h
    simp only [cut, toL, List.filter_append, List.filter_cons]
    split
    · rename_i hk
      obtain ⟨i1, i2⟩ := zjA r b h2
      simp only [join_toL, i1, i2]
      have e1 : l.toL.filter (fun e => decide (e.1 < b)) = l.toL := zbR fun e he => by have := h3 e he; simp; omega
      have e2 : l.toL.filter (fun e => decide (b ≤ e.1)) = [] := zdC fun e he => by have := h3 e he; simp; omega
      have e3 : ¬ b ≤ k := by omega
      simp [e1, e2, e3, hk]
    · rename_i hk
      obtain ⟨i1, i2⟩ := zjA l b h1
      simp only [join_toL, i1, i2]
      have e1 : r.toL.filter (fun e => decide (b ≤ e.1)) = r.toL := zbR fun e he => by have := h4 e he; simp; omega
      have e2 : r.toL.filter (fun e => decide (e.1 < b)) = [] := zdC fun e he => by have := h4 e he; simp; omega
      have e3 : b ≤ k := by omega
      simp [e1, e2, e3, hk]
theorem cut_len (t : Tr) (b : Int) (h : Srt t.toL) : (t.cut b).1.sz = (t.toL.countP fun e => decide (e.1 < b) : Nat) := by
  rw [sz_toL, (zjA t b h).1, List.countP_eq_length_filter]
theorem least_toL : ∀ (t : Tr), t ≠ nil → t.toL = t.least.1 :: t.least.2.toL
  | nil, h => absurd rfl h
  | node nil k v r, _ => by simp [least, toL]
  | node (node a b c d) k v r, _ => by
    have := least_toL (node a b c d) (by simp)
    simp only [least, zcI]
    rw [toL, this]; simp
theorem without_toL : ∀ (t : Tr) (k : Int), Srt t.toL → (t.without k).toL = t.toL.filter fun e => !decide (e.1 = k)
  | nil, k, _ => by simp [without, toL]
  | node l k' v' r, k, h => by
    obtain ⟨h1, h2, h3, h4⟩ := zgn.1 h
    simp only [without]
    split
    · rename_i hk
      rw [zcI, without_toL l k h1]
      simp only [toL, List.filter_append, List.filter_cons]
      have e1 : r.toL.filter (fun e => !decide (e.1 = k)) = r.toL := zbR fun e he => by have := h4 e he; simp; omega
      have e2 : ¬ k' = k := by omega
      simp [e1, e2]
    · split
      · rename_i hk0 hk
        rw [zcI, without_toL r k h2]
        simp only [toL, List.filter_append, List.filter_cons]
        have e1 : l.toL.filter (fun e => !decide (e.1 = k)) = l.toL := zbR fun e he => by have := h3 e he; simp; omega
        have e2 : ¬ k' = k := by omega
        simp [e1, e2]
      · have : k' = k := by omega
        subst this
        have e1 : l.toL.filter (fun e => !decide (e.1 = k')) = l.toL := zbR fun e he => by have := h3 e he; simp; omega
        have e2 : r.toL.filter (fun e => !decide (e.1 = k')) = r.toL := zbR fun e he => by have := h4 e he; simp; omega
        cases r with
        | nil =>
          simp only [toL, List.filter_append, List.filter_cons]
          simp [e1]
        | node a b c d =>
          simp only [zcI]
          have h5 := least_toL (node a b c d) (by simp)
          rw [toL, List.filter_append, List.filter_cons, e1, e2]
          simp only [decide_true, Bool.not_true, Bool.false_eq_true, if_false]
          rw [h5]
end Tr
end Go.Proofs.YtanimmdlgmkmkaaGreat.Av
namespace Go.Proofs.YtanimmdlgmkmkaaGreat.Av
open Go
set_option linter.unusedSimpArgs false
set_option linter.unusedVariables false
set_option maxRecDepth 100000
set_option maxHeartbeats 2000000
set_option pp.maxSteps 300
def zfQ (l : List Ru) (d a : Int) : Bool := l.any (zfr d a) && decide ((zbm (l.filter (zfr d a))).kind = 3)
theorem zlc (l : List Ru) (f : Bool) (d a : Int) (hl : l.length < 2932031007403) : PCalls Tryz.prog 200 [zE l f, .raw (.int .i64 d), .raw (.int .u32 a)] (.raw (.bool (zfQ l d a))) := by
  have hf := zhP (g := 216) (caps := [.pp [.raw (.int .i64 d)] 0, .pp [.raw (.int .u32 a)] 0]) l f hl (fun r _ => zmO r d a)
  obtain ⟨b, hb⟩ : ∃ b, l.any (zfr d a) = b := ⟨_, rfl⟩
  obtain ⟨m, hmm⟩ : ∃ m, zbm (l.filter (zfr d a)) = m := ⟨_, rfl⟩
  unfold zfQ
  rw [hb, hmm] at hf ⊢
  refine zK Tryz.func200 rfl (N := 21) rfl rfl (by simp) (by simp [noIds]) fun σ => ?_
  repeat (refine zg ?_)
  refine zh ?_
  simp
  refine zY ⟨4, σ.nx 4, 1⟩ ?_
  refine zY ⟨5, σ.nx 5, 1⟩ ?_
  generalize hτ : St.del _ _ = τ
  generalize hA : (fun t => zD _ _ _) = A
  have a0 : A 0 = zE l f := by rw [← hA]; simp [zE]
  have a4 : A 4 = .pp [.raw (.int .i64 d)] 0 := by rw [← hA, ← hτ]; simp [zD, St.new, St.del]
  have a5 : A 5 = .pp [.raw (.int .u32 a)] 0 := by rw [← hA, ← hτ]; simp [zD, St.new, St.del]
  have hE : Ext σ τ := by
    rw [← hτ]
    refine ⟨fun i o h => ?_, fun s => ?_⟩
    · rw [zag (fun e => by rw [e, zf] at h; cases h), zag (fun e => by rw [e, zf] at h; cases h)]
      exact zaR _ _ (zaR _ _ h)
    · exact Nat.le_trans (St.new_le σ 4 1 (.buf [.raw (.int .i64 d)]) s) (St.new_le (σ.new 4 1 (.buf [.raw (.int .i64 d)])) 5 1 (.buf [.raw (.int .u32 a)]) s)
  clear hτ hA
  (try ((first | with_reducible refine zk ?_ | with_reducible refine zm ?_ | with_reducible refine zo ?_); simp [a0, a4, a5])); repeat' (first | ((first | refine zd ?_ | refine zh ?_ | refine dN (by decide +kernel) ?_ | (refine za ?_ ?_ <;> (intro hg; simp only [hg])) | fail) <;> simp [a0, a4, a5]) | refine zg ?_ | refine zc ?_ | (refine zs ?_; simp only [zt]; try simp) | ((first | refine zl (by simp) ?_ | refine zw (by simp) (by simp) (by simp (maxDischargeDepth := 30) [a0, a4, a5]) ?_ | fail); simp) | (refine zb (fun hc => ?_) (fun hc => ?_) <;> try simp at hc) | fail)
  refine PCalls.use hf ?_
  (try ((first | with_reducible refine zk ?_ | with_reducible refine zm ?_ | with_reducible refine zo ?_); simp [a0, a4, a5, zF, zam, hE])); repeat' (first | ((first | refine zd ?_ | refine zh ?_ | refine dN (by decide +kernel) ?_ | (refine za ?_ ?_ <;> (intro hg; simp only [hg])) | fail) <;> simp [a0, a4, a5, zF, zam, hE]) | refine zg ?_ | refine zc ?_ | (refine zs ?_; simp only [zt]; try simp) | ((first | refine zl (by simp) ?_ | refine zw (by simp) (by simp) (by simp (maxDischargeDepth := 30) [a0, a4, a5, zF, zam, hE]) ?_ | fail); simp) | (refine zb (fun hc => ?_) (fun hc => ?_) <;> try simp at hc) | fail)
def zey (l : List Ru) (d a : Int) : Ru := zbm (l.filter (zfs d a))
def zg3 (l : List Ru) (d a : Int) : Bool := l.any (zfs d a)
theorem zl3 (l : List Ru) (f : Bool) (d a : Int) (hl : l.length < 2932031007403) : PCalls Tryz.prog 201 [zE l f, .raw (.int .i64 d), .raw (.int .u32 a)] (.tup [zac (zey l d a), .raw (.bool (zg3 l d a))]) := by
  have hf := zhP (g := 218) (caps := [.pp [.raw (.int .i64 d)] 0, .pp [.raw (.int .u32 a)] 0]) l f hl (fun r _ => zmP r d a)
  unfold zey zg3
  obtain ⟨b, hb⟩ : ∃ b, l.any (zfs d a) = b := ⟨_, rfl⟩
  obtain ⟨m, hmm⟩ : ∃ m, zbm (l.filter (zfs d a)) = m := ⟨_, rfl⟩
  rw [hb, hmm] at hf ⊢
  refine zK Tryz.func201 rfl (N := 13) rfl rfl (by simp) (by simp [noIds, zac]) fun σ => ?_
  repeat (refine zg ?_)
  refine zh ?_
  simp
  refine zY ⟨4, σ.nx 4, 1⟩ ?_
  refine zY ⟨5, σ.nx 5, 1⟩ ?_
  generalize hτ : St.del _ _ = τ
  generalize hA : (fun t => zD _ _ _) = A
  have a0 : A 0 = zE l f := by rw [← hA]; simp [zE]
  have a4 : A 4 = .pp [.raw (.int .i64 d)] 0 := by rw [← hA, ← hτ]; simp [zD, St.new, St.del]
  have a5 : A 5 = .pp [.raw (.int .u32 a)] 0 := by rw [← hA, ← hτ]; simp [zD, St.new, St.del]
  have a6 : A 6 = .rp ⟨6, σ.nx 6, 7⟩ 0 0 := by rw [← hA, ← hτ]; simp [zD, St.new, St.del]
  have m6 : τ.m ⟨6, σ.nx 6, 7⟩ = some (.buf [zac ⟨0, 0, 0, 0, ⟨0, 0⟩, 0⟩]) := by rw [← hτ]; simp [St.new, St.del, zac]
  have hE : Ext σ τ := by
    rw [← hτ]
    refine ⟨fun i o h => ?_, fun s => ?_⟩
    · rw [zag (fun e => by rw [e, zf] at h; cases h), zag (fun e => by rw [e, zf] at h; cases h)]
      exact zaR _ _ (zaR _ _ (zaR _ _ h))
    · exact Nat.le_trans (Nat.le_trans (St.new_le σ 4 1 (.buf [.raw (.int .i64 d)]) s) (St.new_le (σ.new 4 1 (.buf [.raw (.int .i64 d)])) 5 1 (.buf [.raw (.int .u32 a)]) s)) (St.new_le ((σ.new 4 1 (.buf [.raw (.int .i64 d)])).new 5 1 (.buf [.raw (.int .u32 a)])) 6 7 (.buf [zac ⟨0, 0, 0, 0, ⟨0, 0⟩, 0⟩]) s)
  clear hτ hA
  have f6 : σ.m ⟨6, σ.nx 6, 7⟩ = none := zf _ _ _
  (try ((first | with_reducible refine zk ?_ | with_reducible refine zm ?_ | with_reducible refine zo ?_); simp [a0, a4, a5, a6, m6])); repeat' (first | ((first | refine zd ?_ | refine zh ?_ | refine dN (by decide +kernel) ?_ | (refine za ?_ ?_ <;> (intro hg; simp only [hg])) | fail) <;> simp [a0, a4, a5, a6, m6]) | refine zg ?_ | refine zc ?_ | (refine zs ?_; simp only [zt]; try simp) | ((first | refine zl (by simp) ?_ | refine zw (by simp) (by simp) (by simp (maxDischargeDepth := 30) [a0, a4, a5, a6, m6]) ?_ | fail); simp) | (refine zb (fun hc => ?_) (fun hc => ?_) <;> try simp at hc) | fail)
  refine PCalls.use hf ?_
  (try ((first | with_reducible refine zk ?_ | with_reducible refine zm ?_ | with_reducible refine zo ?_); simp [a0, a4, a5, a6, m6, zF, zbE])); repeat' (first | ((first | refine zd ?_ | refine zh ?_ | refine dN (by decide +kernel) ?_ | (refine za ?_ ?_ <;> (intro hg; simp only [hg])) | fail) <;> simp [a0, a4, a5, a6, m6, zF, zbE]) | refine zg ?_ | refine zc ?_ | (refine zs ?_; simp only [zt]; try simp) | (refine zb (fun hc => ?_) (fun hc => ?_) <;> try simp at hc) | fail)
  exact zw (.inr rfl) rfl (hE.setF f6) (by simp [a6, m6, St.set, zF]; exact zP _)
def zdD (last : Int) : List Ru → Bool
  | [] => true
  | r :: l => zdO r && decide (last < r.id) && zdD r.id l
def zd8 (l : List Ru) : Bool := zdD 0 l && decide (l.length ≤ 40)
end Go.Proofs.YtanimmdlgmkmkaaGreat.Av
namespace Go.Proofs.YtanimmdlgmkmkaaGreat.Av
open Go
set_option linter.unusedSimpArgs false
set_option linter.unusedVariables false
set_option maxRecDepth 100000
set_option maxHeartbeats 2000000
set_option pp.maxSteps 300
def zZ (n : Nw) (d a : Int) : Int × Pt :=
  if zfQ n.rules d a = true then (2, ⟨0, 0⟩) else if zg3 n.rules d a = false then (0, ⟨0, 0⟩) else if (zey n.rules d a).kind = 1 then (1, ⟨0, 0⟩)
  else if (zb8 n.t ⟨d, (zey n.rules d a).port⟩).isSome = true then (4, ⟨d, (zey n.rules d a).port⟩) else (3, ⟨d, (zey n.rules d a).port⟩)
theorem zr (n : Nw) (f : Fl) : (z7 n f).cells = [zq n.t.ports f.p, zy n.t.links f.l, zE n.rules f.r] := rfl
theorem zi0 (n : Nw) (f : Fl) (d a : Int) (hl : n.t.links.length < 2 ^ 42) (hl2 : n.rules.length < 2932031007403) :
    PCalls Tryz.prog 158 [z7 n f, .raw (.int .i64 d), .raw (.int .u32 a)] (.tup [.raw (.int .i64 (zZ n d a).1), zS (zZ n d a).2]) := by
  have hd := zlc n.rules f.r d a hl2
  have hm := zl3 n.rules f.r d a hl2
  have hn := fun p => zgl n.t f p hl
  unfold zZ
  obtain ⟨b1, h1⟩ : ∃ b, zfQ n.rules d a = b := ⟨_, rfl⟩
  obtain ⟨b2, h2⟩ : ∃ b, zg3 n.rules d a = b := ⟨_, rfl⟩
  obtain ⟨r, hr⟩ : ∃ r, zey n.rules d a = r := ⟨_, rfl⟩
  rw [h1] at hd
  rw [h2, hr] at hm
  rw [h1, h2, hr]
  clear h1 h2 hr
  have hn := hn ⟨d, r.port⟩
  obtain ⟨b3, h3⟩ : ∃ b, (zb8 n.t ⟨d, r.port⟩).isSome = b := ⟨_, rfl⟩
  obtain ⟨q, hq⟩ : ∃ q, (zb8 n.t ⟨d, r.port⟩).getD ⟨0, 0⟩ = q := ⟨_, rfl⟩
  rw [h3, hq] at hn
  rw [h3]
  refine zK Tryz.func158 rfl (N := 50) rfl rfl (by simp) (by simp [noIds, zS]) fun σ => ?_
  have ho1 : cellOK (zq n.t.ports f.p) = true := rfl
  have ho2 : cellOK (zy n.t.links f.l) = true := rfl
  have ho3 : cellOK (zE n.rules f.r) = true := rfl
  simp only [cellOK] at ho1 ho2 ho3
  have hpf : ∀ x y : Int, AV.agg [.raw (.int .i64 x), .raw (.int .i64 y)] = zS ⟨x, y⟩ := fun _ _ => rfl
  have hpc : ∀ q : Pt, (zS q).cells = [.raw (.int .i64 q.dev), .raw (.int .i64 q.port)] := fun q => rfl
  have hps : ∀ (q : Pt) (x y : Int), setPart (zS q) 0 [.raw (.int .i64 x), .raw (.int .i64 y)] = zS ⟨x, y⟩ := fun _ _ _ => rfl
  have f7 : σ.m ⟨7, σ.nx 7, 2⟩ = none := zf _ _ _
  have hnf : AV.agg [zq n.t.ports f.p, zy n.t.links f.l] = zaT n.t f := rfl
  (try ((first | with_reducible refine zk ?_ | with_reducible refine zm ?_ | with_reducible refine zo ?_); simp [zr, ho1, ho2, ho3, hpf, hpc, hps])); repeat' (first | ((first | refine zd ?_ | refine zh ?_ | refine dN (by decide +kernel) ?_ | (refine za ?_ ?_ <;> (intro hg; simp only [hg])) | fail) <;> simp [zr, ho1, ho2, ho3, hpf, hpc, hps]) | refine zg ?_ | refine zc ?_ | (refine zs ?_; simp only [zt]; try simp) | ((first | refine zl (by simp) ?_ | refine zw (by simp) (by simp) (by simp (maxDischargeDepth := 30) [zr, ho1, ho2, ho3, hpf, hpc, hps]) ?_ | fail); simp) | (refine zb (fun hc => ?_) (fun hc => ?_) <;> try simp at hc) | fail)
  refine PCalls.use hd ?_
  cases b1 with
  | true =>
    (try ((first | with_reducible refine zk ?_ | with_reducible refine zm ?_ | with_reducible refine zo ?_); simp [zr, ho1, ho2, ho3, hpf, hpc, hps])); repeat' (first | ((first | refine zd ?_ | refine zh ?_ | refine dN (by decide +kernel) ?_ | (refine za ?_ ?_ <;> (intro hg; simp only [hg])) | fail) <;> simp [zr, ho1, ho2, ho3, hpf, hpc, hps]) | refine zg ?_ | refine zc ?_ | (refine zs ?_; simp only [zt]; try simp) | (refine zb (fun hc => ?_) (fun hc => ?_) <;> try simp at hc) | fail)
    refine zw (.inr rfl) rfl (by repeat (first | exact Ext.refl _ | refine zu ?_ | refine Ext.setF ?_ (by simp [ze, St.set, zf]))) ?_
    simp [St.set, St.new, hpc, hpf, hps]
  | false =>
    (try ((first | with_reducible refine zk ?_ | with_reducible refine zm ?_ | with_reducible refine zo ?_); simp [zr, ho1, ho2, ho3, hpf, hpc, hps])); repeat' (first | ((first | refine zd ?_ | refine zh ?_ | refine dN (by decide +kernel) ?_ | (refine za ?_ ?_ <;> (intro hg; simp only [hg])) | fail) <;> simp [zr, ho1, ho2, ho3, hpf, hpc, hps]) | refine zg ?_ | refine zc ?_ | (refine zs ?_; simp only [zt]; try simp) | ((first | refine zl (by simp) ?_ | refine zw (by simp) (by simp) (by simp (maxDischargeDepth := 30) [zr, ho1, ho2, ho3, hpf, hpc, hps]) ?_ | fail); simp) | (refine zb (fun hc => ?_) (fun hc => ?_) <;> try simp at hc) | fail)
    refine PCalls.use hm ?_
    cases b2 with
    | false =>
      (try ((first | with_reducible refine zk ?_ | with_reducible refine zm ?_ | with_reducible refine zo ?_); simp [zr, ho1, ho2, ho3, hpf, hpc, hps, zF, zam, zP])); repeat' (first | ((first | refine zd ?_ | refine zh ?_ | refine dN (by decide +kernel) ?_ | (refine za ?_ ?_ <;> (intro hg; simp only [hg])) | fail) <;> simp [zr, ho1, ho2, ho3, hpf, hpc, hps, zF, zam, zP]) | refine zg ?_ | refine zc ?_ | (refine zs ?_; simp only [zt]; try simp) | (refine zb (fun hc => ?_) (fun hc => ?_) <;> try simp at hc) | fail)
      refine zw (.inr rfl) rfl (by repeat (first | exact Ext.refl _ | refine zu ?_ | refine Ext.setF ?_ (by simp [ze, St.set, zf]))) ?_
      simp [St.set, St.new, hpc, hpf, hps]
    | true =>
      by_cases hk : r.kind = 1
      · (try ((first | with_reducible refine zk ?_ | with_reducible refine zm ?_ | with_reducible refine zo ?_); simp [zr, ho1, ho2, ho3, hpf, hpc, hps, zF, zam, zP, hk])); repeat' (first | ((first | refine zd ?_ | refine zh ?_ | refine dN (by decide +kernel) ?_ | (refine za ?_ ?_ <;> (intro hg; simp only [hg])) | fail) <;> simp [zr, ho1, ho2, ho3, hpf, hpc, hps, zF, zam, zP, hk]) | refine zg ?_ | refine zc ?_ | (refine zs ?_; simp only [zt]; try simp) | (refine zb (fun hc => ?_) (fun hc => ?_) <;> try simp at hc) | fail)
        refine zw (.inr rfl) rfl (by repeat (first | exact Ext.refl _ | refine zu ?_ | refine Ext.setF ?_ (by simp [ze, St.set, zf]))) ?_
        simp [St.set, St.new, hpc, hpf, hps, hk]
      · (try ((first | with_reducible refine zk ?_ | with_reducible refine zm ?_ | with_reducible refine zo ?_); simp [zr, ho1, ho2, ho3, hpf, hpc, hps, zF, zam, zP, hk, hnf, zz, zA, ze])); repeat' (first | ((first | refine zd ?_ | refine zh ?_ | refine dN (by decide +kernel) ?_ | (refine za ?_ ?_ <;> (intro hg; simp only [hg])) | fail) <;> simp [zr, ho1, ho2, ho3, hpf, hpc, hps, zF, zam, zP, hk, hnf, zz, zA, ze]) | refine zg ?_ | refine zc ?_ | (refine zs ?_; simp only [zt]; try simp) | ((first | refine zl (by simp) ?_ | refine zw (by simp) (by simp) (by simp (maxDischargeDepth := 30) [zr, ho1, ho2, ho3, hpf, hpc, hps, zF, zam, zP, hk, hnf, zz, zA, ze]) ?_ | fail); simp) | (refine zb (fun hc => ?_) (fun hc => ?_) <;> try simp at hc) | fail)
        refine PCalls.use hn ?_
        cases b3 with
        | true =>
          (try ((first | with_reducible refine zk ?_ | with_reducible refine zm ?_ | with_reducible refine zo ?_); simp [zr, ho1, ho2, ho3, hpf, hpc, hps, zF, zam, zP, hk, hnf, zz, zA, ze])); repeat' (first | ((first | refine zd ?_ | refine zh ?_ | refine dN (by decide +kernel) ?_ | (refine za ?_ ?_ <;> (intro hg; simp only [hg])) | fail) <;> simp [zr, ho1, ho2, ho3, hpf, hpc, hps, zF, zam, zP, hk, hnf, zz, zA, ze]) | refine zg ?_ | refine zc ?_ | (refine zs ?_; simp only [zt]; try simp) | (refine zb (fun hc => ?_) (fun hc => ?_) <;> try simp at hc) | fail)
          refine zw (.inr rfl) rfl (by repeat (first | exact Ext.refl _ | refine zu ?_ | refine Ext.setF ?_ (by simp [ze, St.set, zf]))) ?_
          simp [St.set, St.new, hpc, hpf, hps, hk]
        | false =>
          (try ((first | with_reducible refine zk ?_ | with_reducible refine zm ?_ | with_reducible refine zo ?_); simp [zr, ho1, ho2, ho3, hpf, hpc, hps, zF, zam, zP, hk, hnf, zz, zA, ze])); repeat' (first | ((first | refine zd ?_ | refine zh ?_ | refine dN (by decide +kernel) ?_ | (refine za ?_ ?_ <;> (intro hg; simp only [hg])) | fail) <;> simp [zr, ho1, ho2, ho3, hpf, hpc, hps, zF, zam, zP, hk, hnf, zz, zA, ze]) | refine zg ?_ | refine zc ?_ | (refine zs ?_; simp only [zt]; try simp) | (refine zb (fun hc => ?_) (fun hc => ?_) <;> try simp at hc) | fail)
          refine zw (.inr rfl) rfl (by repeat (first | exact Ext.refl _ | refine zu ?_ | refine Ext.setF ?_ (by simp [ze, St.set, zf]))) ?_
          simp [St.set, St.new, hpc, hpf, hps, hk]
end Go.Proofs.YtanimmdlgmkmkaaGreat.Av
namespace Go.Proofs.YtanimmdlgmkmkaaGreat.Av
open Go
set_option linter.unusedSimpArgs false
set_option linter.unusedVariables false
set_option maxRecDepth 100000
set_option maxHeartbeats 2000000
set_option pp.maxSteps 600
def Tr.av : Tr → AV
  | .nil => .raw (.pointer none)
  | .node l k v r => .pp [.raw (.int .u64 k), .raw (.int .i64 v), l.av, r.av, .raw (.int .i64 (Tr.node l k v r).ht), .raw (.int .i64 (Tr.node l k v r).sz)] 0
def zdt (k v : Int) : AV := .agg [.raw (.int .u64 k), .raw (.int .i64 v)]
@[simp] theorem zpX : Tr.nil.av = .raw (.pointer none) := rfl
theorem zaY (l : Tr) (k v : Int) (r : Tr) : (Tr.node l k v r).av = .pp [.raw (.int .u64 k), .raw (.int .i64 v), l.av, r.av, .raw (.int .i64 (Tr.node l k v r).ht), .raw (.int .i64 (Tr.node l k v r).sz)] 0 := rfl
@[simp] theorem znB (K : Id → Prop) : ∀ t : Tr, t.av.ids K
  | .nil => by simp [Tr.av, AV.ids]
  | .node l k v r => by simp only [Tr.av, AV.ids, zaj, znB K l, znB K r, and_self]
@[simp] theorem zs6 (t : Tr) : t.av.cells = [t.av] := by cases t <;> rfl
@[simp] theorem zs7 (t : Tr) : cellOK t.av = true := by cases t <;> rfl
theorem zi1 (t : Tr) (off : Nat) (x : AV) : setPart t.av off [x] = x := by cases t <;> rfl
theorem zbS (t : Tr) : PCalls Tryz.prog 219 [t.av] (.raw (.int .i64 t.ht)) := by
  refine zK Tryz.func219 rfl (N := 9) rfl rfl (by simp) (by simp [noIds]) fun σ => ?_
  cases t with
  | nil => (try ((first | with_reducible refine zk ?_ | with_reducible refine zm ?_ | with_reducible refine zo ?_); simp [-cellOK, Tr.ht])); repeat' (first | ((first | refine zd ?_ | refine zh ?_ | refine dN (by decide +kernel) ?_ | refine dC (by decide +kernel) ?_ | (refine za ?_ ?_ <;> (intro hg; simp only [hg])) | fail) <;> simp [-cellOK, Tr.ht]) | refine zg ?_ | refine zc ?_ | (refine zs ?_; simp only [zt]; try simp) | (refine zl (by simp) ?_; simp) | (refine zx (by simp) (by simp [noIds]) (by repeat (first | assumption | exact Ext.refl _ | refine zu ?_ | refine Ext.setF ?_ (by first | assumption | (simp [ze, St.set, zf]; done) | exact zp (by assumption)))) ?_; simp [-cellOK, Tr.ht, zL]) | (refine zb (fun hc => ?_) (fun hc => ?_) <;> try simp at hc) | fail)
  | node l k v r =>
    obtain ⟨h, hh⟩ : ∃ h, (Tr.node l k v r).ht = h := ⟨_, rfl⟩
    rw [hh]
    (try ((first | with_reducible refine zk ?_ | with_reducible refine zm ?_ | with_reducible refine zo ?_); simp [-cellOK, zaY, hh])); repeat' (first | ((first | refine zd ?_ | refine zh ?_ | refine dN (by decide +kernel) ?_ | refine dC (by decide +kernel) ?_ | (refine za ?_ ?_ <;> (intro hg; simp only [hg])) | fail) <;> simp [-cellOK, zaY, hh]) | refine zg ?_ | refine zc ?_ | (refine zs ?_; simp only [zt]; try simp) | (refine zl (by simp) ?_; simp) | (refine zx (by simp) (by simp [noIds]) (by repeat (first | assumption | exact Ext.refl _ | refine zu ?_ | refine Ext.setF ?_ (by first | assumption | (simp [ze, St.set, zf]; done) | exact zp (by assumption)))) ?_; simp [-cellOK, zaY, hh, zL]) | (refine zb (fun hc => ?_) (fun hc => ?_) <;> try simp at hc) | fail)
theorem zbT (t : Tr) : PCalls Tryz.prog 187 [t.av] (.raw (.int .i64 t.sz)) := by
  refine zK Tryz.func187 rfl (N := 9) rfl rfl (by simp) (by simp [noIds]) fun σ => ?_
  cases t with
  | nil => (try ((first | with_reducible refine zk ?_ | with_reducible refine zm ?_ | with_reducible refine zo ?_); simp [-cellOK, Tr.sz])); repeat' (first | ((first | refine zd ?_ | refine zh ?_ | refine dN (by decide +kernel) ?_ | refine dC (by decide +kernel) ?_ | (refine za ?_ ?_ <;> (intro hg; simp only [hg])) | fail) <;> simp [-cellOK, Tr.sz]) | refine zg ?_ | refine zc ?_ | (refine zs ?_; simp only [zt]; try simp) | (refine zl (by simp) ?_; simp) | (refine zx (by simp) (by simp [noIds]) (by repeat (first | assumption | exact Ext.refl _ | refine zu ?_ | refine Ext.setF ?_ (by first | assumption | (simp [ze, St.set, zf]; done) | exact zp (by assumption)))) ?_; simp [-cellOK, Tr.sz, zL]) | (refine zb (fun hc => ?_) (fun hc => ?_) <;> try simp at hc) | fail)
  | node l k v r =>
    obtain ⟨h, hh⟩ : ∃ h, (Tr.node l k v r).sz = h := ⟨_, rfl⟩
    rw [hh]
    (try ((first | with_reducible refine zk ?_ | with_reducible refine zm ?_ | with_reducible refine zo ?_); simp [-cellOK, zaY, hh])); repeat' (first | ((first | refine zd ?_ | refine zh ?_ | refine dN (by decide +kernel) ?_ | refine dC (by decide +kernel) ?_ | (refine za ?_ ?_ <;> (intro hg; simp only [hg])) | fail) <;> simp [-cellOK, zaY, hh]) | refine zg ?_ | refine zc ?_ | (refine zs ?_; simp only [zt]; try simp) | (refine zl (by simp) ?_; simp) | (refine zx (by simp) (by simp [noIds]) (by repeat (first | assumption | exact Ext.refl _ | refine zu ?_ | refine Ext.setF ?_ (by first | assumption | (simp [ze, St.set, zf]; done) | exact zp (by assumption)))) ?_; simp [-cellOK, zaY, hh, zL]) | (refine zb (fun hc => ?_) (fun hc => ?_) <;> try simp at hc) | fail)
@[simp] theorem zI (k v : Int) : (zdt k v).cells = [.raw (.int .u64 k), .raw (.int .i64 v)] := rfl
@[simp] theorem zwa (K : Id → Prop) (k v : Int) : (zdt k v).ids K := by simp [zdt]
theorem zd9 {α : Type} {K : Id → Prop} {f : α → AV} (h : ∀ x, (f x).ids K) : ∀ l : List α, zaj K (l.map f)
  | [] => by simp
  | a :: l => by simp only [List.map_cons, zaj]; exact ⟨h a, zd9 h l⟩
@[simp] theorem zrJ (K : Id → Prop) (n : Int) : (iAV n).ids K := by simp [iAV]
@[simp] theorem zpY (K : Id → Prop) (p : Lk) : (zcw p).ids K := by simp [zcw]
@[simp] theorem zpZ (K : Id → Prop) (p : Rg) : (zat p).ids K := by simp [zat]
@[simp] theorem zp0 (K : Id → Prop) (p : Ru) : (zac p).ids K := by simp [zac]
@[simp] theorem zs8 (K : Id → Prop) (l : List Int) (f : Bool) : (zq l f).ids K := by simp only [zq, AV.ids]; exact zd9 (zrJ K) l
@[simp] theorem zsd (K : Id → Prop) (l : List Lk) (f : Bool) : (zy l f).ids K := by simp only [zy, AV.ids]; exact zd9 (zpY K) l
@[simp] theorem zse (K : Id → Prop) (l : List Ru) (f : Bool) : (zE l f).ids K := by simp only [zE, AV.ids]; exact zd9 (zp0 K) l
@[simp] theorem zwb (K : Id → Prop) (n : Nw) (f : Fl) : (z7 n f).ids K := by simp [z7]
@[simp] theorem zt6 (l : List Int) (f : Bool) : cellOK (zq l f) = true := rfl
@[simp] theorem zs9 (l : List Lk) (f : Bool) : cellOK (zy l f) = true := rfl
@[simp] theorem zta (l : List Ru) (f : Bool) : cellOK (zE l f) = true := rfl
theorem zJ (k v : Int) : AV.agg [.raw (.int .u64 k), .raw (.int .i64 v)] = zdt k v := rfl
theorem zaM (k v : Int) : Av.setPart (zdt 0 0) 0 [.raw (.int .u64 k), .raw (.int .i64 v)] = zdt k v := rfl
theorem zbh (l : Tr) (k v : Int) (r : Tr) (h : l.sz + r.sz < 2 ^ 60) : PCalls Tryz.prog 207 [l.av, zdt k v, r.av] (Tr.node l k v r).av := by
  have z1 := l.ht_nn
  have z2 := r.ht_nn
  have z3 := l.sz_nn
  have z4 := r.sz_nn
  have z5 := l.ht_le
  have z6 := r.ht_le
  have e1 : IntKind.i64.wrap (1 + (if l.ht < r.ht then r.ht else l.ht)) = (Tr.node l k v r).ht := by
    rw [zU (by split <;> omega) (by split <;> omega)]; simp only [Tr.ht]; split <;> omega
  have e2 : IntKind.i64.wrap (1 + l.sz) = 1 + l.sz := zU (by omega) (by omega)
  have e3 : IntKind.i64.wrap (1 + l.sz + r.sz) = (Tr.node l k v r).sz := by
    rw [zU (by omega) (by omega)]; rfl
  obtain ⟨H, hH⟩ : ∃ h, (Tr.node l k v r).ht = h := ⟨_, rfl⟩
  obtain ⟨Z, hZ⟩ : ∃ h, (Tr.node l k v r).sz = h := ⟨_, rfl⟩
  have hh1 := zbS l
  have hh2 := zbS r
  have hs1 := zbT l
  have hs2 := zbT r
  rw [zaY, hH, hZ]
  rw [hH] at e1
  rw [hZ] at e3
  refine zK Tryz.func207 rfl (N := 24) rfl rfl (by simp) (by simp [noIds]) fun σ => ?_
  (try ((first | with_reducible refine zk ?_ | with_reducible refine zm ?_ | with_reducible refine zo ?_); simp [-cellOK, zI, zJ, zi1, e1, e2, e3])); repeat' (first | ((first | refine zd ?_ | refine zh ?_ | refine dN (by decide +kernel) ?_ | refine dC (by decide +kernel) ?_ | refine uP (hh1) ?_ | refine .inl ⟨_, .inl (hh1), ?_⟩ | refine uP (hh2) ?_ | refine .inl ⟨_, .inl (hh2), ?_⟩ | refine uP (hs1) ?_ | refine .inl ⟨_, .inl (hs1), ?_⟩ | refine uP (hs2) ?_ | refine .inl ⟨_, .inl (hs2), ?_⟩ | (refine za ?_ ?_ <;> (intro hg; simp only [hg])) | fail) <;> simp [-cellOK, zI, zJ, zi1, e1, e2, e3]) | refine zg ?_ | refine zc ?_ | (refine zs ?_; simp only [zt]; try simp) | (refine zb (fun hc => ?_) (fun hc => ?_) <;> try simp at hc) | fail)
  refine zbk (x := .rp ⟨23, σ.nx 23, 6⟩ 0 0) (.inr rfl) (by repeat (first | assumption | exact Ext.refl _ | refine zu ?_ | refine Ext.setF ?_ (by first | assumption | (simp [ze, St.set, zf]; done) | exact zp (by assumption)))) ?_ ?_
  · simp [ze]
  · simp [zak, zD, zf, zz, ze]
end Go.Proofs.YtanimmdlgmkmkaaGreat.Av
