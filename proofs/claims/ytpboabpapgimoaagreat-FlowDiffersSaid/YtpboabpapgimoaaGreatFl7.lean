/- Flows: FlowTells, FlowDiffers, FlowCut, FlowFares. Part 7 of 14: AvTy, AvGo, AvN1, AvN3, AvN12, AvN8, AvN9, AvN13, AvN14, AvN17, AvN22, AvN2, AvN4, AvN5, AvN7, AvN11, AvT1, AvN6, AvN10, AvT2, AvT3, AvT4, AvT5, AvT6, AvT7, AvT8, AvN25. -/
import Derived.Test.YtpboabpapgimoaaGreatFl6
import Derived.Test.YtpboabpapgimoaaGreatProg
namespace Go.Proofs.YtpboabpapgimoaaGreat.Av
set_option linter.unusedSimpArgs false
set_option linter.unusedVariables false
open Go
@[simp] theorem zt1 : tsz Tryz.prog 3 = some 1 := by kernel_rfl
@[simp] theorem zt2 : zaf Tryz.prog 3 = some 8 := by kernel_rfl
@[simp] theorem zt3 : zah Tryz.prog 3 = some (.int .i64 (0)) := by kernel_rfl
@[simp] theorem tag3 : zZ Tryz.prog 3 = some false := by simp [zZ, Tryz.underlying3]
@[simp] theorem arr3 : zQ Tryz.prog 3 = none := by simp [zQ, Tryz.underlying3]
@[simp] theorem uin3 : zc6 Tryz.prog 3 = some .i64 := by kernel_rfl
@[simp] theorem pla3 : zcf Tryz.prog 3 = true := by kernel_rfl
@[simp] theorem tsz4 : tsz Tryz.prog 4 = some 1 := by kernel_rfl
@[simp] theorem tby4 : zaf Tryz.prog 4 = some 1 := by kernel_rfl
@[simp] theorem tze4 : zah Tryz.prog 4 = some (.bool false) := by kernel_rfl
@[simp] theorem tag4 : zZ Tryz.prog 4 = some false := by simp [zZ, Tryz.underlying4]
@[simp] theorem arr4 : zQ Tryz.prog 4 = none := by simp [zQ, Tryz.underlying4]
@[simp] theorem ubo4 : zgw Tryz.prog 4 = true := by kernel_rfl
@[simp] theorem pla4 : zcf Tryz.prog 4 = true := by kernel_rfl
@[simp] theorem tsz5 : tsz Tryz.prog 5 = some 1 := by kernel_rfl
@[simp] theorem tby5 : zaf Tryz.prog 5 = some 1 := by kernel_rfl
@[simp] theorem tze5 : zah Tryz.prog 5 = some (.int .u8 (0)) := by kernel_rfl
@[simp] theorem tag5 : zZ Tryz.prog 5 = some false := by simp [zZ, Tryz.underlying5]
@[simp] theorem arr5 : zQ Tryz.prog 5 = none := by simp [zQ, Tryz.underlying5]
@[simp] theorem uin5 : zc6 Tryz.prog 5 = some .u8 := by kernel_rfl
@[simp] theorem pla5 : zcf Tryz.prog 5 = true := by kernel_rfl
@[simp] theorem tsz9 : tsz Tryz.prog 9 = some 1 := by kernel_rfl
@[simp] theorem tby9 : zaf Tryz.prog 9 = some 16 := by kernel_rfl
@[simp] theorem tze9 : zah Tryz.prog 9 = some (.string ⟨#[]⟩) := by kernel_rfl
@[simp] theorem tag9 : zZ Tryz.prog 9 = some false := by simp [zZ, Tryz.underlying9]
@[simp] theorem arr9 : zQ Tryz.prog 9 = none := by simp [zQ, Tryz.underlying9]
@[simp] theorem ust9 : zfm Tryz.prog 9 = true := by kernel_rfl
@[simp] theorem pla9 : zcf Tryz.prog 9 = true := by kernel_rfl
@[simp] theorem zxk : tsz Tryz.prog 22 = some 1 := by kernel_rfl
@[simp] theorem zxl : zaf Tryz.prog 22 = some 24 := by kernel_rfl
@[simp] theorem zxm : zah Tryz.prog 22 = some (.slice none 0 0) := by kernel_rfl
@[simp] theorem zxn : zZ Tryz.prog 22 = some false := by simp [zZ, Tryz.underlying22]
@[simp] theorem zxo : zQ Tryz.prog 22 = none := by simp [zQ, Tryz.underlying22]
@[simp] theorem zsL : zaH Tryz.prog 22 = some 3 := by kernel_rfl
@[simp] theorem zxp : tsz Tryz.prog 23 = some 1 := by kernel_rfl
@[simp] theorem zxq : zaf Tryz.prog 23 = some 24 := by kernel_rfl
@[simp] theorem zxr : zah Tryz.prog 23 = some (.slice none 0 0) := by kernel_rfl
@[simp] theorem zxs : zZ Tryz.prog 23 = some false := by simp [zZ, Tryz.underlying23]
@[simp] theorem zxt : zQ Tryz.prog 23 = none := by simp [zQ, Tryz.underlying23]
@[simp] theorem zsM : zaH Tryz.prog 23 = some 101 := by kernel_rfl
@[simp] theorem zxu : tsz Tryz.prog 25 = some 2 := by kernel_rfl
@[simp] theorem zxv : zaf Tryz.prog 25 = some 48 := by kernel_rfl
@[simp] theorem zxw : zah Tryz.prog 25 = some (.agg #[(.slice none 0 0), (.slice none 0 0)]) := by kernel_rfl
@[simp] theorem zxx : zZ Tryz.prog 25 = some true := by simp [zZ, Tryz.underlying25]
@[simp] theorem zxy : zQ Tryz.prog 25 = none := by simp [zQ, Tryz.underlying25]
@[simp] theorem zxz : zaY Tryz.prog 25 = true := by kernel_rfl
@[simp] theorem zxA : zcA Tryz.prog 25 = true := by kernel_rfl
@[simp] theorem zuO : zag Tryz.prog 25 0 = some (22, 0) := by kernel_rfl
@[simp] theorem zuP : zag Tryz.prog 25 1 = some (23, 1) := by kernel_rfl
@[simp] theorem zxB : zbh Tryz.prog 25 = some [(22, 0), (23, 1)] := by kernel_rfl
@[simp] theorem zxC : Tryz.prog.eqGuardType Tryz.prog.depth 25 = false := by kernel_rfl
@[simp] theorem zxD : tsz Tryz.prog 26 = some 1 := by kernel_rfl
@[simp] theorem zxE : zaf Tryz.prog 26 = some 24 := by kernel_rfl
@[simp] theorem zxF : zah Tryz.prog 26 = some (.slice none 0 0) := by kernel_rfl
@[simp] theorem zxG : zZ Tryz.prog 26 = some false := by simp [zZ, Tryz.underlying26]
@[simp] theorem zxH : zQ Tryz.prog 26 = none := by simp [zQ, Tryz.underlying26]
@[simp] theorem zsN : zaH Tryz.prog 26 = some 79 := by kernel_rfl
@[simp] theorem zsO : tsz Tryz.prog 28 = some 3 := by kernel_rfl
@[simp] theorem zsP : zaf Tryz.prog 28 = some 72 := by kernel_rfl
@[simp] theorem zsQ : zah Tryz.prog 28 = some (.agg #[(.slice none 0 0), (.slice none 0 0), (.slice none 0 0)]) := by kernel_rfl
@[simp] theorem zxI : zZ Tryz.prog 28 = some true := by simp [zZ, Tryz.underlying28]
@[simp] theorem zxJ : zQ Tryz.prog 28 = none := by simp [zQ, Tryz.underlying28]
@[simp] theorem zxK : zaY Tryz.prog 28 = true := by kernel_rfl
@[simp] theorem zxL : zcA Tryz.prog 28 = true := by kernel_rfl
@[simp] theorem zuQ : zag Tryz.prog 28 0 = some (25, 0) := by kernel_rfl
@[simp] theorem zuR : zag Tryz.prog 28 1 = some (26, 2) := by kernel_rfl
@[simp] theorem zxM : zbh Tryz.prog 28 = some [(25, 0), (26, 2)] := by kernel_rfl
@[simp] theorem zxN : Tryz.prog.eqGuardType Tryz.prog.depth 28 = false := by kernel_rfl
@[simp] theorem zxO : tsz Tryz.prog 31 = some 1 := by kernel_rfl
@[simp] theorem zxP : zaf Tryz.prog 31 = some 24 := by kernel_rfl
@[simp] theorem zxQ : zah Tryz.prog 31 = some (.slice none 0 0) := by kernel_rfl
@[simp] theorem zxR : zZ Tryz.prog 31 = some false := by simp [zZ, Tryz.underlying31]
@[simp] theorem zxS : zQ Tryz.prog 31 = none := by simp [zQ, Tryz.underlying31]
@[simp] theorem zsR : zaH Tryz.prog 31 = some 48 := by kernel_rfl
@[simp] theorem zxT : tsz Tryz.prog 32 = some 5 := by kernel_rfl
@[simp] theorem zxU : zaf Tryz.prog 32 = some 120 := by kernel_rfl
@[simp] theorem zxV : zah Tryz.prog 32 = some (.agg #[(.slice none 0 0), (.slice none 0 0), (.slice none 0 0), (.slice none 0 0), (.slice none 0 0)]) := by kernel_rfl
@[simp] theorem zxW : zZ Tryz.prog 32 = some true := by simp [zZ, Tryz.underlying32]
@[simp] theorem zxX : zQ Tryz.prog 32 = some (5, 31) := by simp [zQ, Tryz.underlying32]
@[simp] theorem zsS : tsz Tryz.prog 40 = some 1 := by kernel_rfl
@[simp] theorem zsT : zaf Tryz.prog 40 = some 8 := by kernel_rfl
@[simp] theorem zsU : zah Tryz.prog 40 = some (.int .u64 (0)) := by kernel_rfl
@[simp] theorem zxY : zZ Tryz.prog 40 = some false := by simp [zZ, Tryz.underlying40]
@[simp] theorem zxZ : zQ Tryz.prog 40 = none := by simp [zQ, Tryz.underlying40]
@[simp] theorem zx0 : zc6 Tryz.prog 40 = some .u64 := by kernel_rfl
@[simp] theorem zx1 : zcf Tryz.prog 40 = true := by kernel_rfl
@[simp] theorem zx2 : tsz Tryz.prog 44 = some 1 := by kernel_rfl
@[simp] theorem zx3 : zaf Tryz.prog 44 = some 8 := by kernel_rfl
@[simp] theorem zx4 : zah Tryz.prog 44 = some (.int .i64 (0)) := by kernel_rfl
@[simp] theorem zx5 : zZ Tryz.prog 44 = some false := by simp [zZ, Tryz.underlying44]
@[simp] theorem zx6 : zQ Tryz.prog 44 = none := by simp [zQ, Tryz.underlying44]
@[simp] theorem zx7 : zc6 Tryz.prog 44 = some .i64 := by kernel_rfl
@[simp] theorem zx8 : zcf Tryz.prog 44 = true := by kernel_rfl
@[simp] theorem zx9 : tsz Tryz.prog 45 = some 6 := by kernel_rfl
@[simp] theorem zya : zaf Tryz.prog 45 = some 144 := by kernel_rfl
@[simp] theorem zyb : zah Tryz.prog 45 = some (.agg #[(.slice none 0 0), (.slice none 0 0), (.slice none 0 0), (.slice none 0 0), (.slice none 0 0), (.slice none 0 0)]) := by kernel_rfl
@[simp] theorem zyc : zZ Tryz.prog 45 = some true := by simp [zZ, Tryz.underlying45]
@[simp] theorem zyd : zQ Tryz.prog 45 = some (2, 28) := by simp [zQ, Tryz.underlying45]
@[simp] theorem zye : tsz Tryz.prog 46 = some 1 := by kernel_rfl
@[simp] theorem zyf : zaf Tryz.prog 46 = some 4 := by kernel_rfl
@[simp] theorem zyg : zah Tryz.prog 46 = some (.int .u32 (0)) := by kernel_rfl
@[simp] theorem zyh : zZ Tryz.prog 46 = some false := by simp [zZ, Tryz.underlying46]
@[simp] theorem zyi : zQ Tryz.prog 46 = none := by simp [zQ, Tryz.underlying46]
@[simp] theorem zyj : zc6 Tryz.prog 46 = some .u32 := by kernel_rfl
@[simp] theorem zyk : zcf Tryz.prog 46 = true := by kernel_rfl
@[simp] theorem zsV : tsz Tryz.prog 48 = some 2 := by kernel_rfl
@[simp] theorem zsW : zaf Tryz.prog 48 = some 8 := by kernel_rfl
@[simp] theorem zsX : zah Tryz.prog 48 = some (.agg #[(.int .u32 (0)), (.int .u32 (0))]) := by kernel_rfl
@[simp] theorem zyl : zZ Tryz.prog 48 = some true := by simp [zZ, Tryz.underlying48]
@[simp] theorem zym : zQ Tryz.prog 48 = none := by simp [zQ, Tryz.underlying48]
@[simp] theorem zyn : zaY Tryz.prog 48 = true := by kernel_rfl
@[simp] theorem zyo : zcA Tryz.prog 48 = true := by kernel_rfl
@[simp] theorem zuS : zag Tryz.prog 48 0 = some (46, 0) := by kernel_rfl
@[simp] theorem zuT : zag Tryz.prog 48 1 = some (46, 1) := by kernel_rfl
@[simp] theorem zyp : zbh Tryz.prog 48 = some [(46, 0), (46, 1)] := by kernel_rfl
@[simp] theorem zyq : Tryz.prog.eqGuardType Tryz.prog.depth 48 = false := by kernel_rfl
@[simp] theorem zyr : tsz Tryz.prog 50 = some 1 := by kernel_rfl
@[simp] theorem zys : zaf Tryz.prog 50 = some 24 := by kernel_rfl
@[simp] theorem zyt : zah Tryz.prog 50 = some (.slice none 0 0) := by kernel_rfl
@[simp] theorem zyu : zZ Tryz.prog 50 = some false := by simp [zZ, Tryz.underlying50]
@[simp] theorem zyv : zQ Tryz.prog 50 = none := by simp [zQ, Tryz.underlying50]
@[simp] theorem zsY : zaH Tryz.prog 50 = some 28 := by kernel_rfl
@[simp] theorem zsZ : tsz Tryz.prog 52 = some 2 := by kernel_rfl
@[simp] theorem zs0 : zaf Tryz.prog 52 = some 16 := by kernel_rfl
@[simp] theorem zs1 : zah Tryz.prog 52 = some (.agg #[(.int .i64 (0)), (.int .i64 (0))]) := by kernel_rfl
@[simp] theorem zyw : zZ Tryz.prog 52 = some true := by simp [zZ, Tryz.underlying52]
@[simp] theorem zyx : zQ Tryz.prog 52 = none := by simp [zQ, Tryz.underlying52]
@[simp] theorem zyy : zaY Tryz.prog 52 = true := by kernel_rfl
@[simp] theorem zqj : zcA Tryz.prog 52 = true := by kernel_rfl
@[simp] theorem zuU : zag Tryz.prog 52 0 = some (3, 0) := by kernel_rfl
@[simp] theorem zuV : zag Tryz.prog 52 1 = some (3, 1) := by kernel_rfl
@[simp] theorem zyz : zbh Tryz.prog 52 = some [(3, 0), (3, 1)] := by kernel_rfl
@[simp] theorem znT : Tryz.prog.eqGuardType Tryz.prog.depth 52 = false := by kernel_rfl
@[simp] theorem zyA : tsz Tryz.prog 54 = some 4 := by kernel_rfl
@[simp] theorem zyB : zaf Tryz.prog 54 = some 48 := by kernel_rfl
@[simp] theorem zyC : zah Tryz.prog 54 = some (.agg #[(.slice none 0 0), (.int .i64 (0)), (.int .i64 (0)), (.int .i64 (0))]) := by kernel_rfl
@[simp] theorem zyD : zZ Tryz.prog 54 = some true := by simp [zZ, Tryz.underlying54]
@[simp] theorem zyE : zQ Tryz.prog 54 = none := by simp [zQ, Tryz.underlying54]
@[simp] theorem zyF : zaY Tryz.prog 54 = true := by kernel_rfl
@[simp] theorem zyG : zcA Tryz.prog 54 = true := by kernel_rfl
@[simp] theorem zuW : zag Tryz.prog 54 0 = some (22, 0) := by kernel_rfl
@[simp] theorem zuX : zag Tryz.prog 54 1 = some (44, 1) := by kernel_rfl
@[simp] theorem zuY : zag Tryz.prog 54 2 = some (52, 2) := by kernel_rfl
@[simp] theorem zyH : zbh Tryz.prog 54 = some [(22, 0), (44, 1), (52, 2)] := by kernel_rfl
@[simp] theorem zyI : Tryz.prog.eqGuardType Tryz.prog.depth 54 = false := by kernel_rfl
@[simp] theorem zyJ : tsz Tryz.prog 61 = some 2 := by kernel_rfl
@[simp] theorem zyK : zaf Tryz.prog 61 = some 16 := by kernel_rfl
@[simp] theorem zyL : zah Tryz.prog 61 = some (.agg #[(.int .i64 (0)), (.int .i64 (0))]) := by kernel_rfl
@[simp] theorem zyM : zZ Tryz.prog 61 = some true := by simp [zZ, Tryz.underlying61]
@[simp] theorem zyN : zQ Tryz.prog 61 = some (2, 3) := by simp [zQ, Tryz.underlying61]
@[simp] theorem zyO : tsz Tryz.prog 72 = some 1 := by kernel_rfl
@[simp] theorem zyP : zaf Tryz.prog 72 = some 8 := by kernel_rfl
@[simp] theorem zyQ : zah Tryz.prog 72 = some .nilFunc := by kernel_rfl
@[simp] theorem zyR : zZ Tryz.prog 72 = some false := by simp [zZ, Tryz.underlying72]
@[simp] theorem zyS : zQ Tryz.prog 72 = none := by simp [zQ, Tryz.underlying72]
@[simp] theorem zyT : tsz Tryz.prog 75 = some 1 := by kernel_rfl
@[simp] theorem zyU : zaf Tryz.prog 75 = some 8 := by kernel_rfl
@[simp] theorem zyV : zah Tryz.prog 75 = some (.pointer none) := by kernel_rfl
@[simp] theorem zyW : zZ Tryz.prog 75 = some false := by simp [zZ, Tryz.underlying75]
@[simp] theorem zyX : zQ Tryz.prog 75 = none := by simp [zQ, Tryz.underlying75]
@[simp] theorem zyY : zgv Tryz.prog 75 = true := by kernel_rfl
@[simp] theorem zyZ : tsz Tryz.prog 77 = some 1 := by kernel_rfl
@[simp] theorem zy0 : zaf Tryz.prog 77 = some 8 := by kernel_rfl
@[simp] theorem zy1 : zah Tryz.prog 77 = some (.int .i64 (0)) := by kernel_rfl
@[simp] theorem zy2 : zZ Tryz.prog 77 = some false := by simp [zZ, Tryz.underlying77]
@[simp] theorem zy3 : zQ Tryz.prog 77 = none := by simp [zQ, Tryz.underlying77]
@[simp] theorem zy4 : zc6 Tryz.prog 77 = some .i64 := by kernel_rfl
@[simp] theorem zy5 : zcf Tryz.prog 77 = true := by kernel_rfl
@[simp] theorem zs2 : tsz Tryz.prog 79 = some 7 := by kernel_rfl
@[simp] theorem zs3 : zaf Tryz.prog 79 = some 48 := by kernel_rfl
@[simp] theorem zs4 : zah Tryz.prog 79 = some (.agg #[(.int .i64 (0)), (.int .i64 (0)), (.int .i64 (0)), (.int .i64 (0)), (.int .u32 (0)), (.int .u32 (0)), (.int .i64 (0))]) := by kernel_rfl
@[simp] theorem zy6 : zZ Tryz.prog 79 = some true := by simp [zZ, Tryz.underlying79]
@[simp] theorem zy7 : zQ Tryz.prog 79 = none := by simp [zQ, Tryz.underlying79]
@[simp] theorem zy8 : zaY Tryz.prog 79 = true := by kernel_rfl
@[simp] theorem zy9 : zcA Tryz.prog 79 = true := by kernel_rfl
@[simp] theorem zuZ : zag Tryz.prog 79 0 = some (3, 0) := by kernel_rfl
@[simp] theorem zu0 : zag Tryz.prog 79 1 = some (3, 1) := by kernel_rfl
@[simp] theorem zu1 : zag Tryz.prog 79 2 = some (3, 2) := by kernel_rfl
@[simp] theorem zu2 : zag Tryz.prog 79 3 = some (77, 3) := by kernel_rfl
@[simp] theorem zu3 : zag Tryz.prog 79 4 = some (48, 4) := by kernel_rfl
@[simp] theorem zu4 : zag Tryz.prog 79 5 = some (3, 6) := by kernel_rfl
@[simp] theorem zza : zbh Tryz.prog 79 = some [(3, 0), (3, 1), (3, 2), (77, 3), (48, 4), (3, 6)] := by kernel_rfl
@[simp] theorem zzb : Tryz.prog.eqGuardType Tryz.prog.depth 79 = false := by kernel_rfl
@[simp] theorem zzc : tsz Tryz.prog 86 = some 3 := by kernel_rfl
@[simp] theorem zzd : zaf Tryz.prog 86 = some 24 := by kernel_rfl
@[simp] theorem zze : zah Tryz.prog 86 = some (.agg #[(.int .i64 (0)), (.int .i64 (0)), (.int .i64 (0))]) := by kernel_rfl
@[simp] theorem zzf : zZ Tryz.prog 86 = some true := by simp [zZ, Tryz.underlying86]
@[simp] theorem zzg : zQ Tryz.prog 86 = none := by simp [zQ, Tryz.underlying86]
@[simp] theorem zzh : zaY Tryz.prog 86 = true := by kernel_rfl
@[simp] theorem zzi : zcA Tryz.prog 86 = true := by kernel_rfl
@[simp] theorem zu5 : zag Tryz.prog 86 0 = some (44, 0) := by kernel_rfl
@[simp] theorem zu6 : zag Tryz.prog 86 1 = some (52, 1) := by kernel_rfl
@[simp] theorem zzj : zbh Tryz.prog 86 = some [(44, 0), (52, 1)] := by kernel_rfl
@[simp] theorem zzk : Tryz.prog.eqGuardType Tryz.prog.depth 86 = false := by kernel_rfl
@[simp] theorem zzl : tsz Tryz.prog 90 = some 1 := by kernel_rfl
@[simp] theorem zzm : zaf Tryz.prog 90 = some 8 := by kernel_rfl
@[simp] theorem zzn : zah Tryz.prog 90 = some (.pointer none) := by kernel_rfl
@[simp] theorem zzo : zZ Tryz.prog 90 = some false := by simp [zZ, Tryz.underlying90]
@[simp] theorem zzp : zQ Tryz.prog 90 = none := by simp [zQ, Tryz.underlying90]
@[simp] theorem zzq : zgv Tryz.prog 90 = true := by kernel_rfl
@[simp] theorem zzr : tsz Tryz.prog 93 = some 1 := by kernel_rfl
@[simp] theorem zzs : zaf Tryz.prog 93 = some 8 := by kernel_rfl
@[simp] theorem zzt : zah Tryz.prog 93 = some .nilFunc := by kernel_rfl
@[simp] theorem zzu : zZ Tryz.prog 93 = some false := by simp [zZ, Tryz.underlying93]
@[simp] theorem zzv : zQ Tryz.prog 93 = none := by simp [zQ, Tryz.underlying93]
@[simp] theorem zrg : tsz Tryz.prog 101 = some 4 := by kernel_rfl
@[simp] theorem zrh : zaf Tryz.prog 101 = some 32 := by kernel_rfl
@[simp] theorem zri : zah Tryz.prog 101 = some (.agg #[(.int .i64 (0)), (.int .i64 (0)), (.int .i64 (0)), (.int .i64 (0))]) := by kernel_rfl
@[simp] theorem zvz : zZ Tryz.prog 101 = some true := by simp [zZ, Tryz.underlying101]
@[simp] theorem zvA : zQ Tryz.prog 101 = none := by simp [zQ, Tryz.underlying101]
@[simp] theorem zvB : zaY Tryz.prog 101 = true := by kernel_rfl
@[simp] theorem zvC : zcA Tryz.prog 101 = true := by kernel_rfl
@[simp] theorem zt4 : zag Tryz.prog 101 0 = some (52, 0) := by kernel_rfl
@[simp] theorem zt5 : zag Tryz.prog 101 1 = some (52, 2) := by kernel_rfl
@[simp] theorem zvD : zbh Tryz.prog 101 = some [(52, 0), (52, 2)] := by kernel_rfl
@[simp] theorem zvE : Tryz.prog.eqGuardType Tryz.prog.depth 101 = false := by kernel_rfl
@[simp] theorem zvF : tsz Tryz.prog 116 = some 1 := by kernel_rfl
@[simp] theorem zvG : zaf Tryz.prog 116 = some 8 := by kernel_rfl
@[simp] theorem zvH : zah Tryz.prog 116 = some (.pointer none) := by kernel_rfl
@[simp] theorem zvI : zZ Tryz.prog 116 = some false := by simp [zZ, Tryz.underlying116]
@[simp] theorem zvJ : zQ Tryz.prog 116 = none := by simp [zQ, Tryz.underlying116]
@[simp] theorem zvK : zgv Tryz.prog 116 = true := by kernel_rfl
@[simp] theorem zvL : tsz Tryz.prog 121 = some 3 := by kernel_rfl
@[simp] theorem zvM : zaf Tryz.prog 121 = some 24 := by kernel_rfl
@[simp] theorem zvN : zah Tryz.prog 121 = some (.agg #[(.pointer none), (.pointer none), (.int .i64 (0))]) := by kernel_rfl
@[simp] theorem zvO : zZ Tryz.prog 121 = some true := by simp [zZ, Tryz.underlying121]
@[simp] theorem zvP : zQ Tryz.prog 121 = none := by simp [zQ, Tryz.underlying121]
@[simp] theorem zvQ : zaY Tryz.prog 121 = true := by kernel_rfl
@[simp] theorem zvR : zcA Tryz.prog 121 = true := by kernel_rfl
@[simp] theorem zt6 : zag Tryz.prog 121 0 = some (116, 0) := by kernel_rfl
@[simp] theorem zt7 : zag Tryz.prog 121 1 = some (116, 1) := by kernel_rfl
@[simp] theorem zt8 : zag Tryz.prog 121 2 = some (3, 2) := by kernel_rfl
@[simp] theorem zvS : zbh Tryz.prog 121 = some [(116, 0), (116, 1), (3, 2)] := by kernel_rfl
@[simp] theorem zvT : Tryz.prog.eqGuardType Tryz.prog.depth 121 = false := by kernel_rfl
@[simp] theorem zvU : tsz Tryz.prog 125 = some 2 := by kernel_rfl
@[simp] theorem zvV : zaf Tryz.prog 125 = some 16 := by kernel_rfl
@[simp] theorem zvW : zah Tryz.prog 125 = some (.agg #[(.int .u64 (0)), (.int .i64 (0))]) := by kernel_rfl
@[simp] theorem zvX : zZ Tryz.prog 125 = some true := by simp [zZ, Tryz.underlying125]
@[simp] theorem zvY : zQ Tryz.prog 125 = none := by simp [zQ, Tryz.underlying125]
@[simp] theorem zvZ : zaY Tryz.prog 125 = true := by kernel_rfl
@[simp] theorem zv0 : zcA Tryz.prog 125 = true := by kernel_rfl
@[simp] theorem zt9 : zag Tryz.prog 125 0 = some (40, 0) := by kernel_rfl
@[simp] theorem zua : zag Tryz.prog 125 1 = some (3, 1) := by kernel_rfl
@[simp] theorem zv1 : zbh Tryz.prog 125 = some [(40, 0), (3, 1)] := by kernel_rfl
@[simp] theorem zv2 : Tryz.prog.eqGuardType Tryz.prog.depth 125 = false := by kernel_rfl
@[simp] theorem zv3 : tsz Tryz.prog 129 = some 1 := by kernel_rfl
@[simp] theorem zv4 : zaf Tryz.prog 129 = some 24 := by kernel_rfl
@[simp] theorem zv5 : zah Tryz.prog 129 = some (.slice none 0 0) := by kernel_rfl
@[simp] theorem zv6 : zZ Tryz.prog 129 = some false := by simp [zZ, Tryz.underlying129]
@[simp] theorem zv7 : zQ Tryz.prog 129 = none := by simp [zQ, Tryz.underlying129]
@[simp] theorem zrj : zaH Tryz.prog 129 = some 52 := by kernel_rfl
@[simp] theorem zv8 : tsz Tryz.prog 131 = some 1 := by kernel_rfl
@[simp] theorem zv9 : zaf Tryz.prog 131 = some 8 := by kernel_rfl
@[simp] theorem zwa : zah Tryz.prog 131 = some .nilFunc := by kernel_rfl
@[simp] theorem zwb : zZ Tryz.prog 131 = some false := by simp [zZ, Tryz.underlying131]
@[simp] theorem zwc : zQ Tryz.prog 131 = none := by simp [zQ, Tryz.underlying131]
@[simp] theorem zwd : tsz Tryz.prog 139 = some 1 := by kernel_rfl
@[simp] theorem zwe : zaf Tryz.prog 139 = some 8 := by kernel_rfl
@[simp] theorem zwf : zah Tryz.prog 139 = some (.pointer none) := by kernel_rfl
@[simp] theorem zwg : zZ Tryz.prog 139 = some false := by simp [zZ, Tryz.underlying139]
@[simp] theorem zwh : zQ Tryz.prog 139 = none := by simp [zQ, Tryz.underlying139]
@[simp] theorem zwi : zgv Tryz.prog 139 = true := by kernel_rfl
@[simp] theorem zwj : tsz Tryz.prog 141 = some 1 := by kernel_rfl
@[simp] theorem zwk : zaf Tryz.prog 141 = some 8 := by kernel_rfl
@[simp] theorem zwl : zah Tryz.prog 141 = some (.agg #[(.pointer none)]) := by kernel_rfl
@[simp] theorem zwm : zZ Tryz.prog 141 = some true := by simp [zZ, Tryz.underlying141]
@[simp] theorem zwn : zQ Tryz.prog 141 = none := by simp [zQ, Tryz.underlying141]
@[simp] theorem zwo : zaY Tryz.prog 141 = true := by kernel_rfl
@[simp] theorem zwp : zcA Tryz.prog 141 = true := by kernel_rfl
@[simp] theorem zub : zag Tryz.prog 141 0 = some (139, 0) := by kernel_rfl
@[simp] theorem zwq : zbh Tryz.prog 141 = some [(139, 0)] := by kernel_rfl
@[simp] theorem zwr : Tryz.prog.eqGuardType Tryz.prog.depth 141 = false := by kernel_rfl
@[simp] theorem zws : tsz Tryz.prog 149 = some 1 := by kernel_rfl
@[simp] theorem zwt : zaf Tryz.prog 149 = some 24 := by kernel_rfl
@[simp] theorem zwu : zah Tryz.prog 149 = some (.slice none 0 0) := by kernel_rfl
@[simp] theorem zwv : zZ Tryz.prog 149 = some false := by simp [zZ, Tryz.underlying149]
@[simp] theorem zww : zQ Tryz.prog 149 = none := by simp [zQ, Tryz.underlying149]
@[simp] theorem zrk : zaH Tryz.prog 149 = some 40 := by kernel_rfl
@[simp] theorem zwx : tsz Tryz.prog 154 = some 6 := by kernel_rfl
@[simp] theorem zwy : zaf Tryz.prog 154 = some 48 := by kernel_rfl
@[simp] theorem zwz : zah Tryz.prog 154 = some (.agg #[(.int .u64 (0)), (.int .i64 (0)), (.pointer none), (.pointer none), (.int .i64 (0)), (.int .i64 (0))]) := by kernel_rfl
@[simp] theorem zwA : zZ Tryz.prog 154 = some true := by simp [zZ, Tryz.underlying154]
@[simp] theorem zwB : zQ Tryz.prog 154 = none := by simp [zQ, Tryz.underlying154]
@[simp] theorem zwC : zaY Tryz.prog 154 = true := by kernel_rfl
@[simp] theorem zwD : zcA Tryz.prog 154 = true := by kernel_rfl
@[simp] theorem zuc : zag Tryz.prog 154 0 = some (125, 0) := by kernel_rfl
@[simp] theorem zud : zag Tryz.prog 154 1 = some (139, 2) := by kernel_rfl
@[simp] theorem zue : zag Tryz.prog 154 2 = some (139, 3) := by kernel_rfl
@[simp] theorem zuf : zag Tryz.prog 154 3 = some (3, 4) := by kernel_rfl
@[simp] theorem zug : zag Tryz.prog 154 4 = some (3, 5) := by kernel_rfl
@[simp] theorem zwE : zbh Tryz.prog 154 = some [(125, 0), (139, 2), (139, 3), (3, 4), (3, 5)] := by kernel_rfl
@[simp] theorem zwF : Tryz.prog.eqGuardType Tryz.prog.depth 154 = false := by kernel_rfl
@[simp] theorem zwG : tsz Tryz.prog 155 = some 1 := by kernel_rfl
@[simp] theorem zwH : zaf Tryz.prog 155 = some 8 := by kernel_rfl
@[simp] theorem zwI : zah Tryz.prog 155 = some (.map none) := by kernel_rfl
@[simp] theorem zwJ : zZ Tryz.prog 155 = some false := by simp [zZ, Tryz.underlying155]
@[simp] theorem zwK : zQ Tryz.prog 155 = none := by simp [zQ, Tryz.underlying155]
@[simp] theorem zwL : zlN Tryz.prog 155 = true := by kernel_rfl
@[simp] theorem zoS : zem Tryz.prog 155 = some (52, 52) := by kernel_rfl
@[simp] theorem zwM : tsz Tryz.prog 161 = some 1 := by kernel_rfl
@[simp] theorem zwN : zaf Tryz.prog 161 = some 8 := by kernel_rfl
@[simp] theorem zwO : zah Tryz.prog 161 = some (.int .u64 (0)) := by kernel_rfl
@[simp] theorem zwP : zZ Tryz.prog 161 = some false := by simp [zZ, Tryz.underlying161]
@[simp] theorem zwQ : zQ Tryz.prog 161 = none := by simp [zQ, Tryz.underlying161]
@[simp] theorem zwR : zc6 Tryz.prog 161 = some .u64 := by kernel_rfl
@[simp] theorem zwS : zcf Tryz.prog 161 = true := by kernel_rfl
@[simp] theorem zwT : tsz Tryz.prog 181 = some 1 := by kernel_rfl
@[simp] theorem zwU : zaf Tryz.prog 181 = some 8 := by kernel_rfl
@[simp] theorem zwV : zah Tryz.prog 181 = some (.int .u64 (0)) := by kernel_rfl
@[simp] theorem zwW : zZ Tryz.prog 181 = some false := by simp [zZ, Tryz.underlying181]
@[simp] theorem zwX : zQ Tryz.prog 181 = none := by simp [zQ, Tryz.underlying181]
@[simp] theorem zwY : zc6 Tryz.prog 181 = some .u64 := by kernel_rfl
@[simp] theorem zwZ : zcf Tryz.prog 181 = true := by kernel_rfl
theorem zlG : SlT Tryz.prog 22 1 8 := ⟨⟨3, _, zsL, zt1, zt2, zt3, rfl, by decide, by decide⟩⟩
theorem zzw : SlT Tryz.prog 23 4 32 := ⟨⟨101, _, zsM, zrg, zrh, zri, rfl, by decide, by decide⟩⟩
theorem zqk : SlT Tryz.prog 26 7 48 := ⟨⟨79, _, zsN, zs2, zs3, zs4, rfl, by decide, by decide⟩⟩
theorem zfM : SlT Tryz.prog 31 2 8 := ⟨⟨48, _, zsR, zsV, zsW, zsX, rfl, by decide, by decide⟩⟩
theorem zzx : SlT Tryz.prog 50 3 72 := ⟨⟨28, _, zsY, zsO, zsP, zsQ, rfl, by decide, by decide⟩⟩
theorem zrl : SlT Tryz.prog 129 2 16 := ⟨⟨52, _, zrj, zsZ, zs0, zs1, rfl, by decide, by decide⟩⟩
theorem zrm : SlT Tryz.prog 149 1 8 := ⟨⟨40, _, zrk, zsS, zsT, zsU, rfl, by decide, by decide⟩⟩
theorem zc8 : Tryz.prog.follows .mixedOrders = true := by kernel_rfl
end Go.Proofs.YtpboabpapgimoaaGreat.Av
namespace Go.Proofs.YtpboabpapgimoaaGreat.Av
set_option linter.unusedSimpArgs false
set_option linter.unusedVariables false
open Go
theorem Ext.setF {σ τ : St} {i : Id} {o : Ob} (h : Ext σ τ) (hi : σ.m i = none) : Ext σ (τ.set i o) := ⟨fun j p hj => by
    have hne : j ≠ i := fun e => by rw [e, hi] at hj; cases hj
    simp only [St.set, hne, false_and, if_false]
    exact h.m j p hj, h.nx⟩
theorem zka {τ : St} {i : Id} {o p : Ob} (h : τ.m i = some p) : (τ.set i o).m i = some o := by simp [St.set, h]
theorem zhA {τ : St} {i j : Id} {o : Ob} (h : j ≠ i) : (τ.set i o).m j = τ.m j := by simp [St.set, h]
theorem zt {σ : St} {slot sz : Nat} {o : Ob} {j : Id} : (σ.new slot sz o).m j = if j = ⟨slot, σ.nx slot, sz⟩ then some o else σ.m j := rfl
theorem zD {σ : St} {i j : Id} {o : Ob} : (σ.set i o).m j = if j = i ∧ (σ.m i).isSome = true then some o else σ.m j := rfl
theorem za {σ : St} {slot sz s : Nat} {o : Ob} : (σ.new slot sz o).nx s = if s = slot then σ.nx s + 1 else σ.nx s := rfl
section
variable {P : Program} {N : Nat} {A : zL} {σ σ0 : St} {r : Option Nat} {K : Exit → zL → St → Prop}
def zfN (v : AV) (X Y : Prop) : Prop := zfK v X Y
@[congr] theorem zse {tk : Prop} (hx : (True ∧ True) = tk) {v v' : AV} {X Y : Prop} (h : v = v') : zfN v X Y = zfN v' X Y := by rw [h]
@[simp] theorem zu7 {X Y : Prop} : zfN (.raw (.bool true)) X Y = X := by simp [zfN, zfK]
@[simp] theorem zu8 {X Y : Prop} : zfN (.raw (.bool false)) X Y = Y := by simp [zfN, zfK]
theorem zm {c : Operand} {x y : Code} (h : zfN (zA A c) (AWP P r N x K A σ) (AWP P r N y K A σ)) : AWP P r N (.cond c x y) K A σ := zcQ h
theorem zd {b : Bool} {X Y : Prop} (h1 : b = true → X) (h2 : b = false → Y) : zfN (.raw (.bool b)) X Y := ⟨h1, h2⟩
def znU (P : Program) (r : Option Nat) (N : Nat) (c : Code) (K : Exit → zL → St → Prop) (A : zL) (σ : St) : Prop := match c with
  | .skip => K .normal A σ
  | .exit n => K (.exit n) A σ
  | .ret => K .ret A σ
  | c => AWP P r N c K A σ
theorem zF {c : Code} (h : znU P r N c K A σ) : AWP P r N c K A σ := by
  cases c <;> first | exact zen h | exact zgC h | exact zfd h | exact h
theorem zG : znU P r N .skip K A σ = K .normal A σ ∧ (∀ n, znU P r N (.exit n) K A σ = K (.exit n) A σ) ∧ znU P r N .ret K A σ = K .ret A σ := ⟨rfl, fun _ => rfl, rfl⟩
theorem dN {id : Nat} {ops : List Oper} (hc : zj7 ops (fun _ => false) = true) (h : dops Tryz.prog N (ops.map (zcG ops fun _ => false)) A σ (K .normal)) : AWP Tryz.prog r N (.region id ops.toArray true) K A σ := zbF _ zc8 hc h
theorem dC {id : Nat} {ops : List Oper} (hc : zj7 ops zh4 = true) (h : dops Tryz.prog N (ops.map (zcG ops zh4)) A σ (K .normal)) : AWP Tryz.prog r N (.region id ops.toArray true) K A σ := zbF _ zc8 hc h
theorem uP {f : FuncId} {args : List AV} {rv : AV} {K : AV → St → Prop} (h : PCalls P f args rv) (k : K rv σ) : ACalls P f args σ K := h.use k
theorem uD {f : FuncId} {args : List AV} {rv : AV} {X : Prop} {m : Mem} {K : AV → St → Prop} (h : PCalls P f args rv) (k : K rv σ) : (∃ r, RCalls P m f args r ∧ K r σ) ∨ X := .inl ⟨_, .inl h, k⟩
theorem nsE : (∀ {σ : St} {slot sz : Nat} {o : Ob} {j : Id}, (σ.new slot sz o).m j = if j = ⟨slot, σ.nx slot, sz⟩ then some o else σ.m j) ∧ (∀ {σ : St} {i j : Id} {o : Ob}, (σ.set i o).m j = if j = i ∧ (σ.m i).isSome = true then some o else σ.m j) ∧ (∀ {σ : St} {slot sz s : Nat} {o : Ob}, (σ.new slot sz o).nx s = if s = slot then σ.nx s + 1 else σ.nx s) := ⟨rfl, rfl, rfl⟩
end
structure Hd (H : Prop) : Prop where
  h : H
theorem gxA {G : Prop} (w : G := by (try ((first | with_reducible refine zs ?_ | with_reducible refine zx ?_ | with_reducible refine zy ?_); simp [-cellOK, FF])); repeat' (first | ((first | refine zm ?_ | refine zl ?_ | refine dN (by decide +kernel) ?_ | refine dC (by decide +kernel) ?_ | refine uP (by assumption) ?_ | refine .inl ⟨_, .inl (by assumption), ?_⟩ | (refine zb ?_ ?_ <;> (intro hg; simp only [hg])) | fail) <;> simp [-cellOK, FF]) | refine zf ?_ | refine zg ?_ | (refine zF ?_; simp only [zG]; try simp) | (refine zq (by simp) ?_; simp) | (refine zam (by simp) (by simp [noIds]) (by repeat (first | assumption | exact Ext.refl _ | refine zK ?_ | refine Ext.setF ?_ (by first | assumption | (simp [za, St.set, zc]; done) | exact zI (by assumption)))) ?_; simp [-cellOK, FF, nsE]) | (refine zd (fun hc => ?_) (fun hc => ?_) <;> try simp at hc) | fail)) : G := w
theorem gxB {G H : Prop} (k : H) (w : Hd H → G := by intro hH; (try ((first | with_reducible refine zs ?_ | with_reducible refine zx ?_ | with_reducible refine zy ?_); simp [-cellOK, FF])); (repeat' (first | ((first | refine zm ?_ | refine zl ?_ | refine dN (by decide +kernel) ?_ | refine dC (by decide +kernel) ?_ | refine uP (by assumption) ?_ | refine .inl ⟨_, .inl (by assumption), ?_⟩ | (refine zb ?_ ?_ <;> (intro hg; simp only [hg])) | fail) <;> simp [-cellOK, FF]) | refine zf ?_ | refine zg ?_ | (refine zF ?_; simp only [zG]; try simp) | (refine zq (by simp) ?_; simp) | (refine zam (by simp) (by simp [noIds]) (by repeat (first | assumption | exact Ext.refl _ | refine zK ?_ | refine Ext.setF ?_ (by first | assumption | (simp [za, St.set, zc]; done) | exact zI (by assumption)))) ?_; simp [-cellOK, FF, nsE]) | (refine zd (fun hc => ?_) (fun hc => ?_) <;> try simp at hc) | fail)); exact hH.h) : G := w ⟨k⟩
theorem gxC {G H : Prop} (k : H) (w : Hd H → G := by intro hH; (try ((first | with_reducible refine zs ?_ | with_reducible refine zx ?_ | with_reducible refine zy ?_); simp [-cellOK, FF])); (repeat' (first | ((first | refine zm ?_ | refine zl ?_ | refine dN (by decide +kernel) ?_ | refine dC (by decide +kernel) ?_ | refine uP (by assumption) ?_ | refine .inl ⟨_, .inl (by assumption), ?_⟩ | (refine zb ?_ ?_ <;> (intro hg; simp only [hg])) | fail) <;> simp [-cellOK, FF]) | refine zf ?_ | refine zg ?_ | (refine zF ?_; simp only [zG]; try simp) | (refine zd (fun hc => ?_) (fun hc => ?_) <;> try simp at hc) | fail)); exact hH.h) : G := w ⟨k⟩
theorem goA {G : Prop} (w : G := by (try ((first | with_reducible refine zs ?_ | with_reducible refine zx ?_ | with_reducible refine zy ?_); simp [FF])); repeat' (first | ((first | refine zm ?_ | refine zl ?_ | refine dN (by decide +kernel) ?_ | (refine zb ?_ ?_ <;> (intro hg; simp only [hg])) | fail) <;> simp [FF]) | refine zf ?_ | refine zg ?_ | (refine zF ?_; simp only [zG]; try simp) | ((first | refine zq (by simp) ?_ | refine zu (by simp) (by simp) (by simp (maxDischargeDepth := 30) [FF]) ?_ | fail); simp) | (refine zd (fun hc => ?_) (fun hc => ?_) <;> try simp at hc) | fail)) : G := w
theorem zB {G H : Prop} (k : H) (w : Hd H → G := by intro hH; (try ((first | with_reducible refine zs ?_ | with_reducible refine zx ?_ | with_reducible refine zy ?_); simp [FF])); (repeat' (first | ((first | refine zm ?_ | refine zl ?_ | refine dN (by decide +kernel) ?_ | (refine zb ?_ ?_ <;> (intro hg; simp only [hg])) | fail) <;> simp [FF]) | refine zf ?_ | refine zg ?_ | (refine zF ?_; simp only [zG]; try simp) | ((first | refine zq (by simp) ?_ | refine zu (by simp) (by simp) (by simp (maxDischargeDepth := 30) [FF]) ?_ | fail); simp) | (refine zd (fun hc => ?_) (fun hc => ?_) <;> try simp at hc) | fail)); exact hH.h) : G := w ⟨k⟩
theorem goC {G H : Prop} (k : H) (w : Hd H → G := by intro hH; (try ((first | with_reducible refine zs ?_ | with_reducible refine zx ?_ | with_reducible refine zy ?_); simp [FF])); (repeat' (first | ((first | refine zm ?_ | refine zl ?_ | refine dN (by decide +kernel) ?_ | (refine zb ?_ ?_ <;> (intro hg; simp only [hg])) | fail) <;> simp [FF]) | refine zf ?_ | refine zg ?_ | (refine zF ?_; simp only [zG]; try simp) | (refine zd (fun hc => ?_) (fun hc => ?_) <;> try simp at hc) | fail)); exact hH.h) : G := w ⟨k⟩
theorem goN {G : Prop} (w : G := by (try ((first | with_reducible refine zs ?_ | with_reducible refine zx ?_ | with_reducible refine zy ?_); simp [FF])); repeat' (first | ((first | refine zl ?_ | refine dN (by decide +kernel) ?_ | (refine zb ?_ ?_ <;> (intro hg; simp only [hg])) | fail) <;> simp [FF]) | refine zf ?_ | refine zg ?_ | (refine zF ?_; simp only [zG]; try simp) | ((first | refine zq (by simp) ?_ | refine zu (by simp) (by simp) (by simp (maxDischargeDepth := 30) [FF]) ?_ | fail); simp) | (apply zd2; focus (simp [FF]; done)) | (apply zd3; focus (simp [FF]; done)) | fail)) : G := w
theorem goM {G H : Prop} (k : H) (w : Hd H → G := by intro hH; (try ((first | with_reducible refine zs ?_ | with_reducible refine zx ?_ | with_reducible refine zy ?_); simp [FF])); (repeat' (first | ((first | refine zl ?_ | refine dN (by decide +kernel) ?_ | (refine zb ?_ ?_ <;> (intro hg; simp only [hg])) | fail) <;> simp [FF]) | refine zf ?_ | refine zg ?_ | (refine zF ?_; simp only [zG]; try simp) | ((first | refine zq (by simp) ?_ | refine zu (by simp) (by simp) (by simp (maxDischargeDepth := 30) [FF]) ?_ | fail); simp) | (apply zd2; focus (simp [FF]; done)) | (apply zd3; focus (simp [FF]; done)) | fail)); exact hH.h) : G := w ⟨k⟩
theorem zme {G : Prop} (w : G := by (try ((first | with_reducible refine zs ?_ | with_reducible refine zx ?_ | with_reducible refine zy ?_); simp [-cellOK])); repeat' (first | ((first | refine zm ?_ | refine zl ?_ | refine dN (by decide +kernel) ?_ | refine dC (by decide +kernel) ?_ | refine uP (by assumption) ?_ | refine .inl ⟨_, .inl (by assumption), ?_⟩ | (refine zb ?_ ?_ <;> (intro hg; simp only [hg])) | fail) <;> simp [-cellOK]) | refine zf ?_ | refine zg ?_ | (refine zF ?_; simp only [zG]; try simp) | (refine zq (by simp) ?_; simp) | (refine zam (by simp) (by simp [noIds]) (by repeat (first | assumption | exact Ext.refl _ | refine zK ?_ | refine Ext.setF ?_ (by first | assumption | (simp [za, St.set, zc]; done) | exact zI (by assumption)))) ?_; simp [-cellOK, nsE]) | (refine zd (fun hc => ?_) (fun hc => ?_) <;> try simp at hc) | fail)) : G := w
theorem zpR {G H : Prop} (k : H) (w : Hd H → G := by intro hH; (try ((first | with_reducible refine zs ?_ | with_reducible refine zx ?_ | with_reducible refine zy ?_); simp [-cellOK])); (repeat' (first | ((first | refine zm ?_ | refine zl ?_ | refine dN (by decide +kernel) ?_ | refine dC (by decide +kernel) ?_ | refine uP (by assumption) ?_ | refine .inl ⟨_, .inl (by assumption), ?_⟩ | (refine zb ?_ ?_ <;> (intro hg; simp only [hg])) | fail) <;> simp [-cellOK]) | refine zf ?_ | refine zg ?_ | (refine zF ?_; simp only [zG]; try simp) | (refine zq (by simp) ?_; simp) | (refine zam (by simp) (by simp [noIds]) (by repeat (first | assumption | exact Ext.refl _ | refine zK ?_ | refine Ext.setF ?_ (by first | assumption | (simp [za, St.set, zc]; done) | exact zI (by assumption)))) ?_; simp [-cellOK, nsE]) | (refine zd (fun hc => ?_) (fun hc => ?_) <;> try simp at hc) | fail)); exact hH.h) : G := w ⟨k⟩
theorem zmf {G H : Prop} (k : H) (w : Hd H → G := by intro hH; (try ((first | with_reducible refine zs ?_ | with_reducible refine zx ?_ | with_reducible refine zy ?_); simp [-cellOK])); (repeat' (first | ((first | refine zm ?_ | refine zl ?_ | refine dN (by decide +kernel) ?_ | refine dC (by decide +kernel) ?_ | refine uP (by assumption) ?_ | refine .inl ⟨_, .inl (by assumption), ?_⟩ | (refine zb ?_ ?_ <;> (intro hg; simp only [hg])) | fail) <;> simp [-cellOK]) | refine zf ?_ | refine zg ?_ | (refine zF ?_; simp only [zG]; try simp) | (refine zd (fun hc => ?_) (fun hc => ?_) <;> try simp at hc) | fail)); exact hH.h) : G := w ⟨k⟩
theorem zgQ {G : Prop} (w : G := by (try ((first | with_reducible refine zs ?_ | with_reducible refine zx ?_ | with_reducible refine zy ?_); simp)); repeat' (first | ((first | refine zm ?_ | refine zl ?_ | refine dN (by decide +kernel) ?_ | (refine zb ?_ ?_ <;> (intro hg; simp only [hg])) | fail) <;> simp) | refine zf ?_ | refine zg ?_ | (refine zF ?_; simp only [zG]; try simp) | ((first | refine zq (by simp) ?_ | refine zu (by simp) (by simp) (by simp (maxDischargeDepth := 30)) ?_ | fail); simp) | (refine zd (fun hc => ?_) (fun hc => ?_) <;> try simp at hc) | fail)) : G := w
theorem za0 {G H : Prop} (k : H) (w : Hd H → G := by intro hH; (try ((first | with_reducible refine zs ?_ | with_reducible refine zx ?_ | with_reducible refine zy ?_); simp)); (repeat' (first | ((first | refine zm ?_ | refine zl ?_ | refine dN (by decide +kernel) ?_ | (refine zb ?_ ?_ <;> (intro hg; simp only [hg])) | fail) <;> simp) | refine zf ?_ | refine zg ?_ | (refine zF ?_; simp only [zG]; try simp) | ((first | refine zq (by simp) ?_ | refine zu (by simp) (by simp) (by simp (maxDischargeDepth := 30)) ?_ | fail); simp) | (refine zd (fun hc => ?_) (fun hc => ?_) <;> try simp at hc) | fail)); exact hH.h) : G := w ⟨k⟩
theorem znV {G H : Prop} (k : H) (w : Hd H → G := by intro hH; (try ((first | with_reducible refine zs ?_ | with_reducible refine zx ?_ | with_reducible refine zy ?_); simp)); (repeat' (first | ((first | refine zm ?_ | refine zl ?_ | refine dN (by decide +kernel) ?_ | (refine zb ?_ ?_ <;> (intro hg; simp only [hg])) | fail) <;> simp) | refine zf ?_ | refine zg ?_ | (refine zF ?_; simp only [zG]; try simp) | (refine zd (fun hc => ?_) (fun hc => ?_) <;> try simp at hc) | fail)); exact hH.h) : G := w ⟨k⟩
theorem goD {G H : Prop} (k : H) (w : Hd H → G := by intro hH; (try ((first | with_reducible refine zs ?_ | with_reducible refine zx ?_ | with_reducible refine zy ?_); simp)); exact hH.h) : G := w ⟨k⟩
theorem exA {σ τ : St} (w : Ext σ τ := by repeat (first | assumption | exact Ext.refl _ | refine zK ?_ | refine Ext.setF ?_ (by first | assumption | (simp [za, St.set, zc]; done) | exact zI (by assumption)))) : Ext σ τ := w
theorem fI {a b : Prop} (h : a) (k : b) : a ∧ b := ⟨h, k⟩
end Go.Proofs.YtpboabpapgimoaaGreat.Av
namespace Go.Proofs.YtpboabpapgimoaaGreat.Av
open Go
set_option linter.unusedSimpArgs false
set_option linter.unusedVariables false
set_option maxRecDepth 100000
set_option maxHeartbeats 1000000
set_option pp.maxSteps 300
structure Pt where
  dev : Int
  port : Int
deriving DecidableEq
structure Lk where
  a : Pt
  b : Pt
deriving DecidableEq
structure Rg where
  lo : Int
  hi : Int
deriving DecidableEq
structure Ru where
  id : Int
  dev : Int
  prio : Int
  kind : Int
  r : Rg
  port : Int
deriving DecidableEq
structure Tp where
  ports : List Int
  links : List Lk
deriving DecidableEq
structure Nw where
  t : Tp
  rules : List Ru
deriving DecidableEq
def iAV (n : Int) : AV := .raw (.int .i64 n)
def uAV (n : Int) : AV := .raw (.int .u32 n)
def zS (p : Pt) : AV := .agg [.raw (.int .i64 p.dev), .raw (.int .i64 p.port)]
def ziI (l : Lk) : AV := .agg [.raw (.int .i64 l.a.dev), .raw (.int .i64 l.a.port), .raw (.int .i64 l.b.dev), .raw (.int .i64 l.b.port)]
def zp (r : Rg) : AV := .agg [.raw (.int .u32 r.lo), .raw (.int .u32 r.hi)]
def zab (r : Ru) : AV := .agg [.raw (.int .i64 r.id), .raw (.int .i64 r.dev), .raw (.int .i64 r.prio), .raw (.int .i64 r.kind), .raw (.int .u32 r.r.lo), .raw (.int .u32 r.r.hi), .raw (.int .i64 r.port)]
def zh (l : List Int) (f : Bool) : AV := .sl 1 (l.map iAV) f
def zC (l : List Lk) (f : Bool) : AV := .sl 4 (l.map ziI) f
def zz (l : List Ru) (f : Bool) : AV := .sl 7 (l.map zab) f
structure Fl where
  p : Bool
  l : Bool
  r : Bool
def zbJ (t : Tp) (f : Fl) : AV := .agg [zh t.ports f.p, zC t.links f.l]
def zR (n : Nw) (f : Fl) : AV := .agg [zh n.t.ports f.p, zC n.t.links f.l, zz n.rules f.r]
def hasB (t : Tp) (p : Pt) : Bool := decide (0 ≤ p.dev) && match t.ports[p.dev.toNat]? with | some n => decide (0 ≤ p.port) && decide (p.port < n) | none => false
theorem zcu (n b : Int) : PCalls Tryz.prog 107 [.raw (.int .i64 n), .raw (.int .i64 b)] (.raw (.bool (decide (0 ≤ n) && decide (n ≤ b)))) := by
  refine zE Tryz.func107 rfl (N := 12) rfl rfl (by simp) (by simp [noIds]) fun σ => ?_
  exact zgQ
def zd5 (r : Ru) (d a : Int) : Bool := decide (r.dev = d) && (decide (r.r.lo ≤ a) && decide (a ≤ r.r.hi))
theorem ziq (r : Ru) (d a : Int) : PCalls Tryz.prog 118 [zab r, .raw (.int .i64 d), .raw (.int .u32 a)] (.raw (.bool (zd5 r d a))) := by
  refine zE Tryz.func118 rfl (N := 25) rfl rfl (by simp) (by simp [noIds]) fun σ => ?_
  (try ((first | with_reducible refine zs ?_ | with_reducible refine zx ?_ | with_reducible refine zy ?_); simp [zab])); repeat' (first | ((first | refine zm ?_ | refine zl ?_ | refine dN (by decide +kernel) ?_ | (refine zb ?_ ?_ <;> (intro hg; simp only [hg])) | fail) <;> simp [zab]) | refine zf ?_ | refine zg ?_ | (refine zF ?_; simp only [zG]; try simp) | ((first | refine zq (by simp) ?_ | refine zu (by simp) (by simp) (by simp (maxDischargeDepth := 30) [zab]) ?_ | fail); simp) | (refine zd (fun hc => ?_) (fun hc => ?_) <;> try simp at hc) | fail)
  all_goals (simp_all [zd5] <;> intros <;> omega)
theorem isNaN_calls (a : Int) : PCalls Tryz.prog 148 [.raw (.int .i64 a)] (.raw (.bool false)) := by
  refine zE Tryz.func148 rfl (N := 6) rfl rfl (by simp) (by simp [noIds]) fun σ => ?_
  exact zgQ
def cmpI (a b : Int) : Int := if a < b then -1 else if b < a then 1 else 0
theorem compare_calls (a b : Int) : PCalls Tryz.prog 146 [.raw (.int .i64 a), .raw (.int .i64 b)] (.raw (.int .i64 (cmpI a b))) := by
  refine zE Tryz.func146 rfl (N := 20) rfl rfl (by simp) (by simp [noIds]) fun σ => ?_
  refine za0 ?_
  refine PCalls.use (isNaN_calls a) ?_
  refine za0 ?_
  refine PCalls.use (isNaN_calls b) ?_
  (try ((first | with_reducible refine zs ?_ | with_reducible refine zx ?_ | with_reducible refine zy ?_); simp [cmpI])); repeat' (first | ((first | refine zm ?_ | refine zl ?_ | refine dN (by decide +kernel) ?_ | (refine zb ?_ ?_ <;> (intro hg; simp only [hg])) | fail) <;> simp [cmpI]) | refine zf ?_ | refine zg ?_ | (refine zF ?_; simp only [zG]; try simp) | ((first | refine zq (by simp) ?_ | refine zu (by simp) (by simp) (by simp (maxDischargeDepth := 30) [cmpI]) ?_ | fail); simp) | (refine zd (fun hc => ?_) (fun hc => ?_) <;> try simp at hc) | fail)
  all_goals (unfold cmpI; (repeat' split) <;> omega)
end Go.Proofs.YtpboabpapgimoaaGreat.Av
namespace Go.Proofs.YtpboabpapgimoaaGreat.Av
open Go
set_option linter.unusedSimpArgs false
set_option linter.unusedVariables false
set_option maxRecDepth 100000
set_option maxHeartbeats 1000000
set_option pp.maxSteps 300
def idxOf {T : Type} (p : T → Bool) (z : List T) : Int := if z.any p then (z.findIdx p : Nat) else -1
theorem idxOf_here {T : Type} {p : T → Bool} {z : List T} {i : Nat} {x : T} (hx : z[i]? = some x) (hp : p x = true) (hn : ∀ j, j < i → ∀ y, z[j]? = some y → p y = false) : idxOf p z = i := by
  unfold idxOf
  obtain ⟨hi, he⟩ := List.getElem?_eq_some_iff.1 hx
  rw [if_pos (List.any_eq_true.2 ⟨x, List.mem_of_getElem? hx, hp⟩)]
  congr 1
  rw [List.findIdx_eq hi]
  refine ⟨by rw [he]; exact hp, fun j hj => ?_⟩
  exact hn j hj _ (List.getElem?_eq_getElem (by omega))
theorem idxOf_none {T : Type} {p : T → Bool} {z : List T} (hn : ∀ j, j < z.length → ∀ y, z[j]? = some y → p y = false) : idxOf p z = -1 ∧ z.any p = false := by
  have : z.any p = false := by
    rw [List.any_eq_false]
    intro x hx
    obtain ⟨j, hj⟩ := List.getElem?_of_mem hx
    simp [hn j (List.getElem?_eq_some_iff.1 hj).1 x hj]
  exact ⟨by unfold idxOf; rw [this]; rfl, this⟩
theorem idxOf_any {T : Type} (p : T → Bool) (z : List T) : decide (0 ≤ idxOf p z) = z.any p := by
  unfold idxOf
  cases z.any p <;> simp
theorem zM (r : Ru) : (zab r).cells = [.raw (.int .i64 r.id), .raw (.int .i64 r.dev), .raw (.int .i64 r.prio), .raw (.int .i64 r.kind), .raw (.int .u32 r.r.lo), .raw (.int .u32 r.r.hi), .raw (.int .i64 r.port)] := rfl
theorem zbR (n : Int) : (iAV n).cells = [.raw (.int .i64 n)] := rfl
theorem zli {g : FuncId} {caps : List AV} {p : Ru → Bool} (z : List Ru) (fz : Bool) (hl : z.length < 2 ^ 60) (hg : ∀ r ∈ z, PCalls Tryz.prog g (zab r :: caps) (.raw (.bool (p r)))) :
    PCalls Tryz.prog 144 [zz z fz, .fn (.func g) [] caps] (.raw (.int .i64 (idxOf p z))) := by
  refine zE Tryz.func144 rfl (N := 19) rfl rfl (by simp) (by simp [noIds]) fun σ => ?_
  have FF := zz.eq_1; refine zB ?_; clear FF
  refine zO (fun n A τ => τ = σ ∧ A 0 = zz z fz ∧ A 1 = .fn (.func g) [] caps ∧ A 7 = .raw (.int .i64 z.length) ∧ ∃ i : Nat, A 8 = .raw (.int .i64 i) ∧ i ≤ z.length ∧ n = z.length - i ∧ ∀ j, j < i → ∀ y, z[j]? = some y → p y = false) z.length ?_ ?_
  · exact ⟨rfl, by simp [zz], by simp, by simp, 0, by simp, by omega, by omega, fun j h => by omega⟩
  rintro n A τ ⟨rfl, a0, a1, a7, i, a8, hi, rfl, hn⟩ I1 hI1
  by_cases hlt : i < z.length
  · have hx : z[i]? = some z[i] := List.getElem?_eq_getElem hlt
    have w1 : IntKind.i64.wrap ((i : Int) + 1) = ((i + 1 : Nat) : Int) := by rw [zo (by omega) (by omega)]; omega
    have hr : AV.agg [.raw (.int .i64 z[i].id), .raw (.int .i64 z[i].dev), .raw (.int .i64 z[i].prio), .raw (.int .i64 z[i].kind), .raw (.int .u32 z[i].r.lo), .raw (.int .u32 z[i].r.hi), .raw (.int .i64 z[i].port)] = zab z[i] := rfl
    (try ((first | with_reducible refine zs ?_ | with_reducible refine zx ?_ | with_reducible refine zy ?_); simp [zz, a0, a1, a7, a8, hlt, hx, zM, hr])); repeat' (first | ((first | refine zm ?_ | refine zl ?_ | refine dN (by decide +kernel) ?_ | (refine zb ?_ ?_ <;> (intro hg; simp only [hg])) | fail) <;> simp [zz, a0, a1, a7, a8, hlt, hx, zM, hr]) | refine zf ?_ | refine zg ?_ | (refine zF ?_; simp only [zG]; try simp) | ((first | refine zq (by simp) ?_ | refine zu (by simp) (by simp) (by simp (maxDischargeDepth := 30) [zz, a0, a1, a7, a8, hlt, hx, zM, hr]) ?_ | fail); simp) | (refine zd (fun hc => ?_) (fun hc => ?_) <;> try simp at hc) | fail)
    refine PCalls.use (hg z[i] (List.getElem_mem _)) ?_
    cases hp : p z[i] with
    | true =>
      have FF := fI zz.eq_1 (fI @a0 (fI @a1 (fI @a7 (fI @a8 (fI @hlt (fI @hx (fI @zM @hr))))))); refine zB ?_; clear FF
      exact (idxOf_here hx hp hn).symm
    | false =>
      have FF := fI zz.eq_1 (fI @a0 (fI @a1 (fI @a7 (fI @a8 (fI @hlt (fI @hx (fI @zM @hr))))))); refine zB ?_; clear FF
      refine hI1 (z.length - (i + 1)) _ _ (by omega) ⟨rfl, by simp [a0], by simp [a1], by simp [a7], i + 1, by simp [w1], by omega, rfl, fun j hj y hy => ?_⟩
      by_cases e : j = i
      · subst e; rw [hx] at hy; injection hy with hy; subst hy; exact hp
      · exact hn j (by omega) y hy
  · have hi' : i = z.length := by omega
    subst hi'
    have w1 : IntKind.i64.wrap (-1) = -1 := zo (by omega) (by omega)
    have FF := fI zz.eq_1 (fI @a0 (fI @a1 (fI @a7 (fI @a8 @w1)))); refine zB ?_; clear FF
    exact (idxOf_none hn).1.symm
theorem zkb {g : FuncId} {caps : List AV} {p : Int → Bool} (z : List Int) (fz : Bool) (hl : z.length < 2 ^ 60) (hg : ∀ r ∈ z, PCalls Tryz.prog g (iAV r :: caps) (.raw (.bool (p r)))) :
    PCalls Tryz.prog 86 [zh z fz, .fn (.func g) [] caps] (.raw (.int .i64 (idxOf p z))) := by
  refine zE Tryz.func86 rfl (N := 19) rfl rfl (by simp) (by simp [noIds]) fun σ => ?_
  have FF := zh.eq_1; refine zB ?_; clear FF
  refine zO (fun n A τ => τ = σ ∧ A 0 = zh z fz ∧ A 1 = .fn (.func g) [] caps ∧ A 7 = .raw (.int .i64 z.length) ∧ ∃ i : Nat, A 8 = .raw (.int .i64 i) ∧ i ≤ z.length ∧ n = z.length - i ∧ ∀ j, j < i → ∀ y, z[j]? = some y → p y = false) z.length ?_ ?_
  · exact ⟨rfl, by simp [zh], by simp, by simp, 0, by simp, by omega, by omega, fun j h => by omega⟩
  rintro n A τ ⟨rfl, a0, a1, a7, i, a8, hi, rfl, hn⟩ I1 hI1
  by_cases hlt : i < z.length
  · have hx : z[i]? = some z[i] := List.getElem?_eq_getElem hlt
    have w1 : IntKind.i64.wrap ((i : Int) + 1) = ((i + 1 : Nat) : Int) := by rw [zo (by omega) (by omega)]; omega
    have hr : AV.raw (.int .i64 z[i]) = iAV z[i] := rfl
    have FF := fI zh.eq_1 (fI @a0 (fI @a1 (fI @a7 (fI @a8 (fI @hlt (fI @hx (fI @zbR @hr))))))); refine zB ?_; clear FF
    refine PCalls.use (hg z[i] (List.getElem_mem _)) ?_
    cases hp : p z[i] with
    | true =>
      have FF := fI zh.eq_1 (fI @a0 (fI @a1 (fI @a7 (fI @a8 (fI @hlt (fI @hx (fI @zbR @hr))))))); refine zB ?_; clear FF
      exact (idxOf_here hx hp hn).symm
    | false =>
      have FF := fI zh.eq_1 (fI @a0 (fI @a1 (fI @a7 (fI @a8 (fI @hlt (fI @hx (fI @zbR @hr))))))); refine zB ?_; clear FF
      refine hI1 (z.length - (i + 1)) _ _ (by omega) ⟨rfl, by simp [a0], by simp [a1], by simp [a7], i + 1, by simp [w1], by omega, rfl, fun j hj y hy => ?_⟩
      by_cases e : j = i
      · subst e; rw [hx] at hy; injection hy with hy; subst hy; exact hp
      · exact hn j (by omega) y hy
  · have hi' : i = z.length := by omega
    subst hi'
    have w1 : IntKind.i64.wrap (-1) = -1 := zo (by omega) (by omega)
    have FF := fI zh.eq_1 (fI @a0 (fI @a1 (fI @a7 (fI @a8 @w1)))); refine zB ?_; clear FF
    exact (idxOf_none hn).1.symm
theorem zia {g : FuncId} {caps : List AV} {p : Int → Bool} (z : List Int) (fz : Bool) (hl : z.length < 2 ^ 60) (hg : ∀ r ∈ z, PCalls Tryz.prog g (iAV r :: caps) (.raw (.bool (p r)))) :
    PCalls Tryz.prog 58 [zh z fz, .fn (.func g) [] caps] (.raw (.bool (z.any p))) := by
  refine zE Tryz.func58 rfl (N := 9) rfl rfl (by simp) (by simp [noIds]) fun σ => ?_
  refine za0 ?_
  refine PCalls.use (zkb z fz hl hg) ?_
  have := idxOf_any p z
  refine za0 ?_
  simpa using this
end Go.Proofs.YtpboabpapgimoaaGreat.Av
namespace Go.Proofs.YtpboabpapgimoaaGreat.Av
open Go
set_option linter.unusedSimpArgs false
set_option linter.unusedVariables false
set_option maxRecDepth 100000
set_option maxHeartbeats 2000000
set_option pp.maxSteps 300
theorem zno {T : Type} [DecidableEq T] {x y : List T} {i : Nat} (h : x.take i = y.take i) {a : T} (hx : x[i]? = some a) (hy : y[i]? = some a) : x.take (i + 1) = y.take (i + 1) := by
  rw [List.take_add_one, List.take_add_one, h, hx, hy]
theorem zkc (x y : List Int) (fx fy : Bool) (hl : x.length < 2 ^ 60) (hl2 : y.length < 2 ^ 60) : PCalls Tryz.prog 48 [zh x fx, zh y fy] (.raw (.bool (decide (x = y)))) := by
  refine zE Tryz.func48 rfl (N := 26) rfl rfl (by simp) (by simp [noIds]) fun σ => ?_
  by_cases hlen : x.length = y.length
  · have hli : (x.length : Int) = (y.length : Int) := by omega
    have FF := fI zh.eq_1 (fI @hlen @hli); refine zB ?_; clear FF
    refine zO (fun n A τ => τ = σ ∧ A 0 = zh x fx ∧ A 1 = zh y fy ∧ A 12 = .raw (.int .i64 y.length) ∧ ∃ i : Nat, A 13 = .raw (.int .i64 i) ∧ i ≤ y.length ∧ n = y.length - i ∧ x.take i = y.take i) y.length ?_ ?_
    · exact ⟨rfl, by simp [zh], by simp [zh], by simp [zh], 0, by simp, by omega, by omega, by simp⟩
    rintro n A τ ⟨rfl, a0, a1, a12, i, a13, hi, rfl, htk⟩ I1 hI1
    by_cases hlt : i < y.length
    · have hlx : i < x.length := by omega
      have hx : x[i]? = some x[i] := List.getElem?_eq_getElem hlx
      have hy : y[i]? = some y[i] := List.getElem?_eq_getElem hlt
      have w1 : IntKind.i64.wrap ((i : Int) + 1) = ((i + 1 : Nat) : Int) := by rw [zo (by omega) (by omega)]; omega
      by_cases he : x[i] = y[i]
      · skip
        (try ((first | with_reducible refine zs ?_ | with_reducible refine zx ?_ | with_reducible refine zy ?_); simp [zh, iAV, a0, a1, a12, a13, hlt, hlx, hx, hy, zbR, he, w1])); repeat' (first | ((first | refine zm ?_ | refine zl ?_ | refine dN (by decide +kernel) ?_ | (refine zb ?_ ?_ <;> (intro hg; simp only [hg])) | fail) <;> simp [zh, iAV, a0, a1, a12, a13, hlt, hlx, hx, hy, zbR, he, w1]) | refine zf ?_ | refine zg ?_ | (refine zF ?_; simp only [zG]; try simp) | ((first | refine zq (by simp) ?_ | refine zu (by simp) (by simp) (by simp (maxDischargeDepth := 30) [zh, iAV, a0, a1, a12, a13, hlt, hlx, hx, hy, zbR, he, w1]) ?_ | fail); simp) | (refine zd (fun hc => ?_) (fun hc => ?_) <;> try simp at hc) | fail)
        all_goals exact hI1 (y.length - (i + 1)) _ _ (by omega) ⟨rfl, by simp [a0, zh, iAV], by simp [a1, zh, iAV], by simp [a12], i + 1, by simp [w1], by omega, rfl, zno htk hx (by rw [hy, he])⟩
      · skip
        have FF := fI zh.eq_1 (fI iAV.eq_1 (fI @a0 (fI @a1 (fI @a12 (fI @a13 (fI @hlt (fI @hlx (fI @hx (fI @hy (fI @zbR (fI @he @w1))))))))))); refine zB ?_; clear FF
        all_goals (rintro rfl; exact he rfl)
    · have : i = y.length := by omega
      subst this
      have hxy : x = y := by
        rw [List.take_length, ← hlen, List.take_length] at htk; exact htk
      have FF := fI zh.eq_1 (fI @a0 (fI @a1 (fI @a12 @a13))); refine zB ?_; clear FF
      all_goals first | exact hxy | simp [hxy]
  · have hli : ¬ ((x.length : Int) = (y.length : Int)) := by omega
    have FF := fI zh.eq_1 (fI @hlen @hli); refine zB ?_; clear FF
    all_goals (rintro rfl; exact hlen rfl)
end Go.Proofs.YtpboabpapgimoaaGreat.Av
namespace Go.Proofs.YtpboabpapgimoaaGreat.Av
open Go
set_option linter.unusedSimpArgs false
set_option linter.unusedVariables false
set_option maxRecDepth 100000
set_option maxHeartbeats 2000000
set_option pp.maxSteps 300
def ptV (p : Pt) : Value := .agg #[.int .i64 p.dev, .int .i64 p.port]
def enc (m : List (Pt × Pt)) : List (Value × AV) := m.map fun e => (ptV e.1, zS e.2)
def upd (m : List (Pt × Pt)) (k v : Pt) : List (Pt × Pt) := m.filter (fun e => decide (k ≠ e.1)) ++ [(k, v)]
theorem zjx (k q : Pt) : zaS Tryz.prog 4 52 (zS k) (zac (ptV q)) = some (decide (k = q)) := by
  have : decide (k = q) = (decide (k.dev = q.dev) && decide (k.port = q.port)) := by
    cases k; cases q; simp
  rw [this]
  simp [zaS, zS, ptV, zdH, zb0, zga, zaI]
theorem ziJ (k : Pt) : ∀ m : List (Pt × Pt), zbW Tryz.prog 52 (zS k) (enc m) = some (enc (m.filter fun e => decide (k = e.1)), enc (m.filter fun e => decide (k ≠ e.1)))
  | [] => rfl
  | e :: m => by
    have ih := ziJ k m
    simp only [enc, List.map_cons] at ih ⊢
    simp only [zbW, zjx]
    by_cases h : k = e.1
    · simp [h] at ih ⊢; rw [ih]
    · simp [h] at ih ⊢; rw [ih]
def zeC (m : List (Pt × Pt)) : Prop := (m.map (·.1)).Nodup
theorem znp {m : List (Pt × Pt)} (h : zeC m) (k : Pt) : (m.filter fun e => decide (k = e.1)) = [] ∨ ∃ v, (m.filter fun e => decide (k = e.1)) = [(k, v)] := by
  induction m with
  | nil => exact .inl rfl
  | cons e m ih =>
    have h' := List.nodup_cons.1 (show (e.1 :: m.map (·.1)).Nodup from h)
    by_cases hk : k = e.1
    · right
      refine ⟨e.2, ?_⟩
      have : (m.filter fun e => decide (k = e.1)) = [] := by
        rw [List.filter_eq_nil_iff]
        intro x hx hkx
        simp only [decide_eq_true_eq] at hkx
        exact h'.1 (by rw [← hk, hkx]; exact List.mem_map.2 ⟨x, hx, rfl⟩)
      rw [List.filter_cons_of_pos (by simp [hk]), this, hk]
    · rw [List.filter_cons_of_neg (by simpa using hk)]
      exact ih h'.2
theorem ziK {m : List (Pt × Pt)} (h : zeC m) (k v : Pt) : zeC (upd m k v) := by
  unfold zeC upd at *
  rw [List.map_append, List.nodup_append]
  refine ⟨h.sublist (List.Sublist.map _ List.filter_sublist), by simp, fun a ha b hb e => ?_⟩
  simp only [List.map_cons, List.map_nil, List.mem_singleton] at hb
  subst hb; subst e
  obtain ⟨x, hx, rfl⟩ := List.mem_map.1 ha
  simpa using (List.mem_filter.1 hx).2
theorem zqt (k : Pt) : Instr.sameBits 10000 (ptV k) (ptV k) = true := by
  have : (10000 : Nat) = 9999 + 1 := rfl
  rw [this]
  simp [ptV, Instr.sameBits]
theorem zmh (k : Pt) : zgb Tryz.prog 52 (zS k) = true := by simp [zgb, zS, zb0]
theorem zql {m : Mem} {i : Id} {L : List (Pt × Pt)} (hm : m i = some (.map (enc L))) (hk : zeC L) (k v : Pt) : zbd Tryz.prog m 155 (.mp i) (zS k) (zS v) = some (.wrm i (enc (upd L k v))) := by
  have hkv : zi1 (zS k) = some (ptV k) := rfl
  unfold zbd
  simp only [zoS, hkv, hm, zmh, zqj, and_self, if_true, ziJ]
  rcases znp hk k with h | ⟨w, h⟩
  · rw [h]
    simp [enc, upd]
  · rw [h]
    simp [enc, upd, zqt]
theorem zrn {m : Mem} {i : Id} {L : List (Pt × Pt)} (hm : m i = some (.map (enc L))) (hk : zeC L) (k : Pt) :
    zbD Tryz.prog m 155 (.mp i) (zS k) true = some (match L.find? (fun e => decide (k = e.1)) with | some e => .tup [zS e.2, .raw (.bool true)] | none => .tup [zS ⟨0, 0⟩, .raw (.bool false)]) := by
  unfold zbD
  simp only [zoS, hm, zmh, zqj, and_self, if_true, ziJ]
  have hf : L.find? (fun e => decide (k = e.1)) = (L.filter fun e => decide (k = e.1)).head? := by simp
  rw [hf]
  rcases znp hk k with h | ⟨w, h⟩
  · rw [h]; simp [enc, zS, zaI]
  · rw [h]; simp [enc]
def zb8 (L : List Lk) : List (Pt × Pt) := L.foldl (fun m l => upd (upd m l.a l.b) l.b l.a) []
theorem zgR (L : List Lk) : zeC (zb8 L) := by
  have : ∀ (L : List Lk) m, zeC m → zeC (L.foldl (fun m l => upd (upd m l.a l.b) l.b l.a) m) := by
    intro L
    induction L with
    | nil => exact fun m h => h
    | cons l L ih => exact fun m h => ih _ (ziK (ziK h _ _) _ _)
  exact this L [] (by simp [zeC])
theorem znW {L : List Lk} {k : Nat} {l : Lk} (h : L[k]? = some l) : zb8 (L.take (k + 1)) = upd (upd (zb8 (L.take k)) l.a l.b) l.b l.a := by
  rw [List.take_add_one, h]
  simp [zb8, List.foldl_append]
theorem zoT (m : List (Pt × Pt)) : zdd ((enc m).map (·.2)) = true := by
  induction m with
  | nil => rfl
  | cons e m ih => simp only [enc, List.map_cons, zdd] at ih ⊢; rw [ih]; rfl
theorem zbp (l : Lk) : (ziI l).cells = [.raw (.int .i64 l.a.dev), .raw (.int .i64 l.a.port), .raw (.int .i64 l.b.dev), .raw (.int .i64 l.b.port)] := rfl
theorem zkd (d p : Int) : AV.agg [.raw (.int .i64 d), .raw (.int .i64 p)] = zS ⟨d, p⟩ := rfl
theorem zmi (t : Tp) (f : Fl) (hl : t.links.length < 2 ^ 42) : MCalls Tryz.prog 106 [zbJ t f] 0 (.map (enc (zb8 t.links))) .mp := by
  refine znS (zoT _) fun σ => ?_
  refine zaZ Tryz.func106 rfl (N := 26) rfl rfl (by simp) ?_
  have FF := fI zbJ.eq_1 (fI zC.eq_1 zh.eq_1); refine zB ?_; clear FF
  refine zO (fun n A τ => Ext σ τ ∧ A 3 = .mp ⟨6, σ.nx 6, 0⟩ ∧ A 8 = zC t.links f.l ∧ A 9 = .raw (.int .i64 t.links.length) ∧ ∃ k : Nat, A 10 = .raw (.int .i64 k) ∧ k ≤ t.links.length ∧ τ.m ⟨6, σ.nx 6, 0⟩ = some (.map (enc (zb8 (t.links.take k)))) ∧ n = t.links.length - k) t.links.length ?_ ?_
  · exact ⟨by simp (maxDischargeDepth := 30), by simp [St.new], by simp [zC], by simp, 0, by simp, by omega, by simp [St.new, zb8, enc], by omega⟩
  rintro n A τ ⟨hE, a3, a8, a9, k, a10, hk, hm, rfl⟩ I1 hI1
  have f6 : σ.m ⟨6, σ.nx 6, 0⟩ = none := zc _ _ _
  by_cases hlt : k < t.links.length
  · have hx : t.links[k]? = some t.links[k] := List.getElem?_eq_getElem hlt
    have w1 : IntKind.i64.wrap ((k : Int) + 1) = ((k + 1 : Nat) : Int) := by rw [zo (by omega) (by omega)]; omega
    have hj := znW hx
    have fa : AV.agg [.raw (.int .i64 t.links[k].a.dev), .raw (.int .i64 t.links[k].a.port)] = zS t.links[k].a := rfl
    have fb : AV.agg [.raw (.int .i64 t.links[k].b.dev), .raw (.int .i64 t.links[k].b.port)] = zS t.links[k].b := rfl
    have hu1 : ∀ m : Mem, m ⟨6, σ.nx 6, 0⟩ = some (.map (enc (zb8 (t.links.take k)))) → zbd Tryz.prog m 155 (.mp ⟨6, σ.nx 6, 0⟩) (zS t.links[k].a) (zS t.links[k].b) = some (.wrm ⟨6, σ.nx 6, 0⟩ (enc (upd (zb8 (t.links.take k)) t.links[k].a t.links[k].b))) := fun m h => zql h (zgR _) _ _
    have hu2 : ∀ m : Mem, m ⟨6, σ.nx 6, 0⟩ = some (.map (enc (upd (zb8 (t.links.take k)) t.links[k].a t.links[k].b))) → zbd Tryz.prog m 155 (.mp ⟨6, σ.nx 6, 0⟩) (zS t.links[k].b) (zS t.links[k].a) = some (.wrm ⟨6, σ.nx 6, 0⟩ (enc (zb8 (t.links.take (k + 1))))) := fun m h => by
      rw [hj]; exact zql h (ziK (zgR _) _ _) _ _
    clear hj
    (try ((first | with_reducible refine zs ?_ | with_reducible refine zx ?_ | with_reducible refine zy ?_); simp [a3, a8, a9, a10, hlt, hx, hm, zC, zbp, fa, fb, hu1, hu2, w1])); repeat' (first | ((first | refine zm ?_ | refine zl ?_ | refine dN (by decide +kernel) ?_ | (refine zb ?_ ?_ <;> (intro hg; simp only [hg])) | fail) <;> simp [a3, a8, a9, a10, hlt, hx, hm, zC, zbp, fa, fb, hu1, hu2, w1]) | refine zf ?_ | refine zg ?_ | (refine zF ?_; simp only [zG]; try simp) | ((first | refine zq (by simp) ?_ | refine zu (by simp) (by simp) (by simp (maxDischargeDepth := 30) [a3, a8, a9, a10, hlt, hx, hm, zC, zbp, fa, fb, hu1, hu2, w1]) ?_ | fail); simp) | (refine zd (fun hc => ?_) (fun hc => ?_) <;> try simp at hc) | fail)
    exact hI1 (t.links.length - (k + 1)) _ _ (by omega) ⟨Ext.setF (Ext.setF (by simp [hE]) f6) f6, by simp [a3], by simp [a8, zC], by simp [a9], k + 1, by simp, by omega, by simp [St.set, St.new, hm], rfl⟩
  · have : k = t.links.length := by omega
    subst this
    rw [List.take_length] at hm
    have FF := fI @a3 (fI @a8 (fI @a9 @a10)); refine goC ?_; clear FF
    exact zY (.inr rfl) (by simp) ⟨_, rfl, hm, f6, hE⟩
def zbS (t : Tp) (p : Pt) : Option Pt := ((zb8 t.links).find? fun e => decide (p = e.1)).map (·.2)
theorem zjy (t : Tp) (f : Fl) (p : Pt) (hl : t.links.length < 2 ^ 42) :
    PCalls Tryz.prog 80 [zbJ t f, zS p] (.tup [zS ((zbS t p).getD ⟨0, 0⟩), .raw (.bool (zbS t p).isSome)]) := by
  have hj := zmi t f hl
  refine zE Tryz.func80 rfl (N := 17) rfl rfl (by simp) (by simp [noIds, zS]) fun σ => ?_
  have hpc : ∀ q : Pt, (zS q).cells = [.raw (.int .i64 q.dev), .raw (.int .i64 q.port)] := fun q => rfl
  have htc : (zbJ t f).cells = [zh t.ports f.p, zC t.links f.l] := rfl
  have hfo : ∀ q : Pt, AV.agg [.raw (.int .i64 q.dev), .raw (.int .i64 q.port)] = zS q := fun q => rfl
  have hft : AV.agg [zh t.ports f.p, zC t.links f.l] = zbJ t f := rfl
  have ho1 : cellOK (zh t.ports f.p) = true := rfl
  have ho2 : cellOK (zC t.links f.l) = true := rfl
  simp only [cellOK] at ho1 ho2
  have hlk : ∀ m : Mem, ∀ i, m i = some (.map (enc (zb8 t.links))) → zbD Tryz.prog m 155 (.mp i) (zS p) true = some (.tup [zS ((zbS t p).getD ⟨0, 0⟩), .raw (.bool (zbS t p).isSome)]) := fun m i h => by
    rw [zrn h (zgR _)]
    unfold zbS
    cases (zb8 t.links).find? fun e => decide (p = e.1) <;> rfl
  obtain ⟨q, hq⟩ : ∃ q, (zbS t p).getD ⟨0, 0⟩ = q := ⟨_, rfl⟩
  obtain ⟨b, hb⟩ : ∃ b, (zbS t p).isSome = b := ⟨_, rfl⟩
  rw [hq, hb] at hlk ⊢
  have FF := fI @hpc (fI @htc (fI @hfo (fI @hft (fI @ho1 @ho2)))); refine zB ?_; clear FF
  refine zbF (fun o => o.dst == some 10) zc8 (by decide +kernel) ?_
  have FF := fI @hpc (fI @htc (fI @hfo (fI @hft (fI @ho1 @ho2)))); refine zB ?_; clear FF
  refine .inr ⟨_, _, _, hj, ?_⟩
  have hpp : ∀ q : Pt, setPart (AV.agg [.raw (.int .i64 0), .raw (.int .i64 0)]) 0 [.raw (.int .i64 q.dev), .raw (.int .i64 q.port)] = zS q := fun q => rfl
  have hpq : ∀ q : Pt, setPart (zS ⟨0, 0⟩) 0 [.raw (.int .i64 q.dev), .raw (.int .i64 q.port)] = zS q := fun q => rfl
  have FF := fI @hpc (fI @htc (fI @hfo (fI @hft (fI @ho1 (fI @ho2 (fI @hlk (fI @hpp @hpq))))))); refine goC ?_; clear FF
  refine zu (.inr rfl) rfl (Ext.setF (by simp (maxDischargeDepth := 30)) ?_) ?_
  · have := zc σ 4 2
    simpa [St.new] using this
  · simp [St.set, St.new, hfo, hpc]
end Go.Proofs.YtpboabpapgimoaaGreat.Av
namespace Go.Proofs.YtpboabpapgimoaaGreat.Av
open Go
set_option linter.unusedSimpArgs false
set_option linter.unusedVariables false
set_option maxRecDepth 100000
set_option maxHeartbeats 2000000
set_option pp.maxSteps 300
def zke (t : Tp) (l : Lk) : Bool := !hasB t l.a || (!hasB t l.b || decide (l.a = l.b))
theorem za6 (t : Tp) (f : Fl) : (zbJ t f).cells = [zh t.ports f.p, zC t.links f.l] := rfl
theorem zgg (t : Tp) (f : Fl) : AV.agg [zh t.ports f.p, zC t.links f.l] = zbJ t f := rfl
theorem zc3 (r : Ru) : AV.agg [.raw (.int .i64 r.dev), .raw (.int .i64 r.port)] = zS ⟨r.dev, r.port⟩ := rfl
def zgS (t : Tp) (l : List Ru) : Bool := !(l.any fun r => !hasB t ⟨r.dev, r.port⟩)
def ziL (t : Tp) : Bool := t.ports.any fun n => decide (n < 1) || decide (4 < n)
def zgh (t : Tp) : Bool := !decide (t.ports.length = 0) && (!decide (8 < t.ports.length) && (!decide (16 < t.links.length) && (!ziL t && (!t.links.any (zke t) && decide ((zb8 t.links).length = 2 * t.links.length)))))
end Go.Proofs.YtpboabpapgimoaaGreat.Av
namespace Go.Proofs.YtpboabpapgimoaaGreat.Av
open Go
set_option linter.unusedSimpArgs false
set_option linter.unusedVariables false
set_option maxRecDepth 100000
set_option maxHeartbeats 2000000
set_option pp.maxSteps 300
theorem zaL {P : Program} {op : BinOp} {t : TypeId} {a b : Value} : zaU P op t (.raw a) (.raw b) = zhj P op t (.raw a) (.raw b) := rfl
end Go.Proofs.YtpboabpapgimoaaGreat.Av
namespace Go.Proofs.YtpboabpapgimoaaGreat.Av
open Go
set_option linter.unusedSimpArgs false
set_option linter.unusedVariables false
set_option maxRecDepth 100000
set_option maxHeartbeats 2000000
set_option pp.maxSteps 300
theorem refHas_calls (t : Tp) (f : Fl) (p : Pt) (hl : t.ports.length < 2 ^ 60) : PCalls Tryz.prog 84 [zbJ t f, zS p] (.raw (.bool (hasB t p))) := by
  refine zE Tryz.func84 rfl (N := 32) rfl rfl (by simp) (by simp [noIds]) fun σ => ?_
  by_cases h1 : 0 ≤ p.dev
  · obtain ⟨k, hk⟩ : ∃ k : Nat, p.dev = k := ⟨p.dev.toNat, by omega⟩
    by_cases h2 : k < t.ports.length
    · have hx : t.ports[k]? = some t.ports[k] := List.getElem?_eq_getElem h2
      (try ((first | with_reducible refine zs ?_ | with_reducible refine zx ?_ | with_reducible refine zy ?_); simp [zbJ, zS, zh, zC, iAV, hk, h2, hx])); repeat' (first | ((first | refine zm ?_ | refine zl ?_ | refine dN (by decide +kernel) ?_ | (refine zb ?_ ?_ <;> (intro hg; simp only [hg])) | fail) <;> simp [zbJ, zS, zh, zC, iAV, hk, h2, hx]) | refine zf ?_ | refine zg ?_ | (refine zF ?_; simp only [zG]; try simp) | ((first | refine zq (by simp) ?_ | refine zu (by simp) (by simp) (by simp (maxDischargeDepth := 30) [zbJ, zS, zh, zC, iAV, hk, h2, hx]) ?_ | fail); simp) | (refine zd (fun hc => ?_) (fun hc => ?_) <;> try simp at hc) | fail)
      all_goals (simp_all [hasB] <;> intros <;> omega)
    · have hx : t.ports[k]? = none := List.getElem?_eq_none (by omega)
      have FF := fI zbJ.eq_1 (fI zS.eq_1 (fI zh.eq_1 (fI zC.eq_1 (fI iAV.eq_1 (fI @hk (fI @h2 @hx)))))); refine zB ?_; clear FF
      all_goals (simp_all [hasB] <;> intros <;> omega)
  · have FF := fI zbJ.eq_1 (fI zS.eq_1 (fI zh.eq_1 (fI zC.eq_1 (fI iAV.eq_1 @h1)))); refine zB ?_; clear FF
    all_goals (simp_all [hasB] <;> intros <;> omega)
theorem zlj (t : Tp) (f : Fl) (l : List Ru) (g : Bool) (hl : t.ports.length < 2 ^ 60) (hl2 : l.length < 2 ^ 60) : PCalls Tryz.prog 57 [zbJ t f, zz l g] (.raw (.bool (zgS t l))) := by
  refine zE Tryz.func57 rfl (N := 28) rfl rfl (by simp) (by simp [noIds]) fun σ => ?_
  have ho1 : cellOK (zh t.ports f.p) = true := rfl
  have ho2 : cellOK (zC t.links f.l) = true := rfl
  simp only [cellOK] at ho1 ho2
  have FF := fI @za6 (fI @ho1 @ho2); refine zB ?_; clear FF
  refine zO (fun n A τ => τ = σ.new 2 2 (.buf [zbJ t f]) ∧ A 1 = zz l g ∧ A 2 = .rp ⟨2, σ.nx 2, 2⟩ 0 0 ∧ ∃ i : Nat, A 5 = .raw (.int .i64 i) ∧ i ≤ l.length ∧ n = l.length - i ∧ ∀ r ∈ l.take i, hasB t ⟨r.dev, r.port⟩ = true) l.length ?_ ?_
  · exact ⟨rfl, by simp, by simp, 0, by simp, by omega, by omega, by simp⟩
  rintro n A τ ⟨rfl, a1, a2, i, a5, hi, rfl, hok⟩ I1 hI1
  by_cases hlt : i < l.length
  · have hx : l[i]? = some l[i] := List.getElem?_eq_getElem hlt
    have w1 : IntKind.i64.wrap ((i : Int) + 1) = ((i + 1 : Nat) : Int) := by rw [zo (by omega) (by omega)]; omega
    obtain ⟨b, hb⟩ : ∃ b, hasB t ⟨l[i].dev, l[i].port⟩ = b := ⟨_, rfl⟩
    have hc := hb ▸ refHas_calls t f ⟨l[i].dev, l[i].port⟩ hl
    (try ((first | with_reducible refine zs ?_ | with_reducible refine zx ?_ | with_reducible refine zy ?_); simp [zz, a1, a2, a5, hlt, hx, za6, zgg, zM, zc3, ho1, ho2, w1])); repeat' (first | ((first | refine zm ?_ | refine zl ?_ | refine dN (by decide +kernel) ?_ | (refine zb ?_ ?_ <;> (intro hg; simp only [hg])) | fail) <;> simp [zz, a1, a2, a5, hlt, hx, za6, zgg, zM, zc3, ho1, ho2, w1]) | refine zf ?_ | refine zg ?_ | (refine zF ?_; simp only [zG]; try simp) | ((first | refine zq (by simp) ?_ | refine zu (by simp) (by simp) (by simp (maxDischargeDepth := 30) [zz, a1, a2, a5, hlt, hx, za6, zgg, zM, zc3, ho1, ho2, w1]) ?_ | fail); simp) | (refine zd (fun hc => ?_) (fun hc => ?_) <;> try simp at hc) | fail)
    refine PCalls.use hc ?_
    cases b with
    | true =>
      have FF := fI zz.eq_1 (fI @a1 (fI @a2 (fI @a5 (fI @hlt (fI @hx (fI @za6 (fI @zgg (fI @zM (fI @zc3 (fI @ho1 (fI @ho2 @w1))))))))))); refine zB ?_; clear FF
      refine hI1 (l.length - (i + 1)) _ _ (by omega) ⟨by simp, by simp [a1, zz], by simp [a2], i + 1, by simp [w1], by omega, rfl, fun r hr => ?_⟩
      rw [List.take_add_one, hx] at hr
      rcases List.mem_append.1 hr with hr | hr
      · exact hok r hr
      · simp at hr; subst hr; exact hb
    | false =>
      have hf : zgS t l = false := by
        unfold zgS
        rw [List.any_eq_true.2 ⟨l[i], List.getElem_mem _, by simp [hb]⟩]; rfl
      have FF := fI zz.eq_1 (fI @a1 (fI @a2 (fI @a5 (fI @hlt (fI @hx (fI @za6 (fI @zgg (fI @zM (fI @zc3 (fI @ho1 (fI @ho2 @w1))))))))))); refine zB ?_; clear FF
      exact hf
  · have : i = l.length := by omega
    subst this
    rw [List.take_length] at hok
    have hf : zgS t l = true := by
      unfold zgS
      rw [List.any_eq_false.2 (fun r hr => by simp [hok r hr])]; rfl
    have FF := fI zz.eq_1 (fI @a1 (fI @a2 @a5)); refine zB ?_; clear FF
    exact hf
end Go.Proofs.YtpboabpapgimoaaGreat.Av
namespace Go.Proofs.YtpboabpapgimoaaGreat.Av
open Go
set_option linter.unusedSimpArgs false
set_option linter.unusedVariables false
set_option maxRecDepth 100000
set_option maxHeartbeats 2000000
set_option pp.maxSteps 2500
theorem nnx {σ : St} {slot sz s : Nat} {o : Ob} : (σ.new slot sz o).nx s = if s = slot then σ.nx s + 1 else σ.nx s := rfl
def zbv : List Lk → Pt → Option Pt
  | [], _ => none
  | l :: ls, p => if l.a = p then some l.b else if l.b = p then some l.a else zbv ls p
theorem zha (t : Tp) (f : Fl) (p : Pt) (hl : t.links.length < 2 ^ 60) :
    PCalls Tryz.prog 69 [zbJ t f, zS p] (.tup [zS ((zbv t.links p).getD ⟨0, 0⟩), .raw (.bool (zbv t.links p).isSome)]) := by
  refine zE Tryz.func69 rfl (N := 43) rfl rfl (by simp) (by simp [noIds, zS]) fun σ => ?_
  have ho1 : cellOK (zh t.ports f.p) = true := rfl
  have ho2 : cellOK (zC t.links f.l) = true := rfl
  simp only [cellOK] at ho1 ho2
  have hbin : ∀ x y : Pt, zaU Tryz.prog .eql 52 (zS x) (zS y) = some (.raw (.bool (decide (x = y)))) := fun x y => by
    have e1 : zaU Tryz.prog .eql 52 (zS x) (zS y) = if Tryz.prog.eqGuardType Tryz.prog.depth 52 = false then (zaS Tryz.prog 4 52 (zS x) (zS y)).bind fun b => (zcp .eql b).map .raw else none := rfl
    have := zjx x y
    rw [e1, if_pos znT]
    rw [show zaS Tryz.prog 4 52 (zS x) (zS y) = some (decide (x = y)) from this]
    rfl
  have hpc : ∀ q : Pt, (zS q).cells = [.raw (.int .i64 q.dev), .raw (.int .i64 q.port)] := fun q => rfl
  have hn3 : (σ.new 2 2 (Ob.buf [zbJ t f])).nx 3 = σ.nx 3 := by simp [St.new]
  have hn4 : ((σ.new 2 2 (Ob.buf [zbJ t f])).new 3 2 (Ob.buf [zS p])).nx 4 = σ.nx 4 := by simp [St.new]
  have hz : AV.agg [.raw (.int .i64 0), .raw (.int .i64 0)] = zS ⟨0, 0⟩ := rfl
  have FF := fI @za6 (fI @ho1 (fI @ho2 @hpc)); refine zB ?_; clear FF
  refine zO (fun n A τ => τ = ((σ.new 2 2 (.buf [zbJ t f])).new 3 2 (.buf [zS p])).new 4 2 (.buf [zS ⟨0, 0⟩]) ∧ A 2 = .rp ⟨2, σ.nx 2, 2⟩ 0 0 ∧ A 3 = .rp ⟨3, σ.nx 3, 2⟩ 0 0 ∧ A 4 = .rp ⟨4, σ.nx 4, 2⟩ 0 0 ∧ A 5 = .raw (.bool false) ∧ ∃ i : Nat, A 6 = .raw (.int .i64 i) ∧ i ≤ t.links.length ∧ n = t.links.length - i ∧ zbv t.links p = zbv (t.links.drop i) p) t.links.length ?_ ?_
  · refine ⟨by simp [hz, hpc], by simp, by simp [hpc, hn3], by simp [hpc, hn4], by simp, 0, by simp, by omega, by omega, by simp⟩
  rintro n A τ ⟨rfl, a2, a3, a4, a5, i, a6, hi, rfl, hall⟩ I1 hI1
  obtain ⟨τ, hτ⟩ : ∃ τ, ((σ.new 2 2 (.buf [zbJ t f])).new 3 2 (.buf [zS p])).new 4 2 (.buf [zS ⟨0, 0⟩]) = τ := ⟨_, rfl⟩
  have m2 : τ.m ⟨2, σ.nx 2, 2⟩ = some (.buf [zbJ t f]) := by rw [← hτ]; simp [St.new]
  have m3 : τ.m ⟨3, σ.nx 3, 2⟩ = some (.buf [zS p]) := by rw [← hτ]; simp [St.new]
  have m4 : τ.m ⟨4, σ.nx 4, 2⟩ = some (.buf [zS ⟨0, 0⟩]) := by rw [← hτ]; simp [St.new]
  have fs : ∀ q, Ext σ (τ.set ⟨4, σ.nx 4, 2⟩ (.buf [zS q])) := fun q => by
    rw [← hτ]
    repeat (first | exact Ext.refl _ | refine zK ?_ | refine Ext.setF ?_ (by simp [nnx, St.set, zc]))
  rw [hτ] at hI1 ⊢
  have hsp : ∀ x y : Int, setPart (zS ⟨0, 0⟩) 0 [.raw (.int .i64 x), .raw (.int .i64 y)] = zS ⟨x, y⟩ := fun _ _ => rfl
  have fa : ∀ l : Lk, AV.agg [.raw (.int .i64 l.a.dev), .raw (.int .i64 l.a.port)] = zS l.a := fun _ => rfl
  have fb : ∀ l : Lk, AV.agg [.raw (.int .i64 l.b.dev), .raw (.int .i64 l.b.port)] = zS l.b := fun _ => rfl
  have fp : ∀ q : Pt, AV.agg [.raw (.int .i64 q.dev), .raw (.int .i64 q.port)] = zS q := fun _ => rfl
  by_cases hlt : i < t.links.length
  · have hx : t.links[i]? = some t.links[i] := List.getElem?_eq_getElem hlt
    have w1 : IntKind.i64.wrap ((i : Int) + 1) = ((i + 1 : Nat) : Int) := by rw [zo (by omega) (by omega)]; omega
    have hd : t.links.drop i = t.links[i] :: t.links.drop (i + 1) := List.drop_eq_getElem_cons hlt
    rw [hd] at hall
    simp only [zbv] at hall
    by_cases q1 : t.links[i].a = p
    · rw [if_pos q1] at hall
      rw [hall]
      (try ((first | with_reducible refine zs ?_ | with_reducible refine zx ?_ | with_reducible refine zy ?_); simp [zC, a2, a3, a4, a5, a6, hlt, hx, za6, m2, m3, m4, ho1, ho2, hpc, hsp, zbp, fa, fb, fp, -zaU, hbin, zaL, w1, q1])); repeat' (first | ((first | refine zm ?_ | refine zl ?_ | refine dN (by decide +kernel) ?_ | (refine zb ?_ ?_ <;> (intro hg; simp only [hg])) | fail) <;> simp [zC, a2, a3, a4, a5, a6, hlt, hx, za6, m2, m3, m4, ho1, ho2, hpc, hsp, zbp, fa, fb, fp, -zaU, hbin, zaL, w1, q1]) | refine zf ?_ | refine zg ?_ | (refine zF ?_; simp only [zG]; try simp) | ((first | refine zq (by simp) ?_ | refine zu (by simp) (by simp) (by simp (maxDischargeDepth := 30) [zC, a2, a3, a4, a5, a6, hlt, hx, za6, m2, m3, m4, ho1, ho2, hpc, hsp, zbp, fa, fb, fp, -zaU, hbin, zaL, w1, q1]) ?_ | fail); simp) | (refine zd (fun hc => ?_) (fun hc => ?_) <;> try simp at hc) | fail)
      refine zu (.inr rfl) rfl (fs _) ?_
      simp [hsp, hpc, St.set, fp, a4, a5, m4]
    · by_cases q2 : t.links[i].b = p
      · rw [if_neg q1, if_pos q2] at hall
        rw [hall]
        (try ((first | with_reducible refine zs ?_ | with_reducible refine zx ?_ | with_reducible refine zy ?_); simp [zC, a2, a3, a4, a5, a6, hlt, hx, za6, m2, m3, m4, ho1, ho2, hpc, hsp, zbp, fa, fb, fp, -zaU, hbin, zaL, w1, q1, q2])); repeat' (first | ((first | refine zm ?_ | refine zl ?_ | refine dN (by decide +kernel) ?_ | (refine zb ?_ ?_ <;> (intro hg; simp only [hg])) | fail) <;> simp [zC, a2, a3, a4, a5, a6, hlt, hx, za6, m2, m3, m4, ho1, ho2, hpc, hsp, zbp, fa, fb, fp, -zaU, hbin, zaL, w1, q1, q2]) | refine zf ?_ | refine zg ?_ | (refine zF ?_; simp only [zG]; try simp) | ((first | refine zq (by simp) ?_ | refine zu (by simp) (by simp) (by simp (maxDischargeDepth := 30) [zC, a2, a3, a4, a5, a6, hlt, hx, za6, m2, m3, m4, ho1, ho2, hpc, hsp, zbp, fa, fb, fp, -zaU, hbin, zaL, w1, q1, q2]) ?_ | fail); simp) | (refine zd (fun hc => ?_) (fun hc => ?_) <;> try simp at hc) | fail)
        refine zu (.inr rfl) rfl (fs _) ?_
        simp [hsp, hpc, St.set, fp, a4, a5, m4]
      · rw [if_neg q1, if_neg q2] at hall
        (try ((first | with_reducible refine zs ?_ | with_reducible refine zx ?_ | with_reducible refine zy ?_); simp [zC, a2, a3, a4, a5, a6, hlt, hx, za6, m2, m3, m4, ho1, ho2, hpc, hsp, zbp, fa, fb, fp, -zaU, hbin, zaL, w1, q1, q2])); repeat' (first | ((first | refine zm ?_ | refine zl ?_ | refine dN (by decide +kernel) ?_ | (refine zb ?_ ?_ <;> (intro hg; simp only [hg])) | fail) <;> simp [zC, a2, a3, a4, a5, a6, hlt, hx, za6, m2, m3, m4, ho1, ho2, hpc, hsp, zbp, fa, fb, fp, -zaU, hbin, zaL, w1, q1, q2]) | refine zf ?_ | refine zg ?_ | (refine zF ?_; simp only [zG]; try simp) | ((first | refine zq (by simp) ?_ | refine zu (by simp) (by simp) (by simp (maxDischargeDepth := 30) [zC, a2, a3, a4, a5, a6, hlt, hx, za6, m2, m3, m4, ho1, ho2, hpc, hsp, zbp, fa, fb, fp, -zaU, hbin, zaL, w1, q1, q2]) ?_ | fail); simp) | (refine zd (fun hc => ?_) (fun hc => ?_) <;> try simp at hc) | fail)
        exact hI1 (t.links.length - (i + 1)) _ _ (by omega) ⟨rfl, by simp [a2], by simp [a3], by simp [a4], by simp [a5], i + 1, by simp, by omega, rfl, hall⟩
  · have : i = t.links.length := by omega
    subst this
    rw [List.drop_length] at hall
    simp only [zbv] at hall
    rw [hall]
    have FF := fI zC.eq_1 (fI @a2 (fI @a3 (fI @a4 (fI @a5 (fI @a6 (fI @m2 (fI @m3 (fI @m4 (fI @za6 (fI @ho1 (fI @ho2 (fI @hpc (fI @hz @hsp))))))))))))); refine zB ?_; clear FF
    refine zu (.inr rfl) rfl (fs _) ?_
    simp [hsp, hpc, St.set, fp, a4, a5, m4]
    rfl
end Go.Proofs.YtpboabpapgimoaaGreat.Av
namespace Go.Proofs.YtpboabpapgimoaaGreat.Av
open Go
set_option linter.unusedSimpArgs false
set_option linter.unusedVariables false
set_option maxRecDepth 100000
set_option maxHeartbeats 2000000
set_option pp.maxSteps 600
structure Tk where
  path : List Int
  out : Int
  last : Pt
deriving DecidableEq
def zaX (t : Tk) (f : Bool) : AV := .agg [zh t.path f, .raw (.int .i64 t.out), .raw (.int .i64 t.last.dev), .raw (.int .i64 t.last.port)]
theorem zd6 (x y : Tk) (fx fy : Bool) (hx : x.path.length < 2 ^ 60) (hy : y.path.length < 2 ^ 60) : PCalls Tryz.prog 23 [zaX x fx, zaX y fy] (.raw (.bool (decide (x = y)))) := by
  have h1 := zkc x.path y.path fx fy hx hy
  have e : decide (x = y) = (decide (x.path = y.path) && (decide (x.out = y.out) && decide (x.last = y.last))) := by
    cases x; cases y; rw [Bool.eq_iff_iff]; simp
  rw [e]
  obtain ⟨b1, q1⟩ : ∃ b, decide (x.path = y.path) = b := ⟨_, rfl⟩
  obtain ⟨b2, q2⟩ : ∃ b, decide (x.out = y.out) = b := ⟨_, rfl⟩
  obtain ⟨b3, q3⟩ : ∃ b, decide (x.last = y.last) = b := ⟨_, rfl⟩
  rw [q1] at h1 ⊢
  rw [q2, q3]
  have hbin : zaU Tryz.prog .eql 52 (zS x.last) (zS y.last) = some (.raw (.bool b3)) := by
    have e1 : zaU Tryz.prog .eql 52 (zS x.last) (zS y.last) = if Tryz.prog.eqGuardType Tryz.prog.depth 52 = false then (zaS Tryz.prog 4 52 (zS x.last) (zS y.last)).bind fun b => (zcp .eql b).map .raw else none := rfl
    have := zjx x.last y.last
    rw [e1, if_pos znT]
    rw [show zaS Tryz.prog 4 52 (zS x.last) (zS y.last) = some (decide (x.last = y.last)) from this, q3]
    rfl
  refine zE Tryz.func23 rfl (N := 24) rfl rfl (by simp) (by simp [noIds]) fun σ => ?_
  have ho : ∀ z b, cellOK (zh z b) = true := fun _ _ => rfl
  simp only [cellOK] at ho
  have hc : ∀ t f, (zaX t f).cells = [zh t.path f, .raw (.int .i64 t.out), .raw (.int .i64 t.last.dev), .raw (.int .i64 t.last.port)] := fun _ _ => rfl
  have hpf : ∀ q : Pt, AV.agg [.raw (.int .i64 q.dev), .raw (.int .i64 q.port)] = zS q := fun _ => rfl
  (try ((first | with_reducible refine zs ?_ | with_reducible refine zx ?_ | with_reducible refine zy ?_); simp [hc, ho, hpf, -zaU, hbin, zaL, q2])); repeat' (first | ((first | refine zm ?_ | refine zl ?_ | refine dN (by decide +kernel) ?_ | (refine zb ?_ ?_ <;> (intro hg; simp only [hg])) | fail) <;> simp [hc, ho, hpf, -zaU, hbin, zaL, q2]) | refine zf ?_ | refine zg ?_ | (refine zF ?_; simp only [zG]; try simp) | ((first | refine zq (by simp) ?_ | refine zu (by simp) (by simp) (by simp (maxDischargeDepth := 30) [hc, ho, hpf, -zaU, hbin, zaL, q2]) ?_ | fail); simp) | (refine zd (fun hc => ?_) (fun hc => ?_) <;> try simp at hc) | fail)
  refine PCalls.use h1 ?_
  cases b1 <;> cases b2 <;> (try ((first | with_reducible refine zs ?_ | with_reducible refine zx ?_ | with_reducible refine zy ?_); simp [hc, ho, hpf, -zaU, hbin, zaL, q2])); repeat' (first | ((first | refine zm ?_ | refine zl ?_ | refine dN (by decide +kernel) ?_ | (refine zb ?_ ?_ <;> (intro hg; simp only [hg])) | fail) <;> simp [hc, ho, hpf, -zaU, hbin, zaL, q2]) | refine zf ?_ | refine zg ?_ | (refine zF ?_; simp only [zG]; try simp) | ((first | refine zq (by simp) ?_ | refine zu (by simp) (by simp) (by simp (maxDischargeDepth := 30) [hc, ho, hpf, -zaU, hbin, zaL, q2]) ?_ | fail); simp) | (refine zd (fun hc => ?_) (fun hc => ?_) <;> try simp at hc) | fail)
end Go.Proofs.YtpboabpapgimoaaGreat.Av
namespace Go.Proofs.YtpboabpapgimoaaGreat.Av
open Go
set_option linter.unusedSimpArgs false
set_option linter.unusedVariables false
set_option maxRecDepth 100000
set_option maxHeartbeats 1000000
set_option pp.maxSteps 300
theorem zpS (a b : Int) (f : Bool) : PCalls Tryz.prog 145 [zh [a, b] f] (.raw (.int .i64 (if a = 0 then b else a))) := by
  refine zE Tryz.func145 rfl (N := 18) rfl rfl (by simp) (by simp [noIds]) fun σ => ?_
  have FF := fI zh.eq_1 iAV.eq_1; refine zB ?_; clear FF
  refine zO (fun n A τ => τ = σ ∧ A 3 = .raw (.int .i64 0) ∧ A 6 = zh [a, b] f ∧ A 7 = .raw (.int .i64 2) ∧ ∃ i : Nat, A 8 = .raw (.int .i64 i) ∧ i ≤ 2 ∧ n = 2 - i ∧ (0 < i → a = 0) ∧ (1 < i → b = 0)) 2 ?_ ?_
  · exact ⟨by simp, by simp, by simp [zh, iAV], by simp, 0, by simp, by omega, by omega, fun h => by omega, fun h => by omega⟩
  rintro n A τ ⟨rfl, a3, a6, a7, i, a8, hi, rfl, h0, h1⟩ I1 hI1
  by_cases hlt : i < 2
  · rcases (show i = 0 ∨ i = 1 by omega) with rfl | rfl
    · have w1 : IntKind.i64.wrap 1 = 1 := zo (by omega) (by omega)
      (try ((first | with_reducible refine zs ?_ | with_reducible refine zx ?_ | with_reducible refine zy ?_); simp [a3, a6, a7, a8, zh, iAV, w1])); repeat' (first | ((first | refine zm ?_ | refine zl ?_ | refine dN (by decide +kernel) ?_ | (refine zb ?_ ?_ <;> (intro hg; simp only [hg])) | fail) <;> simp [a3, a6, a7, a8, zh, iAV, w1]) | refine zf ?_ | refine zg ?_ | (refine zF ?_; simp only [zG]; try simp) | ((first | refine zq (by simp) ?_ | refine zu (by simp) (by simp) (by simp (maxDischargeDepth := 30) [a3, a6, a7, a8, zh, iAV, w1]) ?_ | fail); simp) | (refine zd (fun hc => ?_) (fun hc => ?_) <;> try simp at hc) | fail)
      · simp_all
      · exact hI1 1 _ _ (by omega) ⟨by simp, by simp [a3], by simp [a6, zh, iAV], by simp [a7], 1, by simp, by omega, by omega, fun _ => by simpa using hc, fun h => by omega⟩
    · have ha := h0 (by omega)
      have w1 : IntKind.i64.wrap 2 = 2 := zo (by omega) (by omega)
      (try ((first | with_reducible refine zs ?_ | with_reducible refine zx ?_ | with_reducible refine zy ?_); simp [a3, a6, a7, a8, zh, iAV, w1])); repeat' (first | ((first | refine zm ?_ | refine zl ?_ | refine dN (by decide +kernel) ?_ | (refine zb ?_ ?_ <;> (intro hg; simp only [hg])) | fail) <;> simp [a3, a6, a7, a8, zh, iAV, w1]) | refine zf ?_ | refine zg ?_ | (refine zF ?_; simp only [zG]; try simp) | ((first | refine zq (by simp) ?_ | refine zu (by simp) (by simp) (by simp (maxDischargeDepth := 30) [a3, a6, a7, a8, zh, iAV, w1]) ?_ | fail); simp) | (refine zd (fun hc => ?_) (fun hc => ?_) <;> try simp at hc) | fail)
      · simp_all
      · exact hI1 0 _ _ (by omega) ⟨by simp, by simp [a3], by simp [a6, zh, iAV], by simp [a7], 2, by simp, by omega, by omega, fun _ => ha, fun _ => by simpa using hc⟩
  · have : i = 2 := by omega
    subst this
    have ha := h0 (by omega)
    have hb := h1 (by omega)
    subst ha; subst hb
    have FF := fI @a3 (fI @a6 (fI @a7 (fI @a8 (fI zh.eq_1 iAV.eq_1)))); exact goA
def zd7 (r : Ru) : Bool := decide (1 ≤ r.id) && decide (r.id ≤ 1048576) && (decide (0 ≤ r.dev) && decide (r.dev ≤ 7)) && (decide (0 ≤ r.prio) && decide (r.prio ≤ 1024)) && (decide (0 ≤ r.kind) && decide (r.kind ≤ 3)) &&
  (decide (0 ≤ r.port) && decide (r.port ≤ 3)) && (decide (r.kind = 0) || decide (r.port = 0)) && decide (r.r.lo ≤ r.r.hi)
theorem zhB (r : Ru) (hr : -9223372036854775808 ≤ r.id) (hr2 : r.id < 9223372036854775808) : PCalls Tryz.prog 85 [zab r] (.raw (.bool (zd7 r))) := by
  obtain ⟨b1, h1⟩ : ∃ b, (decide (0 ≤ r.id - 1) && decide (r.id - 1 ≤ 1048575)) = b := ⟨_, rfl⟩
  obtain ⟨b2, h2⟩ : ∃ b, (decide (0 ≤ r.dev) && decide (r.dev ≤ 7)) = b := ⟨_, rfl⟩
  obtain ⟨b3, h3⟩ : ∃ b, (decide (0 ≤ r.prio) && decide (r.prio ≤ 1024)) = b := ⟨_, rfl⟩
  obtain ⟨b4, h4⟩ : ∃ b, (decide (0 ≤ r.kind) && decide (r.kind ≤ 3)) = b := ⟨_, rfl⟩
  obtain ⟨b5, h5⟩ : ∃ b, (decide (0 ≤ r.port) && decide (r.port ≤ 3)) = b := ⟨_, rfl⟩
  obtain ⟨b6, h6⟩ : ∃ b, decide (r.kind = 0) = b := ⟨_, rfl⟩
  obtain ⟨b7, h7⟩ : ∃ b, decide (r.port = 0) = b := ⟨_, rfl⟩
  obtain ⟨b8, h8⟩ : ∃ b, decide (r.r.lo ≤ r.r.hi) = b := ⟨_, rfl⟩
  obtain ⟨X, w⟩ : ∃ X, IntKind.i64.wrap (r.id - 1) = X := ⟨_, rfl⟩
  have hX : (decide (0 ≤ X) && decide (X ≤ 1048575)) = b1 := by
    by_cases q : r.id = -9223372036854775808
    · have e : X = 9223372036854775807 := by rw [← w, q]; decide
      rw [← h1, e, q]; decide
    · rw [← w, zo (by omega) (by omega)]; exact h1
  have c1 := hX ▸ zcu X 1048575
  have c2 := h2 ▸ zcu r.dev 7
  have c3 := h3 ▸ zcu r.prio 1024
  have c4 := h4 ▸ zcu r.kind 3
  have c5 := h5 ▸ zcu r.port 3
  have e : zd7 r = (b1 && b2 && b3 && b4 && b5 && (b6 || b7) && b8) := by
    unfold zd7; rw [← h1, h2, h3, h4, h5, h6, h7, h8]
    rw [show decide (0 ≤ r.id - 1) = decide (1 ≤ r.id) by (congr 1; exact propext (by omega)), show decide (r.id - 1 ≤ 1048575) = decide (r.id ≤ 1048576) by (congr 1; exact propext (by omega))]
  rw [e]
  clear e
  refine zE Tryz.func85 rfl (N := 52) rfl rfl (by simp) (by simp [noIds]) fun σ => ?_
  have FF := fI zab.eq_1 (fI @h6 (fI @h7 (fI @h8 @w))); refine zB ?_; clear FF
  repeat' (first | refine PCalls.use c1 ?_ | refine PCalls.use c2 ?_ | refine PCalls.use c3 ?_ | refine PCalls.use c4 ?_ | refine PCalls.use c5 ?_); all_goals (try ((first | with_reducible refine zs ?_ | with_reducible refine zx ?_ | with_reducible refine zy ?_); simp [zab, h6, h7, h8, w])); repeat' (first | ((first | refine zm ?_ | refine zl ?_ | refine dN (by decide +kernel) ?_ | (refine zb ?_ ?_ <;> (intro hg; simp only [hg])) | fail) <;> simp [zab, h6, h7, h8, w]) | refine zf ?_ | refine zg ?_ | (refine zF ?_; simp only [zG]; try simp) | ((first | refine zq (by simp) ?_ | refine zu (by simp) (by simp) (by simp (maxDischargeDepth := 30) [zab, h6, h7, h8, w]) ?_ | fail); simp) | (refine zd (fun hc => ?_) (fun hc => ?_) <;> try simp at hc) | fail)
def zd8 (x y : Ru) : Int := if cmpI y.prio x.prio = 0 then cmpI x.id y.id else cmpI y.prio x.prio
theorem zm5 (x y : Ru) : PCalls Tryz.prog 137 [zab x, zab y] (.raw (.int .i64 (zd8 x y))) := by
  refine zE Tryz.func137 rfl (N := 17) rfl rfl (by simp) (by simp [noIds]) fun σ => ?_
  have FF := zab.eq_1; refine zB ?_; clear FF
  refine zbF (fun o => o.dst == some 9 || o.dst == some 14 || o.dst == some 16) zc8 (by decide +kernel) ?_
  have FF := zab.eq_1; refine zB ?_; clear FF
  refine .inl ⟨_, .inl (compare_calls _ _), ?_⟩
  have FF := zab.eq_1; refine zB ?_; clear FF
  refine .inl ⟨_, .inl (compare_calls _ _), ?_⟩
  have FF := zab.eq_1; refine zB ?_; clear FF
  refine .inl ⟨_, .inr ⟨[zh [cmpI y.prio x.prio, cmpI x.id y.id] false], ?_, zpS _ _ _, rfl⟩, ?_⟩
  · exact ⟨_, _, rfl, .inr ⟨[.raw (.int .i64 (cmpI y.prio x.prio)), .raw (.int .i64 (cmpI x.id y.id))], by simp [St.new], by simp, by simp [zh, iAV]⟩, rfl⟩
  unfold zd8
  simp
  refine zfd ?_
  refine zu (.inr rfl) rfl (by simp (maxDischargeDepth := 30)) ?_
  simp
end Go.Proofs.YtpboabpapgimoaaGreat.Av
namespace Go.Proofs.YtpboabpapgimoaaGreat.Av
open Go
set_option linter.unusedSimpArgs false
set_option linter.unusedVariables false
set_option maxRecDepth 100000
set_option maxHeartbeats 2000000
set_option pp.maxSteps 300
theorem znX {P : Program} {f : FuncId} {sz : Nat} {fl : Bool} {σ : St} {K : AV → St → Prop} (h : ∀ b cap, ACalls P f [.raw (.slice b 0 cap)] σ K) : ACalls P f [.sl sz [] fl] σ K := by
  refine ⟨(h none 0).1, fun S vs hS hl => ?_⟩
  simp only [LRel, VRel] at hl
  obtain ⟨v, us, rfl, ⟨base, cap, rfl, _⟩, rfl⟩ := hl
  exact (h base cap).2 S _ hS ⟨_, _, rfl, rfl, rfl⟩
theorem zs5 : ∀ z : List Ru, zak (zP (z.map zab)) = true := fun z => by
  induction z with
  | nil => rfl
  | cons r z ih => simp [zP, zab, zak, cellOK] at ih ⊢; try exact ih
theorem zlk (l : List Ru) (f : Bool) {σ : St} {K : AV → St → Prop} (hl : l.length < 2932031007403) (h : ∀ v τ, OwnL σ τ 7 v (l.map zab) → Ext σ τ → K v τ) : ACalls Tryz.prog 134 [zz l f] σ K := by
  cases l with
  | nil =>
    simp only [zz, List.map_nil]
    refine znX fun b cap => ?_
    refine zaZ Tryz.func134 rfl (N := 8) rfl rfl (by simp) ?_
    cases b with
    | none =>
      refine znV ?_
      exact zY (.inr rfl) (by simp) (h _ _ OwnL.nil (Ext.refl _))
    | some b =>
      (try ((first | with_reducible refine zs ?_ | with_reducible refine zx ?_ | with_reducible refine zy ?_); simp [-zJ])); repeat' (first | ((first | refine zm ?_ | refine zl ?_ | refine dN (by decide +kernel) ?_ | (refine zb ?_ ?_ <;> (intro hg; simp only [hg])) | fail) <;> simp [-zJ]) | refine zf ?_ | refine zg ?_ | (refine zF ?_; simp only [zG]; try simp) | (refine zd (fun hc => ?_) (fun hc => ?_) <;> try simp at hc) | fail)
      refine zaV zqk (σ0 := σ) (es := []) (OwnL.of rfl (by simp) (zc _ _ _) rfl) (Ext.new _ _ _ _) (ys := []) (by simp) (.inl rfl) rfl (by simp) ?_
      intro v1 τ1 hO1 hE1 _ _
      rw [List.nil_append] at hO1
      (try ((first | with_reducible refine zs ?_ | with_reducible refine zx ?_ | with_reducible refine zy ?_); simp [-zJ])); repeat' (first | ((first | refine zm ?_ | refine zl ?_ | refine dN (by decide +kernel) ?_ | (refine zb ?_ ?_ <;> (intro hg; simp only [hg])) | fail) <;> simp [-zJ]) | refine zf ?_ | refine zg ?_ | (refine zF ?_; simp only [zG]; try simp) | (refine zd (fun hc => ?_) (fun hc => ?_) <;> try simp at hc) | fail)
      exact zY (.inr rfl) (by simp) (h _ _ hO1 hE1)
  | cons r l =>
    refine zaZ Tryz.func134 rfl (N := 8) rfl rfl (by simp) ?_
    (try ((first | with_reducible refine zs ?_ | with_reducible refine zx ?_ | with_reducible refine zy ?_); simp [zz, -zJ])); repeat' (first | ((first | refine zm ?_ | refine zl ?_ | refine dN (by decide +kernel) ?_ | (refine zb ?_ ?_ <;> (intro hg; simp only [hg])) | fail) <;> simp [zz, -zJ]) | refine zf ?_ | refine zg ?_ | (refine zF ?_; simp only [zG]; try simp) | (refine zd (fun hc => ?_) (fun hc => ?_) <;> try simp at hc) | fail)
    refine zaV zqk (σ0 := σ) (es := []) (OwnL.of rfl (by simp) (zc _ _ _) rfl) (Ext.new _ _ _ _) (ys := (r :: l).map zab) (by simp) (.inr rfl) (zs5 _) (by simp at hl ⊢; omega) ?_
    intro v1 τ1 hO1 hE1 _ _
    rw [List.nil_append] at hO1
    (try ((first | with_reducible refine zs ?_ | with_reducible refine zx ?_ | with_reducible refine zy ?_); simp [-zJ])); repeat' (first | ((first | refine zm ?_ | refine zl ?_ | refine dN (by decide +kernel) ?_ | (refine zb ?_ ?_ <;> (intro hg; simp only [hg])) | fail) <;> simp [-zJ]) | refine zf ?_ | refine zg ?_ | (refine zF ?_; simp only [zG]; try simp) | (refine zd (fun hc => ?_) (fun hc => ?_) <;> try simp at hc) | fail)
    exact zY (.inr rfl) (by simp) (h _ _ hO1 hE1)
def zbq : List Ru → Ru
  | [] => ⟨0, 0, 0, 0, ⟨0, 0⟩, 0⟩
  | r :: l => l.foldl (fun m x => if zd8 x m < 0 then x else m) r
theorem zkW {z : List Ru} {k : Nat} {x : Ru} (h1 : 1 ≤ k) (hx : z[k]? = some x) : zbq (z.take (k + 1)) = if zd8 x (zbq (z.take k)) < 0 then x else zbq (z.take k) := by
  rw [List.take_add_one, hx]
  cases z with
  | nil => simp at hx
  | cons r l =>
    obtain ⟨j, rfl⟩ : ∃ j, k = j + 1 := ⟨k - 1, by omega⟩
    simp [zbq, List.foldl_append]
    rfl
theorem zad (x : Ru) : AV.agg [.raw (.int .i64 x.id), .raw (.int .i64 x.dev), .raw (.int .i64 x.prio), .raw (.int .i64 x.kind), .raw (.int .u32 x.r.lo), .raw (.int .u32 x.r.hi), .raw (.int .i64 x.port)] = zab x := rfl
theorem zcK (a b : Ru) : setPart (zab a) 0 [.raw (.int .i64 b.id), .raw (.int .i64 b.dev), .raw (.int .i64 b.prio), .raw (.int .i64 b.kind), .raw (.int .u32 b.r.lo), .raw (.int .u32 b.r.hi), .raw (.int .i64 b.port)] = zab b := rfl
theorem zbj (a : Ru) : zak (zab a).cells = true := rfl
theorem zll (z : List Ru) (hne : z ≠ []) (f : Bool) (hl : z.length < 2932031007403) : PCalls Tryz.prog 136 [zz z f, .fn (.func 137) [] []] (zab (zbq z)) := by
  refine zE Tryz.func136 rfl (N := 33) rfl rfl (by simp) (by simp [noIds, zab]) fun σ => ?_
  have hpos : 0 < z.length := List.length_pos_iff.2 hne
  have hx0 : z[0]? = some z[0] := List.getElem?_eq_getElem hpos
  have hlt1 : ¬ ((z.length : Int) < 1) := by omega
  (try ((first | with_reducible refine zs ?_ | with_reducible refine zx ?_ | with_reducible refine zy ?_); simp [zz, zM, hx0, hlt1, hpos])); repeat' (first | ((first | refine zm ?_ | refine zl ?_ | refine dN (by decide +kernel) ?_ | (refine zb ?_ ?_ <;> (intro hg; simp only [hg])) | fail) <;> simp [zz, zM, hx0, hlt1, hpos]) | refine zf ?_ | refine zg ?_ | (refine zF ?_; simp only [zG]; try simp) | ((first | refine zq (by simp) ?_ | refine zu (by simp) (by simp) (by simp (maxDischargeDepth := 30) [zz, zM, hx0, hlt1, hpos]) ?_ | fail); simp) | (refine zd (fun hc => ?_) (fun hc => ?_) <;> try simp at hc) | fail)
  refine zO (fun n A τ => A 0 = zz z f ∧ A 1 = .fn (.func 137) [] [] ∧ A 4 = .rp ⟨4, σ.nx 4, 7⟩ 0 0 ∧ A 5 = .rp ⟨5, σ.nx 5, 7⟩ 0 0 ∧ (∃ y, τ.m ⟨4, σ.nx 4, 7⟩ = some (.buf [zab y])) ∧ Ext σ τ ∧
    ∃ (k : Nat), A 6 = .raw (.int .i64 k) ∧ 1 ≤ k ∧ k ≤ z.length ∧ τ.m ⟨5, σ.nx 5, 7⟩ = some (.buf [zab (zbq (z.take k))]) ∧ n = z.length - k) (z.length - 1) ?_ ?_
  · refine ⟨by simp [zz], by simp, by simp, by simp [St.new], ⟨⟨0, 0, 0, 0, ⟨0, 0⟩, 0⟩, ?_⟩, ?_, 1, by simp, by omega, by omega, ?_, ?_⟩
    · simp [St.new, St.set, zab]
    · refine Ext.setF (by simp (maxDischargeDepth := 30)) ?_
      have := zc σ 5 7
      simpa [St.new] using this
    · have e : z.take 1 = [z[0]] := by
        cases z with
        | nil => exact absurd rfl hne
        | cons r l => rfl
      rw [e]
      simp [St.new, St.set, zbq, zab]
    · rfl
  rintro n A τ ⟨a0, a1, a4, a5, ⟨y, m4⟩, hE, k, a6, h1, hk, m5, rfl⟩ I1 hI1
  have f4 : σ.m ⟨4, σ.nx 4, 7⟩ = none := zc _ _ _
  have f5 : σ.m ⟨5, σ.nx 5, 7⟩ = none := zc _ _ _
  by_cases hlt : k < z.length
  · have hx : z[k]? = some z[k] := List.getElem?_eq_getElem hlt
    have w1 : IntKind.i64.wrap ((k : Int) + 1) = ((k + 1 : Nat) : Int) := by rw [zo (by omega) (by omega)]; omega
    (try ((first | with_reducible refine zs ?_ | with_reducible refine zx ?_ | with_reducible refine zy ?_); simp [zz, a0, a1, a4, a5, a6, hlt, hx, m4, m5, zM, zad])); repeat' (first | ((first | refine zm ?_ | refine zl ?_ | refine dN (by decide +kernel) ?_ | (refine zb ?_ ?_ <;> (intro hg; simp only [hg])) | fail) <;> simp [zz, a0, a1, a4, a5, a6, hlt, hx, m4, m5, zM, zad]) | refine zf ?_ | refine zg ?_ | (refine zF ?_; simp only [zG]; try simp) | ((first | refine zq (by simp) ?_ | refine zu (by simp) (by simp) (by simp (maxDischargeDepth := 30) [zz, a0, a1, a4, a5, a6, hlt, hx, m4, m5, zM, zad]) ?_ | fail); simp) | (refine zd (fun hc => ?_) (fun hc => ?_) <;> try simp at hc) | fail)
    refine PCalls.use (zm5 _ _) ?_
    by_cases hs : zd8 z[k] (zbq (z.take k)) < 0
    · (try ((first | with_reducible refine zs ?_ | with_reducible refine zx ?_ | with_reducible refine zy ?_); simp [zz, a0, a1, a4, a5, a6, hlt, hx, m4, m5, zM, zad, zcK, hs, w1])); repeat' (first | ((first | refine zm ?_ | refine zl ?_ | refine dN (by decide +kernel) ?_ | (refine zb ?_ ?_ <;> (intro hg; simp only [hg])) | fail) <;> simp [zz, a0, a1, a4, a5, a6, hlt, hx, m4, m5, zM, zad, zcK, hs, w1]) | refine zf ?_ | refine zg ?_ | (refine zF ?_; simp only [zG]; try simp) | ((first | refine zq (by simp) ?_ | refine zu (by simp) (by simp) (by simp (maxDischargeDepth := 30) [zz, a0, a1, a4, a5, a6, hlt, hx, m4, m5, zM, zad, zcK, hs, w1]) ?_ | fail); simp) | (refine zd (fun hc => ?_) (fun hc => ?_) <;> try simp at hc) | fail)
      exact hI1 (z.length - (k + 1)) _ _ (by omega) ⟨by simp [a0], by simp [a1], by simp [a4], by simp [a5], ⟨y, by rw [zhA (by simp)]; exact m4⟩, hE.setF f5, k + 1, by simp, by omega, by omega, by rw [zka m5, zkW h1 hx, if_pos hs], rfl⟩
    · have FF := fI zz.eq_1 (fI @a0 (fI @a1 (fI @a4 (fI @a5 (fI @a6 (fI @hlt (fI @hx (fI @m4 (fI @m5 (fI @zM (fI @zad (fI @zcK (fI @hs @w1))))))))))))); refine zB ?_; clear FF
      exact hI1 (z.length - (k + 1)) _ _ (by omega) ⟨by simp [a0], by simp [a1], by simp [a4], by simp [a5], ⟨y, m4⟩, hE, k + 1, by simp, by omega, by omega, by rw [m5, zkW h1 hx, if_neg hs], rfl⟩
  · have : k = z.length := by omega
    subst this
    rw [List.take_length] at m5
    have FF := fI zz.eq_1 (fI @a0 (fI @a1 (fI @a4 (fI @a5 (fI @a6 (fI @m4 (fI @m5 (fI @zM (fI @zad @zcK))))))))); refine goC ?_; clear FF
    refine zu (.inr rfl) rfl (hE.setF f4) ?_
    simp [a4, m4, St.set, zM]
    exact zad _
theorem ACalls.args {P : Program} {f : FuncId} {as_ bs : List AV} {σ : St} {K : AV → St → Prop} (hw : ∀ S vs, LRel S as_ vs → LRel S bs vs) (h : ACalls P f bs σ K) : ACalls P f as_ σ K :=
  ⟨h.1, fun S vs hS hl => h.2 S vs hS (hw S vs hl)⟩
def OwnP (σ0 τ : St) (n : Nat) (v : AV) (es : List AV) : Prop :=
  (es = [] ∧ v = .sl 0 [] true) ∨ ∃ j rest, v = .rs j 0 es.length ∧ j.sz = n ∧ τ.m j = some (.buf (es ++ rest)) ∧ σ0.m j = none
theorem OwnL.toP {σ0 τ : St} {n : Nat} {v : AV} {es : List AV} (h : OwnL σ0 τ n v es) : OwnP σ0 τ n v es := by
  rcases h with h | ⟨j, h1, h2, h3, h4⟩
  · exact .inl h
  · exact .inr ⟨j, [], h1, h2, by rw [List.append_nil]; exact h3, h4⟩
theorem OwnP.ext {σ0 τ ρ : St} {n : Nat} {v : AV} {es : List AV} (h : OwnP σ0 τ n v es) (k : Ext τ ρ) : OwnP σ0 ρ n v es := by
  rcases h with h | ⟨j, r, h1, h2, h3, h4⟩
  · exact .inl h
  · exact .inr ⟨j, r, h1, h2, k.m _ _ h3, h4⟩
theorem PCalls.useP {P : Program} {f : FuncId} {σ0 σ : St} {n : Nat} {a v r : AV} {es : List AV} {K : AV → St → Prop} (h : PCalls P f [.sl n es false, a] r) (hr : r.plain = true) (hO : OwnP σ0 σ n v es) (k : K r σ) : ACalls P f [v, a] σ K := by
  rcases hO with ⟨rfl, rfl⟩ | ⟨j, rest, rfl, hj, hm, hn⟩
  · refine ACalls.args (bs := [.sl n [] false, a]) (fun S vs hl => ?_) (h.use k)
    simp only [LRel] at hl ⊢
    obtain ⟨w, ws, e2, h2, v, us, e, h1, h3⟩ := hl
    exact ⟨w, ws, e2, zaT _ _ h2, v, us, e, h1, h3⟩
  · refine RCalls.use (.inr ⟨[.sl n es false, a], ?_, h, hr⟩) k
    simp only [zdp]
    exact ⟨_, _, rfl, .inr ⟨es ++ rest, hm, by simp, by simp [hj]⟩, _, _, rfl, .inl rfl, rfl⟩
theorem zmj {g : FuncId} {caps : List AV} {p : Ru → Bool} (l : List Ru) {σ0 σ : St} {v : AV} {K : AV → St → Prop} (hO : OwnL σ0 σ 7 v (l.map zab)) (hE : Ext σ0 σ) (hl : l.length < 2932031007403)
    (hg : ∀ r ∈ l, PCalls Tryz.prog g (zab r :: caps) (.raw (.bool (p r)))) (h : ∀ v' τ, OwnP σ0 τ 7 v' ((l.filter fun r => !p r).map zab) → Ext σ0 τ → K v' τ) : ACalls Tryz.prog 133 [v, .fn (.func g) [] caps] σ K := by
  refine zaZ Tryz.func133 rfl (N := 42) rfl rfl (by simp) ?_
  refine za0 ?_
  refine PCalls.useP (zli l false (by omega) hg) rfl hO.toP ?_
  cases ha : l.any p with
  | false =>
    have hi : idxOf p l = -1 := by unfold idxOf; rw [ha]; rfl
    have hfl : (l.filter fun r => !p r) = l := by
      rw [List.filter_eq_self]
      intro r hr
      rw [List.any_eq_false] at ha
      simpa using ha r hr
    have w1 : IntKind.i64.wrap (-1) = -1 := zo (by omega) (by omega)
    rw [hfl] at h
    have FF := fI @hi @w1; refine goC ?_; clear FF
    exact zY (.inr rfl) (by simp) (h _ _ hO.toP hE)
  | true =>
    have hi : idxOf p l = (l.findIdx p : Nat) := by unfold idxOf; rw [ha]; rfl
    have hlt0 : l.findIdx p < l.length := List.findIdx_lt_length.2 (by simpa using ha)
    obtain ⟨i0, hi0⟩ : ∃ i0, l.findIdx p = i0 := ⟨_, rfl⟩
    rw [hi0] at hi hlt0
    have hne : ¬ ((i0 : Int) = -1) := by omega
    have w0 : IntKind.i64.wrap ((i0 : Int) + 1) = ((i0 + 1 : Nat) : Int) := by rw [zo (by omega) (by omega)]; omega
    have w1 : IntKind.i64.wrap (-1) = -1 := zo (by omega) (by omega)
    rcases hO with ⟨he, _⟩ | ⟨j, hv, hj, hm, hn⟩
    · have : l = [] := by simpa using he
      subst this
      simp at ha
    rw [List.length_map] at hv
    subst hv
    have FF := fI @hi (fI @w1 (fI @hne @w0)); refine zB ?_; clear FF
    have hfirst : ∀ r ∈ l.take i0, p r = false := fun r hr => by
      obtain ⟨q, hq⟩ := List.getElem?_of_mem hr
      obtain ⟨hq1, hq2⟩ := List.getElem?_eq_some_iff.1 hq
      rw [List.length_take] at hq1
      rw [List.getElem_take] at hq2
      have := List.not_of_lt_findIdx (p := p) (xs := l) (i := q) (by omega)
      rw [hq2] at this
      simpa using this
    have hp0 : p l[i0] = true := by
      have := List.findIdx_getElem (p := p) (xs := l) (w := by omega)
      simpa only [hi0] using this
    have htk : ∀ k, (hk : k < l.length) → (l.take (k + 1)).filter (fun r => !p r) = (l.take k).filter (fun r => !p r) ++ if p l[k] = true then [] else [l[k]] := fun k hk => by
      rw [List.take_add_one, List.getElem?_eq_getElem hk, List.filter_append]
      congr 1
      cases hb : p l[k] <;> simp [hb]
    refine zO (fun n A τ => A 0 = .rs j 0 l.length ∧ A 1 = .fn (.func g) [] caps ∧ Ext σ0 τ ∧ ∃ (k : Nat) (q : List Ru), A 6 = .raw (.int .i64 k) ∧ A 5 = .raw (.int .i64 (((l.take k).filter fun r => !p r).length : Nat)) ∧ k ≤ l.length ∧
      ((l.take k).filter fun r => !p r).length < k ∧ q.length = l.length ∧ q.take ((l.take k).filter fun r => !p r).length = (l.take k).filter (fun r => !p r) ∧ q.drop k = l.drop k ∧ τ.m j = some (.buf (q.map zab)) ∧ n = l.length - k) (l.length - (i0 + 1)) ?_ ?_
    · have e1 : (l.take (i0 + 1)).filter (fun r => !p r) = l.take i0 := by
        rw [htk i0 hlt0, if_pos hp0, List.append_nil, List.filter_eq_self]
        intro r hr; simp [hfirst r hr]
      refine ⟨by simp, by simp, hE, i0 + 1, l, by simp, ?_, by omega, ?_, rfl, ?_, rfl, hm, rfl⟩
      · rw [e1, List.length_take, Nat.min_eq_left (by omega)]; simp
      · rw [e1, List.length_take, Nat.min_eq_left (by omega)]; omega
      · rw [e1, List.length_take, Nat.min_eq_left (by omega)]
    rintro n A τ ⟨a0, a1, hE, k, q, a6, a5, hk, hik, hq, hq1, hq2, hmq, rfl⟩ I1 hI1
    obtain ⟨i, hii⟩ : ∃ i, ((l.take k).filter fun r => !p r).length = i := ⟨_, rfl⟩
    rw [hii] at a5 hik hq1
    by_cases hlt : k < l.length
    · have hx : q[k]? = some l[k] := by
        have := congrArg (·[0]?) hq2
        simpa [List.getElem?_drop, List.getElem?_eq_getElem hlt] using this
      have hxi : q[i]? = some q[i] := List.getElem?_eq_getElem (by omega)
      have w2 : IntKind.i64.wrap ((k : Int) + 1) = ((k + 1 : Nat) : Int) := by rw [zo (by omega) (by omega)]; omega
      have w3 : IntKind.i64.wrap ((i : Int) + 1) = ((i + 1 : Nat) : Int) := by rw [zo (by omega) (by omega)]; omega
      have hjf : j ≠ ⟨7, τ.nx 7, 7⟩ := fun e => by rw [e, zc] at hmq; cases hmq
      have hil : i < l.length := by omega
      have FF := fI @a0 (fI @a1 (fI @a6 (fI @a5 (fI @hlt (fI @hx (fI @hmq (fI @hj (fI @hjf (fI @zM (fI @zad (fI @w2 @w3))))))))))); refine zB ?_; clear FF
      refine PCalls.use (hg l[k] (List.getElem_mem _)) ?_
      cases hpk : p l[k] with
      | true =>
        have FF := fI @a0 (fI @a1 (fI @a6 (fI @a5 (fI @hlt (fI @hx (fI @hmq (fI @hj (fI @hjf (fI @zM (fI @zad (fI @w2 @w3))))))))))); refine zB ?_; clear FF
        have e := htk k hlt
        rw [if_pos hpk, List.append_nil] at e
        refine hI1 (l.length - (k + 1)) _ _ (by omega) ⟨by simp [a0], by simp [a1], by simp [hE], k + 1, q, by simp, by rw [e, hii]; simp [a5], by omega, by rw [e, hii]; omega, hq, by rw [e, hii]; exact hq1, ?_, by simp [St.set, St.new, hjf, hmq], rfl⟩
        have := congrArg (List.drop 1) hq2
        simpa [List.drop_drop, Nat.add_comm] using this
      | false =>
        have hsp : setPart (zab q[i]) 0 (zab l[k]).cells = zab l[k] := rfl
        rw [zM] at hsp
        have FF := fI @a0 (fI @a1 (fI @a6 (fI @a5 (fI @hlt (fI @hil (fI @hx (fI @hxi (fI @hmq (fI @hj (fI @hjf (fI @zM (fI @zad (fI @hsp (fI @w2 @w3)))))))))))))); refine zB ?_; clear FF
        have e := htk k hlt
        rw [if_neg (by simp [hpk])] at e
        have el : (((l.take k).filter fun r => !p r) ++ [l[k]]).length = i + 1 := by rw [List.length_append, hii]; rfl
        refine hI1 (l.length - (k + 1)) _ _ (by omega) ⟨by simp [a0], by simp [a1], Ext.setF (by simp [hE]) hn, k + 1, q.set i l[k], by simp, by rw [e, el]; simp, by omega, by rw [e, el]; omega, by simpa using hq, ?_, ?_, by simp [St.set, St.new, hjf, hmq, List.map_set], rfl⟩
        · rw [e, el, ← hq1, List.take_succ_eq_append_getElem (by simp; omega)]
          simp
          rw [List.take_set, List.set_eq_of_length_le (by simp; omega)]
        · have := congrArg (List.drop 1) hq2
          rw [List.drop_set_of_lt (by omega)]
          simpa [List.drop_drop, Nat.add_comm] using this
    · have : k = l.length := by omega
      subst this
      rw [List.take_length] at *
      have hil : i ≤ l.length := by omega
      obtain ⟨m, hm'⟩ : ∃ m, l.length - i = m + 1 := ⟨l.length - i - 1, by omega⟩
      have ecut : zdl j 0 i l.length = .rs j i (m + 1) := by unfold zdl; rw [if_pos (.inr (by omega)), hm', Nat.zero_add]
      obtain ⟨rest, hcl⟩ : ∃ rest, zdM Tryz.prog τ.m 26 (.rs j i (m + 1)) = some (.wrv j ((l.filter fun r => !p r).map zab ++ rest) (.tup [])) := by
        have hle : i + (m + 1) ≤ q.length := by omega
        refine ⟨List.replicate (m + 1) (zab ⟨0, 0, 0, 0, ⟨0, 0⟩, 0⟩) ++ (q.map zab).drop (i + (m + 1)), ?_⟩
        rw [← hq1, List.map_take]
        simp [zdM, hmq, hj, zak, cellOK, hle, zab]
      have FF := fI @a0 (fI @a1 (fI @a6 (fI @a5 (fI @hj (fI @hil (fI @ecut @hcl)))))); refine goC ?_; clear FF
      have ec0 : zdl j 0 0 i = .rs j 0 ((l.filter fun r => !p r).map zab).length := by
        unfold zdl; rw [if_pos (.inl rfl), List.length_map, hii]; simp
      exact zY (.inr rfl) (x := zdl j 0 0 i) (by simp) (by
        rw [ec0]
        exact h _ _ (.inr ⟨j, rest, rfl, hj, zka hmq, hn⟩) (Ext.setF hE hn))
end Go.Proofs.YtpboabpapgimoaaGreat.Av
namespace Go.Proofs.YtpboabpapgimoaaGreat.Av
open Go
set_option linter.unusedSimpArgs false
set_option linter.unusedVariables false
set_option maxRecDepth 100000
set_option maxHeartbeats 2000000
set_option pp.maxSteps 300
theorem zkf {g : FuncId} {caps : List AV} {p : Ru → Bool} (r : Ru) (hg : PCalls Tryz.prog g (zab r :: caps) (.raw (.bool (p r)))) : PCalls Tryz.prog 135 [zab r, .pp [.fn (.func g) [] caps] 0] (.raw (.bool (!p r))) := by
  refine zE Tryz.func135 rfl (N := 8) rfl rfl (by simp) (by simp [noIds]) fun σ => ?_
  have FF := fI @zM @zbj; refine zB ?_; clear FF
  rw [zad]
  refine PCalls.use hg ?_
  exact zgQ
theorem zir {g : FuncId} {caps : List AV} {p : Ru → Bool} (l : List Ru) (f : Bool) (hl : l.length < 2932031007403) (hg : ∀ r ∈ l, PCalls Tryz.prog g (zab r :: caps) (.raw (.bool (p r)))) :
    PCalls Tryz.prog 116 [zz l f, .fn (.func g) [] caps] (.tup [zab (zbq (l.filter p)), .raw (.bool (l.any p))]) := by
  refine zE Tryz.func116 rfl (N := 16) rfl rfl (by simp) (by simp [noIds, zab]) fun σ => ?_
  repeat (refine zf ?_)
  refine zl ?_
  simp
  refine z8 ⟨3, σ.nx 3, 1⟩ ?_
  generalize hτ : St.del _ _ = τ
  generalize hA : (fun t => zr _ _ _) = A
  have a0 : A 0 = zz l f := by rw [← hA]; simp [zz]
  have a3 : A 3 = .pp [.fn (.func g) [] caps] 0 := by rw [← hA, ← hτ]; simp [zr, St.new, St.del]
  have a4 : A 4 = .rp ⟨4, σ.nx 4, 7⟩ 0 0 := by rw [← hA, ← hτ]; simp [zr, St.new, St.del]
  have m4 : τ.m ⟨4, σ.nx 4, 7⟩ = some (.buf [zab ⟨0, 0, 0, 0, ⟨0, 0⟩, 0⟩]) := by rw [← hτ]; simp [St.new, St.del, zab]
  have hE : Ext σ τ := by
    rw [← hτ]
    refine ⟨fun i o h => ?_, fun s => ?_⟩
    · rw [zU (fun e => by rw [e, zc] at h; cases h)]
      exact zaz _ _ (zaz _ _ h)
    · exact Nat.le_trans (St.new_le σ 3 1 (.buf [.fn (.func g) [] caps]) s) (St.new_le (σ.new 3 1 (.buf [.fn (.func g) [] caps])) 4 7 (.buf [zab ⟨0, 0, 0, 0, ⟨0, 0⟩, 0⟩]) s)
  clear hτ hA
  have f4 : σ.m ⟨4, σ.nx 4, 7⟩ = none := zc _ _ _
  have FF := fI @a0 (fI @a3 (fI @a4 @m4)); refine zB ?_; clear FF
  refine zlk l f hl fun v τ1 hO hE1 => ?_
  have FF := fI @a0 (fI @a3 @a4); refine zB ?_; clear FF
  refine zmj (σ0 := τ) l hO hE1 hl (fun r hr => zkf r (hg r hr)) fun v' τ2 hP hE2 => ?_
  have hfl : (l.filter fun r => !(!p r)) = l.filter p := by simp
  rw [hfl] at hP
  have m4' : τ2.m ⟨4, σ.nx 4, 7⟩ = some (.buf [zab ⟨0, 0, 0, 0, ⟨0, 0⟩, 0⟩]) := hE2.m _ _ m4
  have hE3 : Ext σ τ2 := hE.trans hE2
  cases ha : l.any p with
  | false =>
    have hnil : l.filter p = [] := by
      rw [List.filter_eq_nil_iff]
      intro r hr
      rw [List.any_eq_false] at ha
      exact ha r hr
    rw [hnil] at hP ⊢
    have hlen : ∃ z, (v' = .sl 0 [] true ∨ v' = .rs z 0 0) := by
      rcases hP with ⟨_, h⟩ | ⟨z, rest, h, _⟩
      · exact ⟨⟨0, 0, 0⟩, .inl h⟩
      · exact ⟨z, .inr h⟩
    have hz : setPart (zab ⟨0, 0, 0, 0, ⟨0, 0⟩, 0⟩) 0 [.raw (.int .i64 0), .raw (.int .i64 0), .raw (.int .i64 0), .raw (.int .i64 0), .raw (.int .u32 0), .raw (.int .u32 0), .raw (.int .i64 0)] = zab ⟨0, 0, 0, 0, ⟨0, 0⟩, 0⟩ := rfl
    obtain ⟨z, rfl | rfl⟩ := hlen
    · have FF := fI @a0 (fI @a3 (fI @a4 @m4')); refine goC ?_; clear FF
      exact zu (.inr rfl) rfl (hE3.setF f4) (by simp [a4, m4', St.set, zbq, hz, zM]; rfl)
    · have FF := fI @a0 (fI @a3 (fI @a4 @m4')); refine goC ?_; clear FF
      exact zu (.inr rfl) rfl (hE3.setF f4) (by simp [a4, m4', St.set, zbq, hz, zM]; rfl)
  | true =>
    have hne : l.filter p ≠ [] := by
      intro e
      rw [List.filter_eq_nil_iff] at e
      obtain ⟨r, hr, h⟩ := List.any_eq_true.1 ha
      exact e r hr h
    have hlf : (l.filter p).length ≤ l.length := List.length_filter_le _ _
    have hmin := zll (l.filter p) hne false (by omega)
    have hpos : 0 < (l.filter p).length := List.length_pos_iff.2 hne
    have hP' := hP
    rcases hP with ⟨h, _⟩ | ⟨z, rest, rfl, hz7, hz, hzn⟩
    · exact absurd (by simpa using h) hne
    rw [List.length_map] at hP' ⊢
    have hl0 : ¬ ((l.filter p).length = 0) := by omega
    have FF := fI @a0 (fI @a3 (fI @a4 (fI @m4' @hl0))); refine zB ?_; clear FF
    refine PCalls.useP hmin rfl hP' ?_
    have FF := fI @a0 (fI @a3 (fI @a4 (fI @m4' (fI @zM @zcK)))); refine goC ?_; clear FF
    exact zu (.inr rfl) rfl (hE3.setF f4) (by simp [a4, m4', St.set, zM]; exact zad _)
def zdg (d a : Int) (r : Ru) : Bool := decide (1 < r.kind) && zd5 r d a
def zdh (d a : Int) (r : Ru) : Bool := decide (r.kind ≤ 1) && zd5 r d a
theorem znY (r : Ru) (d a : Int) : PCalls Tryz.prog 117 [zab r, .pp [.raw (.int .i64 d)] 0, .pp [.raw (.int .u32 a)] 0] (.raw (.bool (zdg d a r))) := by
  refine zE Tryz.func117 rfl (N := 14) rfl rfl (by simp) (by simp [noIds]) fun σ => ?_
  obtain ⟨b, hb⟩ : ∃ b, decide (1 < r.kind) = b := ⟨_, rfl⟩
  unfold zdg
  rw [hb]
  have FF := fI @zM (fI @zbj (fI @hb @zad)); refine zB ?_; clear FF
  refine PCalls.use (ziq r d a) ?_
  exact zgQ
theorem znZ (r : Ru) (d a : Int) : PCalls Tryz.prog 119 [zab r, .pp [.raw (.int .i64 d)] 0, .pp [.raw (.int .u32 a)] 0] (.raw (.bool (zdh d a r))) := by
  refine zE Tryz.func119 rfl (N := 14) rfl rfl (by simp) (by simp [noIds]) fun σ => ?_
  obtain ⟨b, hb⟩ : ∃ b, decide (r.kind ≤ 1) = b := ⟨_, rfl⟩
  unfold zdh
  rw [hb]
  have FF := fI @zM (fI @zbj (fI @hb @zad)); refine zB ?_; clear FF
  refine PCalls.use (ziq r d a) ?_
  exact zgQ
end Go.Proofs.YtpboabpapgimoaaGreat.Av
namespace Go.Proofs.YtpboabpapgimoaaGreat.Av
open Go
set_option linter.unusedSimpArgs false
set_option linter.unusedVariables false
set_option maxRecDepth 100000
set_option maxHeartbeats 4000000
set_option pp.maxSteps 300
def zbn (d a : Int) (acl : Bool) (r : Ru) : Bool := decide (r.dev = d) && (!decide (a < r.r.lo) && (!decide (r.r.hi < a) && ((decide (r.kind = 2) || decide (r.kind = 3)) == acl)))
def zfe (x m : Ru) : Bool := decide (m.prio < x.prio) || (decide (x.prio = m.prio) && decide (x.id < m.id))
theorem zjz (x m : Ru) : zd8 x m < 0 ↔ zfe x m = true := by
  unfold zd8 cmpI zfe
  simp only [Bool.or_eq_true, Bool.and_eq_true, decide_eq_true_eq]
  repeat' split
  all_goals omega
theorem zkX (z : List Ru) (x : Ru) : zbq (z ++ [x]) = if z = [] then x else if zfe x (zbq z) = true then x else zbq z := by
  cases z with
  | nil => rfl
  | cons r l =>
    simp only [reduceCtorEq, if_false, List.cons_append, zbq, List.foldl_append, List.foldl_cons, List.foldl_nil]
    by_cases h : zd8 x (l.foldl (fun m x => if zd8 x m < 0 then x else m) r) < 0
    · rw [if_pos h]; exact (if_pos ((zjz _ _).1 h)).symm
    · rw [if_neg h]; exact (if_neg (fun q => h ((zjz _ _).2 q))).symm
theorem pb1 : ∀ b1 b2 b3 b4 b5 acl : Bool, b4 = false → ¬ b5 = acl → (b1 && (!b2 && (!b3 && ((b4 || b5) == acl)))) = false := by decide
theorem pb2 : ∀ b1 b2 b3 b4 b5 acl : Bool, b4 = !false → acl = false → (b1 && (!b2 && (!b3 && ((b4 || b5) == acl)))) = false := by decide
theorem pb3 : ∀ b1 b2 b3 b4 b5 acl : Bool, b3 = !false → (b1 && (!b2 && (!b3 && ((b4 || b5) == acl)))) = false := by decide
theorem pb4 : ∀ b1 b2 b3 b4 b5 acl : Bool, b2 = !false → (b1 && (!b2 && (!b3 && ((b4 || b5) == acl)))) = false := by decide
theorem pb5 : ∀ b1 b2 b3 b4 b5 acl : Bool, (!b1) = !false → (b1 && (!b2 && (!b3 && ((b4 || b5) == acl)))) = false := by decide
theorem pb6 : ∀ b1 b2 b3 b4 b5 acl : Bool, b4 = false → (!b1) = false → b2 = false → b3 = false → b5 = acl → (b1 && (!b2 && (!b3 && ((b4 || b5) == acl)))) = true := by decide
theorem pb7 : ∀ b1 b2 b3 b4 b5 acl : Bool, b4 = !false → (!b1) = false → b2 = false → b3 = false → acl = true → (b1 && (!b2 && (!b3 && ((b4 || b5) == acl)))) = true := by decide
theorem pc1 : ∀ b6 b7 b8 : Bool, b6 = !false → (b6 || (b7 && b8)) = true := by decide
theorem pc2 : ∀ b6 b7 b8 : Bool, b7 = true → b8 = true → (b6 || (b7 && b8)) = true := by decide
theorem pc3 : ∀ b6 b7 b8 : Bool, b6 = false → b7 = !true → (b6 || (b7 && b8)) = false := by decide
theorem pc4 : ∀ b6 b7 b8 : Bool, b6 = false → b8 = false → (b6 || (b7 && b8)) = false := by decide
theorem zgi (l : List Ru) (f : Bool) (d a : Int) (acl : Bool) (hl : l.length < 2932031007403) :
    PCalls Tryz.prog 111 [zz l f, .raw (.int .i64 d), .raw (.int .u32 a), .raw (.bool acl)] (.tup [zab (zbq (l.filter (zbn d a acl))), .raw (.bool (l.any (zbn d a acl)))]) := by
  refine zE Tryz.func111 rfl (N := 83) rfl rfl (by simp) (by simp [noIds, zab]) fun σ => ?_
  have hz : setPart (zab ⟨0, 0, 0, 0, ⟨0, 0⟩, 0⟩) 0 [.raw (.int .i64 0), .raw (.int .i64 0), .raw (.int .i64 0), .raw (.int .i64 0), .raw (.int .u32 0), .raw (.int .u32 0), .raw (.int .i64 0)] = zab ⟨0, 0, 0, 0, ⟨0, 0⟩, 0⟩ := rfl
  have FF := zz.eq_1; refine zB ?_; clear FF
  refine zO (fun n A τ => Ext σ τ ∧ A 0 = zz l f ∧ A 1 = .raw (.int .i64 d) ∧ A 2 = .raw (.int .u32 a) ∧ A 3 = .raw (.bool acl) ∧ A 8 = .rp ⟨8, σ.nx 8, 7⟩ 0 0 ∧ A 10 = .rp ⟨10, σ.nx 10, 7⟩ 0 0 ∧
    τ.m ⟨8, σ.nx 8, 7⟩ = some (.buf [zab ⟨0, 0, 0, 0, ⟨0, 0⟩, 0⟩]) ∧ ∃ (i : Nat) (q : List Ru), q = (l.take i).filter (zbn d a acl) ∧ τ.m ⟨10, σ.nx 10, 7⟩ = some (.buf [zab (zbq q)]) ∧
      A 12 = .raw (.int .i64 i) ∧ A 11 = .raw (.bool (!q.isEmpty)) ∧ i ≤ l.length ∧ n = l.length - i) l.length ?_ ?_
  · refine ⟨by simp (maxDischargeDepth := 30), by simp [zz], by simp, by simp, by simp, by simp, by simp [St.new], by simp [St.new, zab], 0, [], by simp, by simp [St.new, zab, zbq], by simp, by simp, by omega, by omega⟩
  rintro n A τ ⟨hE, a0, a1, a2, a3, a8, a10, m8, i, q, hq, m10, a12, a11, hi, rfl⟩ I1 hI1
  have f8 : σ.m ⟨8, σ.nx 8, 7⟩ = none := zc _ _ _
  have f10 : σ.m ⟨10, σ.nx 10, 7⟩ = none := zc _ _ _
  by_cases hlt : i < l.length
  · have hx : l[i]? = some l[i] := List.getElem?_eq_getElem hlt
    have w1 : IntKind.i64.wrap ((i : Int) + 1) = ((i + 1 : Nat) : Int) := by rw [zo (by omega) (by omega)]; omega
    have htk : (l.take (i + 1)).filter (zbn d a acl) = q ++ if zbn d a acl l[i] = true then [l[i]] else [] := by
      rw [List.take_add_one, hx, List.filter_append, hq]
      congr 1
      cases hb : zbn d a acl l[i] <;> simp [hb]
    obtain ⟨m, hmm⟩ : ∃ m, zbq q = m := ⟨_, rfl⟩
    rw [hmm] at m10
    obtain ⟨e', he⟩ : ∃ e', q.isEmpty = e' := ⟨_, rfl⟩
    rw [he] at a11
    have n8 : (⟨8, σ.nx 8, 7⟩ : Id) ≠ ⟨13, τ.nx 13, 7⟩ := by simp
    obtain ⟨b1, h1⟩ : ∃ b, decide (l[i].dev = d) = b := ⟨_, rfl⟩
    obtain ⟨b2, h2⟩ : ∃ b, decide (a < l[i].r.lo) = b := ⟨_, rfl⟩
    obtain ⟨b3, h3⟩ : ∃ b, decide (l[i].r.hi < a) = b := ⟨_, rfl⟩
    obtain ⟨b4, h4⟩ : ∃ b, decide (l[i].kind = 2) = b := ⟨_, rfl⟩
    obtain ⟨b5, h5⟩ : ∃ b, decide (l[i].kind = 3) = b := ⟨_, rfl⟩
    obtain ⟨b6, h6⟩ : ∃ b, decide (m.prio < l[i].prio) = b := ⟨_, rfl⟩
    obtain ⟨b7, h7⟩ : ∃ b, decide (l[i].prio = m.prio) = b := ⟨_, rfl⟩
    obtain ⟨b8, h8⟩ : ∃ b, decide (l[i].id < m.id) = b := ⟨_, rfl⟩
    have hp : zbn d a acl l[i] = (b1 && (!b2 && (!b3 && ((b4 || b5) == acl)))) := by unfold zbn; rw [h1, h2, h3, h4, h5]
    have hbt : zfe l[i] m = (b6 || (b7 && b8)) := by unfold zfe; rw [h6, h7, h8]
    have h1' : decide (¬ l[i].dev = d) = !b1 := by rw [← h1]; simp
    have fin : ∀ (q' : List Ru) (A' : zL) (τ' : St), Ext σ τ' → A' 0 = zz l f → A' 1 = .raw (.int .i64 d) → A' 2 = .raw (.int .u32 a) → A' 3 = .raw (.bool acl) → A' 8 = .rp ⟨8, σ.nx 8, 7⟩ 0 0 → A' 10 = .rp ⟨10, σ.nx 10, 7⟩ 0 0 →
        τ'.m ⟨8, σ.nx 8, 7⟩ = some (.buf [zab ⟨0, 0, 0, 0, ⟨0, 0⟩, 0⟩]) → q' = (l.take (i + 1)).filter (zbn d a acl) → τ'.m ⟨10, σ.nx 10, 7⟩ = some (.buf [zab (zbq q')]) →
        A' 12 = .raw (.int .i64 ((i : Int) + 1)) → A' 11 = .raw (.bool (!q'.isEmpty)) → I1 A' τ' := fun q' A' τ' x1 x2 x3 x4 x5 x6 x7 x8 x9 x10 x11 x12 =>
      hI1 (l.length - (i + 1)) _ _ (by omega) ⟨x1, x2, x3, x4, x5, x6, x7, x8, i + 1, q', x9, x10, by simpa using x11, x12, by omega, rfl⟩
    (try ((first | with_reducible refine zs ?_ | with_reducible refine zx ?_ | with_reducible refine zy ?_); simp [zz, a0, a1, a2, a3, a8, a10, a11, a12, hlt, hx, m8, m10, zM, zbj, zad, zcK, w1, h1, h2, h3, h4, h5, h6, h7, h8, h1'])); repeat' (first | ((first | refine zm ?_ | refine zl ?_ | refine dN (by decide +kernel) ?_ | (refine zb ?_ ?_ <;> (intro hg; simp only [hg])) | fail) <;> simp [zz, a0, a1, a2, a3, a8, a10, a11, a12, hlt, hx, m8, m10, zM, zbj, zad, zcK, w1, h1, h2, h3, h4, h5, h6, h7, h8, h1']) | refine zf ?_ | refine zg ?_ | (refine zF ?_; simp only [zG]; try simp) | ((first | refine zq (by simp) ?_ | refine zu (by simp) (by simp) (by simp (maxDischargeDepth := 30) [zz, a0, a1, a2, a3, a8, a10, a11, a12, hlt, hx, m8, m10, zM, zbj, zad, zcK, w1, h1, h2, h3, h4, h5, h6, h7, h8, h1']) ?_ | fail); simp) | (refine zd (fun hc => ?_) (fun hc => ?_) <;> try simp at hc) | fail)
    all_goals first
      | (have e : zbn d a acl l[i] = false := by
           rw [hp]; first | exact pb1 _ _ _ _ _ _ ‹_› ‹_› | exact pb2 _ _ _ _ _ _ ‹_› ‹_› | exact pb3 _ _ _ _ _ _ ‹_› | exact pb4 _ _ _ _ _ _ ‹_› | exact pb5 _ _ _ _ _ _ ‹_›
         exact fin q _ _ (by simp [hE]) (by simp [a0]) (by simp [a1]) (by simp [a2]) (by simp [a3]) (by simp [a8]) (by simp [a10]) (by simp [St.new, m8]) (by rw [htk, e]; simp) (by simp [St.new, m10, hmm]) (by simp) (by simp [a11, he]))
      | (have e : zbn d a acl l[i] = true := by
           rw [hp]; first | exact pb6 _ _ _ _ _ _ ‹_› ‹_› ‹_› ‹_› ‹_› | exact pb7 _ _ _ _ _ _ ‹_› ‹_› ‹_› ‹_› ‹_›
         first
         | (have hm' : zbq (q ++ [l[i]]) = l[i] := by
              rw [zkX, hmm]
              first
              | rw [if_pos (by rw [← List.isEmpty_iff, he]; assumption)]
              | (rw [if_pos (c := zfe l[i] m = true) (by rw [hbt]; first | exact pc1 _ _ _ ‹_› | exact pc2 _ _ _ ‹_› ‹_›)]; split <;> rfl)
            exact fin (q ++ [l[i]]) _ _ (Ext.setF (by simp [hE]) f10) (by simp [a0]) (by simp [a1]) (by simp [a2]) (by simp [a3]) (by simp [a8]) (by simp [a10]) (by simp [St.set, St.new, m8]) (by rw [htk, e]; simp) (by simp [St.set, St.new, m10, hm']) (by simp) (by simp))
         | (have e0 : e' = false := ‹_›
            have hq0 : q ≠ [] := fun h => by rw [← List.isEmpty_iff, he, e0] at h; cases h
            have hm' : zbq (q ++ [l[i]]) = m := by
              rw [zkX, hmm, if_neg hq0, if_neg]
              rw [hbt]; first | (rw [pc3 _ _ _ ‹_› ‹_›]; simp) | (rw [pc4 _ _ _ ‹_› ‹_›]; simp)
            exact fin (q ++ [l[i]]) _ _ (by simp [hE]) (by simp [a0]) (by simp [a1]) (by simp [a2]) (by simp [a3]) (by simp [a8]) (by simp [a10]) (by simp [St.new, m8]) (by rw [htk, e]; simp) (by simp [St.new, m10, hm']) (by simp) (by simp [a11, e0])))
  · have : i = l.length := by omega
    subst this
    rw [List.take_length] at hq
    subst hq
    have hem : (!(l.filter (zbn d a acl)).isEmpty) = l.any (zbn d a acl) := by
      rw [Bool.eq_iff_iff]; simp [List.isEmpty_iff, List.filter_eq_nil_iff]
    rw [hem] at a11
    have FF := fI zz.eq_1 (fI @a0 (fI @a8 (fI @a10 (fI @a11 (fI @a12 (fI @m8 (fI @m10 (fI @zM (fI @zbj (fI @zad @zcK)))))))))); refine goC ?_; clear FF
    exact zu (.inr rfl) rfl (hE.setF f8) (by simp [a8, m8, St.set, zM]; exact zad _)
end Go.Proofs.YtpboabpapgimoaaGreat.Av
namespace Go.Proofs.YtpboabpapgimoaaGreat.Av
open Go
set_option linter.unusedSimpArgs false
set_option linter.unusedVariables false
set_option maxRecDepth 100000
set_option maxHeartbeats 2000000
set_option pp.maxSteps 300
def zd9 (l : List Ru) (d a : Int) : Bool := l.any (zbn d a true) && decide ((zbq (l.filter (zbn d a true))).kind = 3)
theorem zjA (l : List Ru) (f : Bool) (d a : Int) (hl : l.length < 2932031007403) : PCalls Tryz.prog 93 [zz l f, .raw (.int .i64 d), .raw (.int .u32 a)] (.raw (.bool (zd9 l d a))) := by
  have hf := zgi l f d a true hl
  unfold zd9
  obtain ⟨b, hb⟩ : ∃ b, l.any (zbn d a true) = b := ⟨_, rfl⟩
  obtain ⟨m, hmm⟩ : ∃ m, zbq (l.filter (zbn d a true)) = m := ⟨_, rfl⟩
  rw [hb, hmm] at hf ⊢
  refine zE Tryz.func93 rfl (N := 22) rfl rfl (by simp) (by simp [noIds]) fun σ => ?_
  refine za0 ?_
  refine PCalls.use hf ?_
  have FF := fI @zM (fI @zbj @zad); exact goA
theorem zkg (l : List Ru) (f : Bool) (d a : Int) (hl : l.length < 2932031007403) : PCalls Tryz.prog 94 [zz l f, .raw (.int .i64 d), .raw (.int .u32 a)] (.tup [zab (zbq (l.filter (zbn d a false))), .raw (.bool (l.any (zbn d a false)))]) := by
  have hf := zgi l f d a false hl
  obtain ⟨b, hb⟩ : ∃ b, l.any (zbn d a false) = b := ⟨_, rfl⟩
  obtain ⟨m, hmm⟩ : ∃ m, zbq (l.filter (zbn d a false)) = m := ⟨_, rfl⟩
  rw [hb, hmm] at hf ⊢
  refine zE Tryz.func94 rfl (N := 14) rfl rfl (by simp) (by simp [noIds, zab]) fun σ => ?_
  have hps : ∀ (q : Ru) (m : Ru), setPart (zab q) 0 [.raw (.int .i64 m.id), .raw (.int .i64 m.dev), .raw (.int .i64 m.prio), .raw (.int .i64 m.kind), .raw (.int .u32 m.r.lo), .raw (.int .u32 m.r.hi), .raw (.int .i64 m.port)] = zab m := fun _ _ => rfl
  refine za0 ?_
  refine PCalls.use hf ?_
  have FF := fI @zM (fI @zbj (fI @zad @hps)); refine goC ?_; clear FF
  refine zu (.inr rfl) rfl (by repeat (first | exact Ext.refl _ | refine zK ?_ | refine Ext.setF ?_ (by simp [St.set, zc]))) ?_
  simp [St.set, St.new, zM]
  exact zad _
theorem zmk {r : Ru} (h : 0 ≤ r.kind ∧ r.kind ≤ 3) (d a : Int) : zbn d a true r = zdg d a r := by
  unfold zbn zdg zd5
  rw [Bool.eq_iff_iff]
  simp
  omega
theorem zml {r : Ru} (h : 0 ≤ r.kind ∧ r.kind ≤ 3) (d a : Int) : zbn d a false r = zdh d a r := by
  unfold zbn zdh zd5
  rw [Bool.eq_iff_iff]
  simp
  omega
theorem zm6 (z : List Int) (fz : Bool) (v : Int) (hl : z.length < 2 ^ 60) : PCalls Tryz.prog 71 [zh z fz, .raw (.int .i64 v)] (.raw (.int .i64 (idxOf (fun x => decide (v = x)) z))) := by
  refine zE Tryz.func71 rfl (N := 19) rfl rfl (by simp) (by simp [noIds]) fun σ => ?_
  have FF := zh.eq_1; refine zB ?_; clear FF
  refine zO (fun n A τ => τ = σ ∧ A 0 = zh z fz ∧ A 1 = .raw (.int .i64 v) ∧ A 7 = .raw (.int .i64 z.length) ∧ ∃ i : Nat, A 8 = .raw (.int .i64 i) ∧ i ≤ z.length ∧ n = z.length - i ∧ ∀ j, j < i → ∀ y, z[j]? = some y → decide (v = y) = false) z.length ?_ ?_
  · exact ⟨rfl, by simp [zh], by simp, by simp, 0, by simp, by omega, by omega, fun j h => by omega⟩
  rintro n A τ ⟨rfl, a0, a1, a7, i, a8, hi, rfl, hn⟩ I1 hI1
  by_cases hlt : i < z.length
  · have hx : z[i]? = some z[i] := List.getElem?_eq_getElem hlt
    have w1 : IntKind.i64.wrap ((i : Int) + 1) = ((i + 1 : Nat) : Int) := by rw [zo (by omega) (by omega)]; omega
    by_cases hp : v = z[i]
    · have FF := fI zh.eq_1 (fI iAV.eq_1 (fI @a0 (fI @a1 (fI @a7 (fI @a8 (fI @hlt (fI @hx @hp))))))); refine zB ?_; clear FF
      exact (idxOf_here hx (by simpa using hp) hn).symm
    · (try ((first | with_reducible refine zs ?_ | with_reducible refine zx ?_ | with_reducible refine zy ?_); simp [zh, iAV, a0, a1, a7, a8, hlt, hx, hp])); repeat' (first | ((first | refine zm ?_ | refine zl ?_ | refine dN (by decide +kernel) ?_ | (refine zb ?_ ?_ <;> (intro hg; simp only [hg])) | fail) <;> simp [zh, iAV, a0, a1, a7, a8, hlt, hx, hp]) | refine zf ?_ | refine zg ?_ | (refine zF ?_; simp only [zG]; try simp) | ((first | refine zq (by simp) ?_ | refine zu (by simp) (by simp) (by simp (maxDischargeDepth := 30) [zh, iAV, a0, a1, a7, a8, hlt, hx, hp]) ?_ | fail); simp) | (refine zd (fun hc => ?_) (fun hc => ?_) <;> try simp at hc) | fail)
      refine hI1 (z.length - (i + 1)) _ _ (by omega) ⟨rfl, by simp [a0, zh], by simp [a1], by simp [a7], i + 1, by simp [w1], by omega, rfl, fun j hj y hy => ?_⟩
      by_cases e : j = i
      · subst e; rw [hx] at hy; injection hy with hy; subst hy; simpa using hp
      · exact hn j (by omega) y hy
  · have hi' : i = z.length := by omega
    subst hi'
    have w1 : IntKind.i64.wrap (-1) = -1 := zo (by omega) (by omega)
    have FF := fI zh.eq_1 (fI @a0 (fI @a1 (fI @a7 (fI @a8 @w1)))); refine zB ?_; clear FF
    exact (idxOf_none hn).1.symm
theorem zgj (z : List Int) (fz : Bool) (v : Int) (hl : z.length < 2 ^ 60) : PCalls Tryz.prog 39 [zh z fz, .raw (.int .i64 v)] (.raw (.bool (z.any fun x => decide (v = x)))) := by
  refine zE Tryz.func39 rfl (N := 9) rfl rfl (by simp) (by simp [noIds]) fun σ => ?_
  refine za0 ?_
  refine PCalls.use (zm6 z fz v hl) ?_
  have := idxOf_any (fun x => decide (v = x)) z
  refine za0 ?_
  simpa using this
end Go.Proofs.YtpboabpapgimoaaGreat.Av
namespace Go.Proofs.YtpboabpapgimoaaGreat.Av
set_option linter.unusedSimpArgs false
set_option linter.unusedVariables false
inductive Tr where
  | nil
  | node (l : Tr) (k v : Int) (r : Tr)
namespace Tr
def ht : Tr → Int
  | nil => 0
  | node l _ _ r => 1 + max l.ht r.ht
def sz : Tr → Int
  | nil => 0
  | node l _ _ r => 1 + l.sz + r.sz
def toL : Tr → List (Int × Int)
  | nil => []
  | node l k v r => l.toL ++ (k, v) :: r.toL
theorem ht_nn : ∀ t : Tr, 0 ≤ t.ht
  | nil => by simp [ht]
  | node l k v r => by have := ht_nn l; have := ht_nn r; simp only [ht]; omega
theorem sz_nn : ∀ t : Tr, 0 ≤ t.sz
  | nil => by simp [sz]
  | node l k v r => by have := sz_nn l; have := sz_nn r; simp only [sz]; omega
theorem ht_le : ∀ t : Tr, t.ht ≤ t.sz
  | nil => by simp [ht, sz]
  | node l k v r => by have := ht_le l; have := ht_le r; have := sz_nn l; have := sz_nn r; simp only [ht, sz]; omega
theorem sz_toL : ∀ t : Tr, t.sz = t.toL.length
  | nil => by simp [sz, toL]
  | node l k v r => by have := sz_toL l; have := sz_toL r; simp only [sz, toL, List.length_append, List.length_cons]; omega
def left : Tr → Tr
  | nil => nil
  | node l _ _ _ => l
def right : Tr → Tr
  | nil => nil
  | node _ _ _ r => r
def even (l : Tr) (k v : Int) (r : Tr) : Tr :=
  if r.ht + 1 < l.ht then
    match l with
    | nil => nil
    | node ll lk lv lr => if lr.ht ≤ ll.ht then node ll lk lv (node lr k v r) else match lr with
      | nil => nil
      | node a mk mv b => node (node ll lk lv a) mk mv (node b k v r)
  else if l.ht + 1 < r.ht then
    match r with
    | nil => nil
    | node rl rk rv rr => if rl.ht ≤ rr.ht then node (node l k v rl) rk rv rr else match rl with
      | nil => nil
      | node a mk mv b => node (node l k v a) mk mv (node b rk rv rr)
  else node l k v r
theorem zcS (l : Tr) (k v : Int) (r : Tr) : (even l k v r).toL = l.toL ++ (k, v) :: r.toL := by
  unfold even
  split
  · rename_i h
    cases l with
    | nil => have := ht_nn r; simp only [ht] at h; omega
    | node ll lk lv lr =>
      simp only []
      split
      · simp [toL]
      · rename_i h2
        cases lr with
        | nil => have := ht_nn ll; simp only [ht] at h2; omega
        | node a mk mv b => simp [toL]
  · split
    · rename_i h
      cases r with
      | nil => have := ht_nn l; simp only [ht] at h; omega
      | node rl rk rv rr =>
        simp only []
        split
        · simp [toL]
        · rename_i h2
          cases rl with
          | nil => have := ht_nn rr; simp only [ht] at h2; omega
          | node a mk mv b => simp [toL]
    · simp [toL]
theorem even_sz (l : Tr) (k v : Int) (r : Tr) : (even l k v r).sz = 1 + l.sz + r.sz := by
  rw [sz_toL, zcS, sz_toL l, sz_toL r]
  simp only [List.length_append, List.length_cons]
  omega
def with_ : Tr → Int → Int → Tr
  | nil, k, v => node nil k v nil
  | node l k' v' r, k, v => if k < k' then even (l.with_ k v) k' v' r else if k' < k then even l k' v' (r.with_ k v) else node l k v r
def get : Tr → Int → Option Int
  | nil, _ => none
  | node l k' v' r, k => if k < k' then l.get k else if k' < k then r.get k else some v'
def least : Tr → (Int × Int) × Tr
  | nil => ((0, 0), nil)
  | node nil k v r => ((k, v), r)
  | node (node a b c d) k v r => ((node a b c d).least.1, even (node a b c d).least.2 k v r)
def without : Tr → Int → Tr
  | nil, _ => nil
  | node l k' v' r, k => if k < k' then even (l.without k) k' v' r else if k' < k then even l k' v' (r.without k) else match r with
    | nil => l
    | node a b c d => even l (node a b c d).least.1.1 (node a b c d).least.1.2 (node a b c d).least.2
def under : Tr → Int → Int
  | nil, _ => 0
  | node l k' _ r, k => if k' < k then 1 + l.sz + r.under k else l.under k
def at_ : Tr → Int → Option (Int × Int)
  | nil, _ => none
  | node l k v r, i => if i < l.sz then l.at_ i else if l.sz < i then r.at_ (i - (1 + l.sz)) else some (k, v)
def join (l : Tr) (k v : Int) (r : Tr) : Tr :=
  if r.ht + 1 < l.ht then
    match l with
    | nil => nil
    | node ll lk lv lr => even ll lk lv (join lr k v r)
  else if l.ht + 1 < r.ht then
    match r with
    | nil => nil
    | node rl rk rv rr => even (join l k v rl) rk rv rr
  else node l k v r
termination_by SizeOf.sizeOf l + SizeOf.sizeOf r
def cut : Tr → Int → Tr × Tr
  | nil, _ => (nil, nil)
  | node l k v r, b => if k < b then (join l k v (r.cut b).1, (r.cut b).2) else ((l.cut b).1, join (l.cut b).2 k v r)
theorem join_toL (l : Tr) (k v : Int) (r : Tr) : (join l k v r).toL = l.toL ++ (k, v) :: r.toL := by
  fun_induction join l k v r with
  | case1 r h => have := ht_nn r; simp only [ht] at h; omega
  | case2 r ll lk lv lr h ih => rw [zcS, ih]; simp [toL]
  | case3 l h1 h => have := ht_nn l; simp only [ht] at h; omega
  | case4 l rl rk rv rr h1 h ih => rw [zcS, ih]; simp [toL]
  | case5 l r h1 h2 => simp [toL]
def Srt (l : List (Int × Int)) : Prop := l.Pairwise fun a b => a.1 < b.1
def Lt (b : Int) (l : List (Int × Int)) : Prop := ∀ e ∈ l, e.1 < b
def Gt (b : Int) (l : List (Int × Int)) : Prop := ∀ e ∈ l, b < e.1
theorem zgT {l : Tr} {k v : Int} {r : Tr} : Srt (node l k v r).toL ↔ Srt l.toL ∧ Srt r.toL ∧ Lt k l.toL ∧ Gt k r.toL := by
  simp only [Srt, toL, Lt, Gt]
  rw [List.pairwise_append, List.pairwise_cons]
  constructor
  · rintro ⟨h1, ⟨h2, h3⟩, h4⟩
    exact ⟨h1, h3, fun e he => h4 e he (k, v) (by simp), fun e he => h2 e he⟩
  · rintro ⟨h1, h2, h3, h4⟩
    refine ⟨h1, ⟨fun e he => h4 e he, h2⟩, fun a ha b hb => ?_⟩
    rcases List.mem_cons.1 hb with rfl | hb
    · exact h3 a ha
    · have := h3 a ha; have := h4 b hb; omega
def put (l : List (Int × Int)) (k v : Int) : List (Int × Int) := l.filter (fun e => decide (e.1 < k)) ++ (k, v) :: l.filter (fun e => decide (k < e.1))
theorem zbT {p : Int × Int → Bool} {l : List (Int × Int)} (h : ∀ e ∈ l, p e = true) : l.filter p = l := List.filter_eq_self.2 h
theorem zdQ {p : Int × Int → Bool} {l : List (Int × Int)} (h : ∀ e ∈ l, p e = false) : l.filter p = [] := List.filter_eq_nil_iff.2 fun e he => by simp [h e he]
theorem with_toL : ∀ (t : Tr) (k v : Int), Srt t.toL → (t.with_ k v).toL = put t.toL k v
  | nil, k, v, _ => by simp [with_, toL, put]
  | node l k' v' r, k, v, h => by
    obtain ⟨h1, h2, h3, h4⟩ := zgT.1 h
    simp only [with_]
    split
    · rename_i hk
      rw [zcS, with_toL l k v h1]
      simp only [put, toL, List.filter_append, List.filter_cons]
      have e1 : r.toL.filter (fun e => decide (e.1 < k)) = [] := zdQ fun e he => by have := h4 e he; simp; omega
      have e2 : r.toL.filter (fun e => decide (k < e.1)) = r.toL := zbT fun e he => by have := h4 e he; simp; omega
      have e3 : ¬ k' < k := by omega
      simp [e1, e2, hk, e3]
    · split
      · rename_i hk0 hk
        rw [zcS, with_toL r k v h2]
        simp only [put, toL, List.filter_append, List.filter_cons]
        have e1 : l.toL.filter (fun e => decide (k < e.1)) = [] := zdQ fun e he => by have := h3 e he; simp; omega
        have e2 : l.toL.filter (fun e => decide (e.1 < k)) = l.toL := zbT fun e he => by have := h3 e he; simp; omega
        simp [e1, e2, hk, hk0]
      · have : k = k' := by omega
        subst this
        simp only [put, toL, List.filter_append, List.filter_cons]
        have e1 : l.toL.filter (fun e => decide (k < e.1)) = [] := zdQ fun e he => by have := h3 e he; simp; omega
        have e2 : l.toL.filter (fun e => decide (e.1 < k)) = l.toL := zbT fun e he => by have := h3 e he; simp; omega
        have e3 : r.toL.filter (fun e => decide (e.1 < k)) = [] := zdQ fun e he => by have := h4 e he; simp; omega
        have e4 : r.toL.filter (fun e => decide (k < e.1)) = r.toL := zbT fun e he => by have := h4 e he; simp; omega
        simp [e1, e2, e3, e4]
theorem put_srt {l : List (Int × Int)} (h : Srt l) (k v : Int) : Srt (put l k v) := by
  unfold Srt put
  rw [List.pairwise_append, List.pairwise_cons]
  refine ⟨h.filter _, ⟨fun e he => by simpa using (List.mem_filter.1 he).2, h.filter _⟩, fun a ha b hb => ?_⟩
  have h1 := (List.mem_filter.1 ha).2
  simp only [decide_eq_true_eq] at h1
  rcases List.mem_cons.1 hb with rfl | hb
  · exact h1
  · have h2 := (List.mem_filter.1 hb).2
    simp only [decide_eq_true_eq] at h2
    omega
theorem get_eq : ∀ (t : Tr) (k : Int), Srt t.toL → t.get k = (t.toL.find? fun e => decide (e.1 = k)).map (·.2)
  | nil, k, _ => by simp [get, toL]
  | node l k' v' r, k, h => by
    obtain ⟨h1, h2, h3, h4⟩ := zgT.1 h
    simp only [get, toL, List.find?_append, List.find?_cons]
    split
    · rename_i hk
      have e1 : r.toL.find? (fun e => decide (e.1 = k)) = none := List.find?_eq_none.2 fun e he => by have := h4 e he; simp; omega
      have e2 : decide (k' = k) = false := by simp; omega
      rw [get_eq l k h1, e1, e2]; simp
    · split
      · rename_i hk0 hk
        have e1 : l.toL.find? (fun e => decide (e.1 = k)) = none := List.find?_eq_none.2 fun e he => by have := h3 e he; simp; omega
        have e2 : decide (k' = k) = false := by simp; omega
        rw [get_eq r k h2, e1, e2]; simp
      · have : k' = k := by omega
        subst this
        have e1 : l.toL.find? (fun e => decide (e.1 = k')) = none := List.find?_eq_none.2 fun e he => by have := h3 e he; simp; omega
        rw [e1]; simp
theorem get_none {t : Tr} (h : Srt t.toL) (k : Int) : t.get k = none ↔ k ∉ t.toL.map (·.1) := by
  rw [get_eq t k h]
  simp only [Option.map_eq_none_iff, List.find?_eq_none, decide_eq_true_eq, List.mem_map, not_exists, not_and]
theorem get_with {t : Tr} (h : Srt t.toL) (k v k2 : Int) : (t.with_ k v).get k2 = if k2 = k then some v else t.get k2 := by
  have hs : Srt (t.with_ k v).toL := by rw [with_toL t k v h]; exact put_srt h k v
  rw [get_eq _ _ hs, with_toL t k v h, get_eq _ _ h]
  simp only [put, List.find?_append, List.find?_cons]
  by_cases e : k2 = k
  · subst e
    have e1 : (t.toL.filter fun e => decide (e.1 < k2)).find? (fun e => decide (e.1 = k2)) = none := List.find?_eq_none.2 fun e he => by have := (List.mem_filter.1 he).2; simp at this ⊢; omega
    rw [e1]; simp
  · rw [if_neg e]
    have e2 : decide (k = k2) = false := by simp; omega
    rw [e2]
    simp only [Bool.false_eq_true, if_false, List.find?_filter]
    congr 1
    have : ∀ l : List (Int × Int), Srt l → (l.find? fun a => decide (a.1 < k) && decide (a.1 = k2)).or (l.find? fun a => decide (k < a.1) && decide (a.1 = k2)) = l.find? fun a => decide (a.1 = k2) := by
      intro l hl
      induction l with
      | nil => rfl
      | cons a l ih =>
        have hl' := List.pairwise_cons.1 hl
        simp only [List.find?_cons]
        by_cases q : a.1 = k2
        · by_cases q2 : a.1 < k
          · simp [q, q2]; rw [q] at q2; simp [q2]
          · have q3 : k < a.1 := by omega
            have q4 : l.find? (fun a => decide (a.1 < k) && decide (a.1 = k2)) = none := List.find?_eq_none.2 fun e he => by have := hl'.1 e he; simp; omega
            rw [q4]
            simp [q, q2]
            rw [q] at q2 q3; simp [q2, q3]
        · simp [q]; exact ih hl'.2
    simp only [Bool.decide_and, Bool.decide_eq_true]
    exact this _ h
theorem at_eq : ∀ (t : Tr) (i : Int), 0 ≤ i → t.at_ i = t.toL[i.toNat]?
  | nil, i, _ => by simp [at_, toL]
  | node l k v r, i, hi => by
    simp only [at_, toL]
    have hz := sz_toL l
    split
    · rename_i h
      rw [at_eq l i hi, List.getElem?_append_left (by omega)]
    · split
      · rename_i h0 h
        rw [at_eq r _ (by omega), List.getElem?_append_right (by omega)]
        have : i.toNat - l.toL.length = (i - (1 + l.sz)).toNat + 1 := by omega
        rw [this, List.getElem?_cons_succ]
      · have : i.toNat = l.toL.length := by omega
        rw [this, List.getElem?_append_right (by omega)]
        simp
theorem zkh : ∀ (t : Tr) (b : Int), Srt t.toL → (t.cut b).1.toL = t.toL.filter (fun e => decide (e.1 < b)) ∧ (t.cut b).2.toL = t.toL.filter (fun e => decide (b ≤ e.1))
  | nil, b, _ => by simp [cut, toL]
  | node l k v r, b, h => by
    obtain ⟨h1, h2, h3, h4⟩ := zgT.1 h
    simp only [cut, toL, List.filter_append, List.filter_cons]
    split
    · rename_i hk
      obtain ⟨i1, i2⟩ := zkh r b h2
      simp only [join_toL, i1, i2]
      have e1 : l.toL.filter (fun e => decide (e.1 < b)) = l.toL := zbT fun e he => by have := h3 e he; simp; omega
      have e2 : l.toL.filter (fun e => decide (b ≤ e.1)) = [] := zdQ fun e he => by have := h3 e he; simp; omega
      have e3 : ¬ b ≤ k := by omega
      simp [e1, e2, e3, hk]
    · rename_i hk
      obtain ⟨i1, i2⟩ := zkh l b h1
      simp only [join_toL, i1, i2]
      have e1 : r.toL.filter (fun e => decide (b ≤ e.1)) = r.toL := zbT fun e he => by have := h4 e he; simp; omega
      have e2 : r.toL.filter (fun e => decide (e.1 < b)) = [] := zdQ fun e he => by have := h4 e he; simp; omega
      have e3 : b ≤ k := by omega
      simp [e1, e2, e3, hk]
theorem cut_len (t : Tr) (b : Int) (h : Srt t.toL) : (t.cut b).1.sz = (t.toL.countP fun e => decide (e.1 < b) : Nat) := by
  rw [sz_toL, (zkh t b h).1, List.countP_eq_length_filter]
theorem least_toL : ∀ (t : Tr), t ≠ nil → t.toL = t.least.1 :: t.least.2.toL
  | nil, h => absurd rfl h
  | node nil k v r, _ => by simp [least, toL]
  | node (node a b c d) k v r, _ => by
    have := least_toL (node a b c d) (by simp)
    simp only [least, zcS]
    rw [toL, this]; simp
theorem without_toL : ∀ (t : Tr) (k : Int), Srt t.toL → (t.without k).toL = t.toL.filter fun e => !decide (e.1 = k)
  | nil, k, _ => by simp [without, toL]
  | node l k' v' r, k, h => by
    obtain ⟨h1, h2, h3, h4⟩ := zgT.1 h
    simp only [without]
    split
    · rename_i hk
      rw [zcS, without_toL l k h1]
      simp only [toL, List.filter_append, List.filter_cons]
      have e1 : r.toL.filter (fun e => !decide (e.1 = k)) = r.toL := zbT fun e he => by have := h4 e he; simp; omega
      have e2 : ¬ k' = k := by omega
      simp [e1, e2]
    · split
      · rename_i hk0 hk
        rw [zcS, without_toL r k h2]
        simp only [toL, List.filter_append, List.filter_cons]
        have e1 : l.toL.filter (fun e => !decide (e.1 = k)) = l.toL := zbT fun e he => by have := h3 e he; simp; omega
        have e2 : ¬ k' = k := by omega
        simp [e1, e2]
      · have : k' = k := by omega
        subst this
        have e1 : l.toL.filter (fun e => !decide (e.1 = k')) = l.toL := zbT fun e he => by have := h3 e he; simp; omega
        have e2 : r.toL.filter (fun e => !decide (e.1 = k')) = r.toL := zbT fun e he => by have := h4 e he; simp; omega
        cases r with
        | nil =>
          simp only [toL, List.filter_append, List.filter_cons]
          simp [e1]
        | node a b c d =>
          simp only [zcS]
          have h5 := least_toL (node a b c d) (by simp)
          rw [toL, List.filter_append, List.filter_cons, e1, e2]
          simp only [decide_true, Bool.not_true, Bool.false_eq_true, if_false]
          rw [h5]
end Tr
end Go.Proofs.YtpboabpapgimoaaGreat.Av
namespace Go.Proofs.YtpboabpapgimoaaGreat.Av
open Go
set_option linter.unusedSimpArgs false
set_option linter.unusedVariables false
set_option maxRecDepth 100000
set_option maxHeartbeats 2000000
set_option pp.maxSteps 300
def zff (l : List Ru) (d a : Int) : Bool := l.any (zdg d a) && decide ((zbq (l.filter (zdg d a))).kind = 3)
theorem zmm (l : List Ru) (f : Bool) (d a : Int) (hl : l.length < 2932031007403) : PCalls Tryz.prog 104 [zz l f, .raw (.int .i64 d), .raw (.int .u32 a)] (.raw (.bool (zff l d a))) := by
  have hf := zir (g := 117) (caps := [.pp [.raw (.int .i64 d)] 0, .pp [.raw (.int .u32 a)] 0]) l f hl (fun r _ => znY r d a)
  obtain ⟨b, hb⟩ : ∃ b, l.any (zdg d a) = b := ⟨_, rfl⟩
  obtain ⟨m, hmm⟩ : ∃ m, zbq (l.filter (zdg d a)) = m := ⟨_, rfl⟩
  unfold zff
  rw [hb, hmm] at hf ⊢
  refine zE Tryz.func104 rfl (N := 21) rfl rfl (by simp) (by simp [noIds]) fun σ => ?_
  repeat (refine zf ?_)
  refine zl ?_
  simp
  refine z8 ⟨4, σ.nx 4, 1⟩ ?_
  refine z8 ⟨5, σ.nx 5, 1⟩ ?_
  generalize hτ : St.del _ _ = τ
  generalize hA : (fun t => zr _ _ _) = A
  have a0 : A 0 = zz l f := by rw [← hA]; simp [zz]
  have a4 : A 4 = .pp [.raw (.int .i64 d)] 0 := by rw [← hA, ← hτ]; simp [zr, St.new, St.del]
  have a5 : A 5 = .pp [.raw (.int .u32 a)] 0 := by rw [← hA, ← hτ]; simp [zr, St.new, St.del]
  have hE : Ext σ τ := by
    rw [← hτ]
    refine ⟨fun i o h => ?_, fun s => ?_⟩
    · rw [zU (fun e => by rw [e, zc] at h; cases h), zU (fun e => by rw [e, zc] at h; cases h)]
      exact zaz _ _ (zaz _ _ h)
    · exact Nat.le_trans (St.new_le σ 4 1 (.buf [.raw (.int .i64 d)]) s) (St.new_le (σ.new 4 1 (.buf [.raw (.int .i64 d)])) 5 1 (.buf [.raw (.int .u32 a)]) s)
  clear hτ hA
  have FF := fI @a0 (fI @a4 @a5); refine zB ?_; clear FF
  refine PCalls.use hf ?_
  have FF := fI @a0 (fI @a4 (fI @a5 (fI @zM (fI @zbj @hE)))); exact goA
def zea (l : List Ru) (d a : Int) : Ru := zbq (l.filter (zdh d a))
def zgk (l : List Ru) (d a : Int) : Bool := l.any (zdh d a)
theorem zm7 (l : List Ru) (f : Bool) (d a : Int) (hl : l.length < 2932031007403) : PCalls Tryz.prog 105 [zz l f, .raw (.int .i64 d), .raw (.int .u32 a)] (.tup [zab (zea l d a), .raw (.bool (zgk l d a))]) := by
  have hf := zir (g := 119) (caps := [.pp [.raw (.int .i64 d)] 0, .pp [.raw (.int .u32 a)] 0]) l f hl (fun r _ => znZ r d a)
  unfold zea zgk
  obtain ⟨b, hb⟩ : ∃ b, l.any (zdh d a) = b := ⟨_, rfl⟩
  obtain ⟨m, hmm⟩ : ∃ m, zbq (l.filter (zdh d a)) = m := ⟨_, rfl⟩
  rw [hb, hmm] at hf ⊢
  refine zE Tryz.func105 rfl (N := 13) rfl rfl (by simp) (by simp [noIds, zab]) fun σ => ?_
  repeat (refine zf ?_)
  refine zl ?_
  simp
  refine z8 ⟨4, σ.nx 4, 1⟩ ?_
  refine z8 ⟨5, σ.nx 5, 1⟩ ?_
  generalize hτ : St.del _ _ = τ
  generalize hA : (fun t => zr _ _ _) = A
  have a0 : A 0 = zz l f := by rw [← hA]; simp [zz]
  have a4 : A 4 = .pp [.raw (.int .i64 d)] 0 := by rw [← hA, ← hτ]; simp [zr, St.new, St.del]
  have a5 : A 5 = .pp [.raw (.int .u32 a)] 0 := by rw [← hA, ← hτ]; simp [zr, St.new, St.del]
  have a6 : A 6 = .rp ⟨6, σ.nx 6, 7⟩ 0 0 := by rw [← hA, ← hτ]; simp [zr, St.new, St.del]
  have m6 : τ.m ⟨6, σ.nx 6, 7⟩ = some (.buf [zab ⟨0, 0, 0, 0, ⟨0, 0⟩, 0⟩]) := by rw [← hτ]; simp [St.new, St.del, zab]
  have hE : Ext σ τ := by
    rw [← hτ]
    refine ⟨fun i o h => ?_, fun s => ?_⟩
    · rw [zU (fun e => by rw [e, zc] at h; cases h), zU (fun e => by rw [e, zc] at h; cases h)]
      exact zaz _ _ (zaz _ _ (zaz _ _ h))
    · exact Nat.le_trans (Nat.le_trans (St.new_le σ 4 1 (.buf [.raw (.int .i64 d)]) s) (St.new_le (σ.new 4 1 (.buf [.raw (.int .i64 d)])) 5 1 (.buf [.raw (.int .u32 a)]) s)) (St.new_le ((σ.new 4 1 (.buf [.raw (.int .i64 d)])).new 5 1 (.buf [.raw (.int .u32 a)])) 6 7 (.buf [zab ⟨0, 0, 0, 0, ⟨0, 0⟩, 0⟩]) s)
  clear hτ hA
  have f6 : σ.m ⟨6, σ.nx 6, 7⟩ = none := zc _ _ _
  have FF := fI @a0 (fI @a4 (fI @a5 (fI @a6 @m6))); refine zB ?_; clear FF
  refine PCalls.use hf ?_
  have FF := fI @a0 (fI @a4 (fI @a5 (fI @a6 (fI @m6 (fI @zM @zcK))))); refine goC ?_; clear FF
  exact zu (.inr rfl) rfl (hE.setF f6) (by simp [a6, m6, St.set, zM]; exact zad _)
def zdR (last : Int) : List Ru → Bool
  | [] => true
  | r :: l => zd7 r && decide (last < r.id) && zdR r.id l
def zeV (l : List Ru) : Bool := zdR 0 l && decide (l.length ≤ 40)
end Go.Proofs.YtpboabpapgimoaaGreat.Av
namespace Go.Proofs.YtpboabpapgimoaaGreat.Av
open Go
set_option linter.unusedSimpArgs false
set_option linter.unusedVariables false
set_option maxRecDepth 100000
set_option maxHeartbeats 2000000
set_option pp.maxSteps 300
def zap (n : Nw) (d a : Int) : Int × Pt :=
  if zff n.rules d a = true then (2, ⟨0, 0⟩) else if zgk n.rules d a = false then (0, ⟨0, 0⟩) else if (zea n.rules d a).kind = 1 then (1, ⟨0, 0⟩)
  else if (zbS n.t ⟨d, (zea n.rules d a).port⟩).isSome = true then (4, ⟨d, (zea n.rules d a).port⟩) else (3, ⟨d, (zea n.rules d a).port⟩)
theorem ze (n : Nw) (f : Fl) : (zR n f).cells = [zh n.t.ports f.p, zC n.t.links f.l, zz n.rules f.r] := rfl
theorem zn0 (n : Nw) (f : Fl) (d a : Int) (hl : n.t.links.length < 2 ^ 42) (hl2 : n.rules.length < 2932031007403) :
    PCalls Tryz.prog 79 [zR n f, .raw (.int .i64 d), .raw (.int .u32 a)] (.tup [.raw (.int .i64 (zap n d a).1), zS (zap n d a).2]) := by
  have hd := zmm n.rules f.r d a hl2
  have hm := zm7 n.rules f.r d a hl2
  have hn := fun p => zjy n.t f p hl
  unfold zap
  obtain ⟨b1, h1⟩ : ∃ b, zff n.rules d a = b := ⟨_, rfl⟩
  obtain ⟨b2, h2⟩ : ∃ b, zgk n.rules d a = b := ⟨_, rfl⟩
  obtain ⟨r, hr⟩ : ∃ r, zea n.rules d a = r := ⟨_, rfl⟩
  rw [h1] at hd
  rw [h2, hr] at hm
  rw [h1, h2, hr]
  clear h1 h2 hr
  have hn := hn ⟨d, r.port⟩
  obtain ⟨b3, h3⟩ : ∃ b, (zbS n.t ⟨d, r.port⟩).isSome = b := ⟨_, rfl⟩
  obtain ⟨q, hq⟩ : ∃ q, (zbS n.t ⟨d, r.port⟩).getD ⟨0, 0⟩ = q := ⟨_, rfl⟩
  rw [h3, hq] at hn
  rw [h3]
  refine zE Tryz.func79 rfl (N := 50) rfl rfl (by simp) (by simp [noIds, zS]) fun σ => ?_
  have ho1 : cellOK (zh n.t.ports f.p) = true := rfl
  have ho2 : cellOK (zC n.t.links f.l) = true := rfl
  have ho3 : cellOK (zz n.rules f.r) = true := rfl
  simp only [cellOK] at ho1 ho2 ho3
  have hpf : ∀ x y : Int, AV.agg [.raw (.int .i64 x), .raw (.int .i64 y)] = zS ⟨x, y⟩ := fun _ _ => rfl
  have hpc : ∀ q : Pt, (zS q).cells = [.raw (.int .i64 q.dev), .raw (.int .i64 q.port)] := fun q => rfl
  have hps : ∀ (q : Pt) (x y : Int), setPart (zS q) 0 [.raw (.int .i64 x), .raw (.int .i64 y)] = zS ⟨x, y⟩ := fun _ _ _ => rfl
  have f7 : σ.m ⟨7, σ.nx 7, 2⟩ = none := zc _ _ _
  have hnf : AV.agg [zh n.t.ports f.p, zC n.t.links f.l] = zbJ n.t f := rfl
  have FF := fI @ze (fI @ho1 (fI @ho2 (fI @ho3 (fI @hpf (fI @hpc @hps))))); refine zB ?_; clear FF
  refine PCalls.use hd ?_
  cases b1 with
  | true =>
    have FF := fI @ze (fI @ho1 (fI @ho2 (fI @ho3 (fI @hpf (fI @hpc @hps))))); refine goC ?_; clear FF
    refine zu (.inr rfl) rfl (by repeat (first | exact Ext.refl _ | refine zK ?_ | refine Ext.setF ?_ (by simp [za, St.set, zc]))) ?_
    simp [St.set, St.new, hpc, hpf, hps]
  | false =>
    have FF := fI @ze (fI @ho1 (fI @ho2 (fI @ho3 (fI @hpf (fI @hpc @hps))))); refine zB ?_; clear FF
    refine PCalls.use hm ?_
    cases b2 with
    | false =>
      have FF := fI @ze (fI @ho1 (fI @ho2 (fI @ho3 (fI @hpf (fI @hpc (fI @hps (fI @zM (fI @zbj @zad)))))))); refine goC ?_; clear FF
      refine zu (.inr rfl) rfl (by repeat (first | exact Ext.refl _ | refine zK ?_ | refine Ext.setF ?_ (by simp [za, St.set, zc]))) ?_
      simp [St.set, St.new, hpc, hpf, hps]
    | true =>
      by_cases hk : r.kind = 1
      · have FF := fI @ze (fI @ho1 (fI @ho2 (fI @ho3 (fI @hpf (fI @hpc (fI @hps (fI @zM (fI @zbj (fI @zad @hk))))))))); refine goC ?_; clear FF
        refine zu (.inr rfl) rfl (by repeat (first | exact Ext.refl _ | refine zK ?_ | refine Ext.setF ?_ (by simp [za, St.set, zc]))) ?_
        simp [St.set, St.new, hpc, hpf, hps, hk]
      · have FF := fI @ze (fI @ho1 (fI @ho2 (fI @ho3 (fI @hpf (fI @hpc (fI @hps (fI @zM (fI @zbj (fI @zad (fI @hk (fI @hnf (fI @zt (fI @zD @za))))))))))))); refine zB ?_; clear FF
        refine PCalls.use hn ?_
        cases b3 with
        | true =>
          have FF := fI @ze (fI @ho1 (fI @ho2 (fI @ho3 (fI @hpf (fI @hpc (fI @hps (fI @zM (fI @zbj (fI @zad (fI @hk (fI @hnf (fI @zt (fI @zD @za))))))))))))); refine goC ?_; clear FF
          refine zu (.inr rfl) rfl (by repeat (first | exact Ext.refl _ | refine zK ?_ | refine Ext.setF ?_ (by simp [za, St.set, zc]))) ?_
          simp [St.set, St.new, hpc, hpf, hps, hk]
        | false =>
          have FF := fI @ze (fI @ho1 (fI @ho2 (fI @ho3 (fI @hpf (fI @hpc (fI @hps (fI @zM (fI @zbj (fI @zad (fI @hk (fI @hnf (fI @zt (fI @zD @za))))))))))))); refine goC ?_; clear FF
          refine zu (.inr rfl) rfl (by repeat (first | exact Ext.refl _ | refine zK ?_ | refine Ext.setF ?_ (by simp [za, St.set, zc]))) ?_
          simp [St.set, St.new, hpc, hpf, hps, hk]
end Go.Proofs.YtpboabpapgimoaaGreat.Av
namespace Go.Proofs.YtpboabpapgimoaaGreat.Av
open Go
set_option linter.unusedSimpArgs false
set_option linter.unusedVariables false
set_option maxRecDepth 100000
set_option maxHeartbeats 2000000
set_option pp.maxSteps 600
def Tr.av : Tr → AV
  | .nil => .raw (.pointer none)
  | .node l k v r => .pp [.raw (.int .u64 k), .raw (.int .i64 v), l.av, r.av, .raw (.int .i64 (Tr.node l k v r).ht), .raw (.int .i64 (Tr.node l k v r).sz)] 0
def zdK (k v : Int) : AV := .agg [.raw (.int .u64 k), .raw (.int .i64 v)]
@[simp] theorem zro : Tr.nil.av = .raw (.pointer none) := rfl
theorem zbg (l : Tr) (k v : Int) (r : Tr) : (Tr.node l k v r).av = .pp [.raw (.int .u64 k), .raw (.int .i64 v), l.av, r.av, .raw (.int .i64 (Tr.node l k v r).ht), .raw (.int .i64 (Tr.node l k v r).sz)] 0 := rfl
@[simp] theorem zoU (K : Id → Prop) : ∀ t : Tr, t.av.ids K
  | .nil => by simp [Tr.av, AV.ids]
  | .node l k v r => by simp only [Tr.av, AV.ids, z7, zoU K l, zoU K r, and_self]
@[simp] theorem zuh (t : Tr) : t.av.cells = [t.av] := by cases t <;> rfl
@[simp] theorem zui (t : Tr) : cellOK t.av = true := by cases t <;> rfl
theorem zn1 (t : Tr) (off : Nat) (x : AV) : setPart t.av off [x] = x := by cases t <;> rfl
theorem zbU (t : Tr) : PCalls Tryz.prog 130 [t.av] (.raw (.int .i64 t.ht)) := by
  refine zE Tryz.func130 rfl (N := 9) rfl rfl (by simp) (by simp [noIds]) fun σ => ?_
  cases t with
  | nil => (try ((first | with_reducible refine zs ?_ | with_reducible refine zx ?_ | with_reducible refine zy ?_); simp [-cellOK, Tr.ht])); repeat' (first | ((first | refine zm ?_ | refine zl ?_ | refine dN (by decide +kernel) ?_ | refine dC (by decide +kernel) ?_ | (refine zb ?_ ?_ <;> (intro hg; simp only [hg])) | fail) <;> simp [-cellOK, Tr.ht]) | refine zf ?_ | refine zg ?_ | (refine zF ?_; simp only [zG]; try simp) | (refine zq (by simp) ?_; simp) | (refine zam (by simp) (by simp [noIds]) (by repeat (first | assumption | exact Ext.refl _ | refine zK ?_ | refine Ext.setF ?_ (by first | assumption | (simp [za, St.set, zc]; done) | exact zI (by assumption)))) ?_; simp [-cellOK, Tr.ht, nsE]) | (refine zd (fun hc => ?_) (fun hc => ?_) <;> try simp at hc) | fail)
  | node l k v r =>
    obtain ⟨h, hh⟩ : ∃ h, (Tr.node l k v r).ht = h := ⟨_, rfl⟩
    rw [hh]
    have FF := fI @zbg @hh; exact gxA
theorem zds (t : Tr) : PCalls Tryz.prog 103 [t.av] (.raw (.int .i64 t.sz)) := by
  refine zE Tryz.func103 rfl (N := 9) rfl rfl (by simp) (by simp [noIds]) fun σ => ?_
  cases t with
  | nil => (try ((first | with_reducible refine zs ?_ | with_reducible refine zx ?_ | with_reducible refine zy ?_); simp [-cellOK, Tr.sz])); repeat' (first | ((first | refine zm ?_ | refine zl ?_ | refine dN (by decide +kernel) ?_ | refine dC (by decide +kernel) ?_ | (refine zb ?_ ?_ <;> (intro hg; simp only [hg])) | fail) <;> simp [-cellOK, Tr.sz]) | refine zf ?_ | refine zg ?_ | (refine zF ?_; simp only [zG]; try simp) | (refine zq (by simp) ?_; simp) | (refine zam (by simp) (by simp [noIds]) (by repeat (first | assumption | exact Ext.refl _ | refine zK ?_ | refine Ext.setF ?_ (by first | assumption | (simp [za, St.set, zc]; done) | exact zI (by assumption)))) ?_; simp [-cellOK, Tr.sz, nsE]) | (refine zd (fun hc => ?_) (fun hc => ?_) <;> try simp at hc) | fail)
  | node l k v r =>
    obtain ⟨h, hh⟩ : ∃ h, (Tr.node l k v r).sz = h := ⟨_, rfl⟩
    rw [hh]
    have FF := fI @zbg @hh; exact gxA
@[simp] theorem zaj (k v : Int) : (zdK k v).cells = [.raw (.int .u64 k), .raw (.int .i64 v)] := rfl
@[simp] theorem zw0 (K : Id → Prop) (k v : Int) : (zdK k v).ids K := by simp [zdK]
theorem zeo {α : Type} {K : Id → Prop} {f : α → AV} (h : ∀ x, (f x).ids K) : ∀ l : List α, z7 K (l.map f)
  | [] => by simp
  | a :: l => by simp only [List.map_cons, z7]; exact ⟨h a, zeo h l⟩
@[simp] theorem zs6 (K : Id → Prop) (n : Int) : (iAV n).ids K := by simp [iAV]
@[simp] theorem zrp (K : Id → Prop) (p : Lk) : (ziI p).ids K := by simp [ziI]
@[simp] theorem zrq (K : Id → Prop) (p : Rg) : (zp p).ids K := by simp [zp]
@[simp] theorem zrr (K : Id → Prop) (p : Ru) : (zab p).ids K := by simp [zab]
@[simp] theorem zuj (K : Id → Prop) (l : List Int) (f : Bool) : (zh l f).ids K := by simp only [zh, AV.ids]; exact zeo (zs6 K) l
@[simp] theorem ztz (K : Id → Prop) (l : List Lk) (f : Bool) : (zC l f).ids K := by simp only [zC, AV.ids]; exact zeo (zrp K) l
@[simp] theorem ztA (K : Id → Prop) (l : List Ru) (f : Bool) : (zz l f).ids K := by simp only [zz, AV.ids]; exact zeo (zrr K) l
@[simp] theorem zw1 (K : Id → Prop) (n : Nw) (f : Fl) : (zR n f).ids K := by simp [zR]
@[simp] theorem zu9 (l : List Int) (f : Bool) : cellOK (zh l f) = true := rfl
@[simp] theorem zuk (l : List Lk) (f : Bool) : cellOK (zC l f) = true := rfl
@[simp] theorem zul (l : List Ru) (f : Bool) : cellOK (zz l f) = true := rfl
theorem zao (k v : Int) : AV.agg [.raw (.int .u64 k), .raw (.int .i64 v)] = zdK k v := rfl
theorem zbY (k v : Int) : Av.setPart (zdK 0 0) 0 [.raw (.int .u64 k), .raw (.int .i64 v)] = zdK k v := rfl
theorem zbk (l : Tr) (k v : Int) (r : Tr) (h : l.sz + r.sz < 2 ^ 60) : PCalls Tryz.prog 112 [l.av, zdK k v, r.av] (Tr.node l k v r).av := by
  have z1 := l.ht_nn
  have z2 := r.ht_nn
  have z3 := l.sz_nn
  have z4 := r.sz_nn
  have z5 := l.ht_le
  have z6 := r.ht_le
  have e1 : IntKind.i64.wrap (1 + (if l.ht < r.ht then r.ht else l.ht)) = (Tr.node l k v r).ht := by
    rw [zo (by split <;> omega) (by split <;> omega)]; simp only [Tr.ht]; split <;> omega
  have e2 : IntKind.i64.wrap (1 + l.sz) = 1 + l.sz := zo (by omega) (by omega)
  have e3 : IntKind.i64.wrap (1 + l.sz + r.sz) = (Tr.node l k v r).sz := by
    rw [zo (by omega) (by omega)]; rfl
  obtain ⟨H, hH⟩ : ∃ h, (Tr.node l k v r).ht = h := ⟨_, rfl⟩
  obtain ⟨Z, hZ⟩ : ∃ h, (Tr.node l k v r).sz = h := ⟨_, rfl⟩
  have hh1 := zbU l
  have hh2 := zbU r
  have hs1 := zds l
  have hs2 := zds r
  rw [zbg, hH, hZ]
  rw [hH] at e1
  rw [hZ] at e3
  refine zE Tryz.func112 rfl (N := 24) rfl rfl (by simp) (by simp [noIds]) fun σ => ?_
  have FF := fI @zaj (fI @zao (fI @zn1 (fI @e1 (fI @e2 @e3)))); refine gxC ?_; clear FF
  refine zbG (x := .rp ⟨23, σ.nx 23, 6⟩ 0 0) (.inr rfl) exA ?_ ?_
  · simp [za]
  · simp [z0, zr, zc, zt, za]
end Go.Proofs.YtpboabpapgimoaaGreat.Av
namespace Go.Proofs.YtpboabpapgimoaaGreat.Av
open Go
set_option linter.unusedSimpArgs false
set_option linter.unusedVariables false
set_option maxRecDepth 100000
set_option maxHeartbeats 4000000
set_option pp.maxSteps 600
theorem zcv (l : Tr) (k v : Int) (r : Tr) (h : l.sz + r.sz < 2 ^ 50) : PCalls Tryz.prog 113 [l.av, zdK k v, r.av] (Tr.even l k v r).av := by
  have z1 := l.ht_nn
  have z2 := r.ht_nn
  have z3 := l.sz_nn
  have z4 := r.sz_nn
  have z5 := l.ht_le
  have z6 := r.ht_le
  have w1 : IntKind.i64.wrap (r.ht + 1) = r.ht + 1 := zo (by omega) (by omega)
  have w2 : IntKind.i64.wrap (l.ht + 1) = l.ht + 1 := zo (by omega) (by omega)
  have hl := zbU l
  have hr := zbU r
  by_cases h1 : r.ht + 1 < l.ht
  · cases l with
    | nil => simp only [Tr.ht] at h1; omega
    | node ll lk lv lr =>
      have y1 := ll.sz_nn
      have y2 := lr.sz_nn
      have y3 := ll.ht_nn
      have y4 := lr.ht_nn
      have hz : (Tr.node ll lk lv lr).sz = 1 + ll.sz + lr.sz := rfl
      have g1 := zbU ll
      have g2 := zbU lr
      rw [zbg] at hl ⊢
      obtain ⟨H, hH⟩ : ∃ H, (Tr.node ll lk lv lr).ht = H := ⟨_, rfl⟩
      obtain ⟨Z, hZ⟩ : ∃ Z, (Tr.node ll lk lv lr).sz = Z := ⟨_, rfl⟩
      by_cases h2 : lr.ht ≤ ll.ht
      · have m1 := zbk lr k v r (by omega)
        have m2 := zbk ll lk lv (.node lr k v r) (by simp only [Tr.sz]; omega)
        have e : Tr.even (.node ll lk lv lr) k v r = .node ll lk lv (.node lr k v r) := by simp only [Tr.even, if_pos h1, if_pos h2]
        rw [e]
        rw [hH] at h1 hl w2 ⊢
        rw [hZ] at hl
        refine zE Tryz.func113 rfl (N := 139) rfl rfl (by simp) (by simp [noIds]) fun σ => ?_
        rw [hZ]
        generalize Tr.node ll lk lv (.node lr k v r) = T at m2 ⊢
        generalize Tr.node lr k v r = U at m1 m2
        have FF := fI @zaj (fI @zao (fI @h1 (fI @h2 (fI @w1 @w2)))); exact gxA
      · cases lr with
        | nil => simp only [Tr.ht] at h2; omega
        | node a mk mv b =>
          have x1 := a.sz_nn
          have x2 := b.sz_nn
          have hz2 : (Tr.node a mk mv b).sz = 1 + a.sz + b.sz := rfl
          have m1 := zbk ll lk lv a (by omega)
          have m2 := zbk b k v r (by omega)
          have m3 := zbk (.node ll lk lv a) mk mv (.node b k v r) (by simp only [Tr.sz]; omega)
          have e : Tr.even (.node ll lk lv (.node a mk mv b)) k v r = .node (.node ll lk lv a) mk mv (.node b k v r) := by simp only [Tr.even, if_pos h1, if_neg h2]
          rw [e]
          have hm := zbg a mk mv b
          obtain ⟨H2, hH2⟩ : ∃ H, (Tr.node a mk mv b).ht = H := ⟨_, rfl⟩
          obtain ⟨Z2, hZ2⟩ : ∃ Z, (Tr.node a mk mv b).sz = Z := ⟨_, rfl⟩
          rw [hH, hZ] at hl ⊢
          rw [hH] at h1 w2
          rw [hH2] at h2
          rw [hH2, hZ2] at hm
          rw [hH2, hm] at g2
          rw [hm] at hl ⊢
          refine zE Tryz.func113 rfl (N := 139) rfl rfl (by simp) (by simp [noIds]) fun σ => ?_
          generalize Tr.node (.node ll lk lv a) mk mv (.node b k v r) = T at m3 ⊢
          generalize Tr.node ll lk lv a = U at m1 m3
          generalize Tr.node b k v r = V at m2 m3
          have FF := fI @zaj (fI @zao (fI @h1 (fI @h2 (fI @w1 @w2)))); exact gxA
  · by_cases h3 : l.ht + 1 < r.ht
    · cases r with
      | nil => simp only [Tr.ht] at h3; omega
      | node rl rk rv rr =>
        have y1 := rl.sz_nn
        have y2 := rr.sz_nn
        have y3 := rl.ht_nn
        have y4 := rr.ht_nn
        have hz : (Tr.node rl rk rv rr).sz = 1 + rl.sz + rr.sz := rfl
        have g1 := zbU rl
        have g2 := zbU rr
        rw [zbg] at hr ⊢
        obtain ⟨H, hH⟩ : ∃ H, (Tr.node rl rk rv rr).ht = H := ⟨_, rfl⟩
        obtain ⟨Z, hZ⟩ : ∃ Z, (Tr.node rl rk rv rr).sz = Z := ⟨_, rfl⟩
        by_cases h2 : rl.ht ≤ rr.ht
        · have m1 := zbk l k v rl (by omega)
          have m2 := zbk (.node l k v rl) rk rv rr (by simp only [Tr.sz]; omega)
          have e : Tr.even l k v (.node rl rk rv rr) = .node (.node l k v rl) rk rv rr := by simp only [Tr.even, if_neg h1, if_pos h3, if_pos h2]
          rw [e]
          rw [hH] at h1 h3 w1
          rw [hH, hZ] at hr ⊢
          refine zE Tryz.func113 rfl (N := 139) rfl rfl (by simp) (by simp [noIds]) fun σ => ?_
          generalize Tr.node (.node l k v rl) rk rv rr = T at m2 ⊢
          generalize Tr.node l k v rl = U at m1 m2
          have FF := fI @zaj (fI @zao (fI @h1 (fI @h2 (fI @h3 (fI @w1 @w2))))); exact gxA
        · cases rl with
          | nil => simp only [Tr.ht] at h2; omega
          | node a mk mv b =>
            have x1 := a.sz_nn
            have x2 := b.sz_nn
            have hz2 : (Tr.node a mk mv b).sz = 1 + a.sz + b.sz := rfl
            have m1 := zbk l k v a (by omega)
            have m2 := zbk b rk rv rr (by omega)
            have m3 := zbk (.node l k v a) mk mv (.node b rk rv rr) (by simp only [Tr.sz]; omega)
            have e : Tr.even l k v (.node (.node a mk mv b) rk rv rr) = .node (.node l k v a) mk mv (.node b rk rv rr) := by simp only [Tr.even, if_neg h1, if_pos h3, if_neg h2]
            rw [e]
            have hm := zbg a mk mv b
            obtain ⟨H2, hH2⟩ : ∃ H, (Tr.node a mk mv b).ht = H := ⟨_, rfl⟩
            obtain ⟨Z2, hZ2⟩ : ∃ Z, (Tr.node a mk mv b).sz = Z := ⟨_, rfl⟩
            rw [hH, hZ] at hr ⊢
            rw [hH] at h1 h3 w1
            rw [hH2] at h2
            rw [hH2, hZ2] at hm
            rw [hH2, hm] at g1
            rw [hm] at hr ⊢
            refine zE Tryz.func113 rfl (N := 139) rfl rfl (by simp) (by simp [noIds]) fun σ => ?_
            generalize Tr.node (.node l k v a) mk mv (.node b rk rv rr) = T at m3 ⊢
            generalize Tr.node l k v a = U at m1 m3
            generalize Tr.node b rk rv rr = V at m2 m3
            have FF := fI @zaj (fI @zao (fI @h1 (fI @h2 (fI @h3 (fI @w1 @w2))))); exact gxA
    · have m1 := zbk l k v r (by omega)
      have e : Tr.even l k v r = .node l k v r := by simp only [Tr.even, if_neg h1, if_neg h3]
      rw [e]
      refine zE Tryz.func113 rfl (N := 139) rfl rfl (by simp) (by simp [noIds]) fun σ => ?_
      generalize Tr.node l k v r = T at m1 ⊢
      have FF := fI @zaj (fI @zao (fI @h1 (fI @h3 (fI @w1 @w2)))); exact gxA
def trP (t : Tr) : AV := .pp [t.av] 0
@[simp] theorem zva (K : Id → Prop) (t : Tr) : (trP t).ids K := by simp [trP, AV.ids]
@[simp] theorem ztB (t : Tr) : (trP t).cells = [trP t] := rfl
@[simp] theorem zw2 (t : Tr) : cellOK (trP t) = true := rfl
@[simp] theorem ztC (t : Tr) : (trP t).flat1 = true := rfl
@[simp] theorem zs7 (m m' : Mem) (t : Tr) : zr m' m (trP t) = trP t := rfl
theorem zcw (t : Tr) : PCalls Tryz.prog 97 [trP t] t.av := by
  refine zE Tryz.func97 rfl (N := 9) rfl rfl (by simp) (by simp [noIds]) fun σ => ?_
  have FF := trP.eq_1; exact gxA
theorem zc4 (t : Tr) : PCalls Tryz.prog 96 [trP t] (.raw (.int .i64 t.sz)) := by
  refine zE Tryz.func96 rfl (N := 6) rfl rfl (by simp) (by simp [noIds]) fun σ => ?_
  have C0 := zcw t; have C1 := zds t; exact zme
theorem zm8 : PCalls Tryz.prog 72 [] (trP .nil) := by
  refine zE Tryz.func72 rfl (N := 3) rfl rfl (by simp) (by simp [noIds]) fun σ => ?_
  refine zmf ?_
  refine zbG (x := .rp ⟨2, σ.nx 2, 1⟩ 0 0) (.inr rfl) exA ?_ ?_
  · simp [za]
  · simp [z0, zr, zc, zt, za, trP]
theorem zfX (t : Tr) (k : Int) : PCalls Tryz.prog 95 [trP t, .raw (.int .u64 k)] (.tup [.raw (.int .i64 ((t.get k).getD 0)), .raw (.bool (t.get k).isSome)]) := by
  refine zE Tryz.func95 rfl (N := 42) rfl rfl (by simp) (by simp [noIds]) fun σ => ?_
  obtain ⟨g, hg⟩ : ∃ g, t.get k = g := ⟨_, rfl⟩
  rw [hg]
  have C0 := zcw t; refine zpR ?_
  refine zO (fun n A τ => τ = σ ∧ A 1 = .raw (.int .u64 k) ∧ A 6 = .raw (.int .i64 0) ∧ ∃ u : Tr, A 7 = u.av ∧ n = u.sz.toNat ∧ u.get k = g) t.sz.toNat ?_ ?_
  · exact ⟨rfl, by simp, by simp, t, by simp, rfl, hg⟩
  rintro n A τ ⟨rfl, a1, a6, u, a7, rfl, hu⟩ I1 hI1
  cases u with
  | nil =>
    have : g = none := by rw [← hu]; rfl
    subst this
    have FF := fI @a1 (fI @a6 @a7); exact gxA
  | node l k' v' r =>
    have y1 := l.sz_nn
    have y2 := r.sz_nn
    have hz : (Tr.node l k' v' r).sz = 1 + l.sz + r.sz := rfl
    rw [zbg] at a7
    simp only [Tr.get] at hu
    by_cases h1 : k < k'
    · rw [if_pos h1] at hu
      have FF := fI @a1 (fI @a6 (fI @a7 @h1)); refine gxB ?_; clear FF
      exact hI1 _ _ _ (by omega) ⟨rfl, by simp [a1], by simp [a6], l, by simp, rfl, hu⟩
    · rw [if_neg h1] at hu
      by_cases h2 : k' < k
      · rw [if_pos h2] at hu
        have FF := fI @a1 (fI @a6 (fI @a7 (fI @h1 @h2))); refine gxB ?_; clear FF
        exact hI1 _ _ _ (by omega) ⟨rfl, by simp [a1], by simp [a6], r, by simp, rfl, hu⟩
      · rw [if_neg h2] at hu
        subst hu
        have FF := fI @a1 (fI @a6 (fI @a7 (fI @h1 @h2))); exact gxA
theorem Tr.with_sz (t : Tr) (k v : Int) : (t.with_ k v).sz ≤ t.sz + 1 := by
  induction t with
  | nil => simp [Tr.with_, Tr.sz]
  | node l k' v' r ihl ihr =>
    simp only [Tr.with_]
    split
    · rw [Tr.even_sz]; simp only [Tr.sz]; omega
    · split
      · rw [Tr.even_sz]; simp only [Tr.sz]; omega
      · simp only [Tr.sz]; omega
theorem zfz (k v : Int) : ∀ t : Tr, t.sz < 2 ^ 48 → PCalls Tryz.prog 98 [t.av, zdK k v] (t.with_ k v).av
  | .nil, _ => by
    have m := zbk .nil k v .nil (by simp [Tr.sz])
    rw [zro] at m
    have e : Tr.with_ .nil k v = .node .nil k v .nil := rfl
    rw [e]
    refine zE Tryz.func98 rfl (N := 68) rfl rfl (by simp) (by simp [noIds]) fun σ => ?_
    generalize Tr.node .nil k v .nil = T at m ⊢
    have FF := fI @zaj @zao; exact gxA
  | .node l k' v' r, h => by
    have y1 := l.sz_nn
    have y2 := r.sz_nn
    have hz : (Tr.node l k' v' r).sz = 1 + l.sz + r.sz := rfl
    have q1 := l.with_sz k v
    have q2 := r.with_sz k v
    rw [zbg]
    obtain ⟨H, hH⟩ : ∃ H, (Tr.node l k' v' r).ht = H := ⟨_, rfl⟩
    obtain ⟨Z, hZ⟩ : ∃ Z, (Tr.node l k' v' r).sz = Z := ⟨_, rfl⟩
    rw [hH, hZ]
    by_cases h1 : k < k'
    · have e : Tr.with_ (.node l k' v' r) k v = Tr.even (l.with_ k v) k' v' r := by simp only [Tr.with_, if_pos h1]
      have i1 := zfz k v l (by omega)
      have m := zcv (l.with_ k v) k' v' r (by omega)
      rw [e]
      refine zE Tryz.func98 rfl (N := 68) rfl rfl (by simp) (by simp [noIds]) fun σ => ?_
      generalize Tr.even (l.with_ k v) k' v' r = T at m ⊢
      generalize l.with_ k v = U at i1 m
      have FF := fI @zaj (fI @zao @h1); exact gxA
    · by_cases h2 : k' < k
      · have e : Tr.with_ (.node l k' v' r) k v = Tr.even l k' v' (r.with_ k v) := by simp only [Tr.with_, if_neg h1, if_pos h2]
        have i1 := zfz k v r (by omega)
        have m := zcv l k' v' (r.with_ k v) (by omega)
        rw [e]
        refine zE Tryz.func98 rfl (N := 68) rfl rfl (by simp) (by simp [noIds]) fun σ => ?_
        generalize Tr.even l k' v' (r.with_ k v) = T at m ⊢
        generalize r.with_ k v = U at i1 m
        have FF := fI @zaj (fI @zao (fI @h1 @h2)); exact gxA
      · have e : Tr.with_ (.node l k' v' r) k v = .node l k v r := by simp only [Tr.with_, if_neg h1, if_neg h2]
        have m := zbk l k v r (by omega)
        rw [e]
        refine zE Tryz.func98 rfl (N := 68) rfl rfl (by simp) (by simp [noIds]) fun σ => ?_
        generalize Tr.node l k v r = T at m ⊢
        have FF := fI @zaj (fI @zao (fI @h1 @h2)); exact gxA
theorem zis (t : Tr) (k v : Int) (h : t.sz < 2 ^ 48) (hf : t.get k = none → t.sz < 1024) : PCalls Tryz.prog 73 [trP t, .raw (.int .u64 k), .raw (.int .i64 v)] (.tup [trP (t.with_ k v), .raw (.int .i64 0)]) := by
  have hg := zfX t k
  have hw := zfz k v t h
  generalize t.with_ k v = U at hw ⊢
  refine zE Tryz.func73 rfl (N := 31) rfl rfl (by simp) (by simp [noIds]) fun σ => ?_
  cases hq : t.get k with
  | none =>
    have hlt := hf hq
    have hle : ¬ (1024 : Int) ≤ t.sz := by omega
    rw [hq] at hg
    have C1 := zc4 t; have C2 := zcw t; have FF := fI @zao @hle; refine gxC ?_; clear FF
    refine zbG (x := .tup [.rp ⟨30, σ.nx 30, 1⟩ 0 0, .raw (.int .i64 0)]) (.inr rfl) exA ?_ ?_
    · simp [za]
    · simp [z0, zr, zc, zt, za, trP]
  | some x =>
    rw [hq] at hg
    have C1 := zc4 t; have C2 := zcw t; have FF := @zao; refine gxC ?_; clear FF
    refine zbG (x := .tup [.rp ⟨30, σ.nx 30, 1⟩ 0 0, .raw (.int .i64 0)]) (.inr rfl) exA ?_ ?_
    · simp [za]
    · simp [z0, zr, zc, zt, za, trP]
end Go.Proofs.YtpboabpapgimoaaGreat.Av
namespace Go.Proofs.YtpboabpapgimoaaGreat.Av
open Go
set_option linter.unusedSimpArgs false
set_option linter.unusedVariables false
set_option maxRecDepth 100000
set_option maxHeartbeats 4000000
set_option pp.maxSteps 600
def Tr.atI (t : Tr) (i : Int) : Option (Int × Int) := if 0 ≤ i then t.at_ i else none
theorem Tr.at_some (t : Tr) (i : Int) (h0 : 0 ≤ i) (h : i < t.sz) : ∃ p, t.at_ i = some p := by
  rw [Tr.at_eq t i h0]
  have := t.sz_toL
  have hlt : i.toNat < t.toL.length := by omega
  exact ⟨_, List.getElem?_eq_getElem hlt⟩
theorem Tr.at_none (t : Tr) (i : Int) (h : t.sz ≤ i) : t.at_ i = none := by
  have := t.sz_nn
  rw [Tr.at_eq t i (by omega)]
  have := t.sz_toL
  exact List.getElem?_eq_none (by omega)
theorem zbL (k v : Int) : setPart (AV.agg [.raw (.int .u64 0), .raw (.int .i64 0)]) 0 [.raw (.int .u64 k), .raw (.int .i64 v)] = zdK k v := rfl
theorem zjB (t : Tr) (i : Int) (hz : t.sz < 2 ^ 48) : PCalls Tryz.prog 77 [trP t, .raw (.int .i64 i)] (.tup [zdK ((t.atI i).getD (0, 0)).1 ((t.atI i).getD (0, 0)).2, .raw (.bool (t.atI i).isSome)]) := by
  have zn := t.sz_nn
  refine zE Tryz.func77 rfl (N := 52) rfl rfl (by simp) (by simp [noIds, zdK]) fun σ => ?_
  have f4 : σ.m ⟨4, σ.nx 4, 2⟩ = none := zc _ _ _
  by_cases h0 : i < 0
  · have e : t.atI i = none := by unfold Tr.atI; rw [if_neg (by omega)]
    rw [e]
    have C0 := zc4 t; have C1 := zcw t; have FF := fI @zaj (fI @zao (fI @zbL (fI @zbY @h0))); exact gxA
  · by_cases h1 : t.sz ≤ i
    · have e : t.atI i = none := by unfold Tr.atI; rw [if_pos (by omega), Tr.at_none t i h1]
      rw [e]
      have C0 := zc4 t; have C1 := zcw t; have FF := fI @zaj (fI @zao (fI @zbL (fI @zbY (fI @h0 @h1)))); exact gxA
    · obtain ⟨p, hp⟩ := t.at_some i (by omega) (by omega)
      have e : t.atI i = some p := by unfold Tr.atI; rw [if_pos (by omega), hp]
      rw [e]
      have C0 := zc4 t; have C1 := zcw t; have FF := fI @zaj (fI @zao (fI @zbL (fI @zbY (fI @h0 @h1)))); refine gxB ?_; clear FF
      refine zO (fun n A τ => τ = σ.new 4 2 (.buf [zdK 0 0]) ∧ A 4 = .rp ⟨4, σ.nx 4, 2⟩ 0 0 ∧ ∃ (u : Tr) (j : Int), A 1 = .raw (.int .i64 j) ∧ A 6 = u.av ∧ n = u.sz.toNat ∧ 0 ≤ j ∧ j < u.sz ∧ u.sz < 2 ^ 48 ∧ u.at_ j = some p) t.sz.toNat ?_ ?_
      · exact ⟨by simp [zao], by simp, t, i, by simp, by simp, rfl, by omega, by omega, hz, hp⟩
      rintro n A τ ⟨rfl, a4, u, j, a1, a6, rfl, hj0, hj1, hus, hu⟩ I1 hI1
      cases u with
      | nil => simp only [Tr.sz] at hj1; omega
      | node l k v r =>
        have y1 := l.sz_nn
        have y2 := r.sz_nn
        have hsz : (Tr.node l k v r).sz = 1 + l.sz + r.sz := rfl
        rw [zbg] at a6
        simp only [Tr.at_] at hu
        have w1 : IntKind.i64.wrap (1 + l.sz) = 1 + l.sz := zo (by omega) (by omega)
        have w2 : IntKind.i64.wrap (j - (1 + l.sz)) = j - (1 + l.sz) := zo (by omega) (by omega)
        by_cases q1 : j < l.sz
        · rw [if_pos q1] at hu
          have q1' : ¬ j = l.sz := by omega
          have C0 := zds l; have FF := fI @a1 (fI @a4 (fI @a6 (fI @q1 @q1'))); refine gxB ?_; clear FF
          exact hI1 _ _ _ (by omega) ⟨rfl, by simp [a4], l, j, by simp [a1], by simp, rfl, hj0, q1, by omega, hu⟩
        · rw [if_neg q1] at hu
          by_cases q2 : l.sz < j
          · rw [if_pos q2] at hu
            have q1' : ¬ j = l.sz := by omega
            have C0 := zds l; have FF := fI @a1 (fI @a4 (fI @a6 (fI @q1 (fI @q1' (fI @w1 @w2))))); refine gxB ?_; clear FF
            exact hI1 _ _ _ (by omega) ⟨rfl, by simp [a4], r, j - (1 + l.sz), by simp, by simp, rfl, by omega, by omega, by omega, hu⟩
          · rw [if_neg q2] at hu
            have q1' : j = l.sz := by omega
            simp only [Option.some.injEq] at hu
            subst hu
            have C0 := zds l; have FF := fI @a1 (fI @a4 (fI @a6 (fI @q1' (fI @zaj (fI @zao @zbY))))); exact gxA
theorem Tr.join_sz (l : Tr) (k v : Int) (r : Tr) : (Tr.join l k v r).sz = 1 + l.sz + r.sz := by
  rw [Tr.sz_toL, Tr.join_toL, Tr.sz_toL l, Tr.sz_toL r]
  simp only [List.length_append, List.length_cons]
  omega
theorem zhC (n : Nat) : ∀ (l : Tr) (k v : Int) (r : Tr), SizeOf.sizeOf l + SizeOf.sizeOf r < n → l.sz + r.sz < 2 ^ 48 → PCalls Tryz.prog 132 [l.av, zdK k v, r.av] (Tr.join l k v r).av := by
  induction n with
  | zero => intro l k v r h; omega
  | succ n ih =>
    intro l k v r hn h
    have z1 := l.ht_nn
    have z2 := r.ht_nn
    have z3 := l.sz_nn
    have z4 := r.sz_nn
    have z5 := l.ht_le
    have z6 := r.ht_le
    have w1 : IntKind.i64.wrap (r.ht + 1) = r.ht + 1 := zo (by omega) (by omega)
    have w2 : IntKind.i64.wrap (l.ht + 1) = l.ht + 1 := zo (by omega) (by omega)
    have hl := zbU l
    have hr := zbU r
    by_cases h1 : r.ht + 1 < l.ht
    · cases l with
      | nil => simp only [Tr.ht] at h1; omega
      | node ll lk lv lr =>
        have y1 := ll.sz_nn
        have y2 := lr.sz_nn
        have hz : (Tr.node ll lk lv lr).sz = 1 + ll.sz + lr.sz := rfl
        have i1 := ih lr k v r (by simp only [Tr.node.sizeOf_spec] at hn; omega) (by omega)
        have js := Tr.join_sz lr k v r
        have m := zcv ll lk lv (Tr.join lr k v r) (by omega)
        have e : Tr.join (.node ll lk lv lr) k v r = Tr.even ll lk lv (Tr.join lr k v r) := by rw [Tr.join.eq_def]; simp only [if_pos h1]
        rw [e]
        rw [zbg] at hl ⊢
        obtain ⟨H, hH⟩ : ∃ H, (Tr.node ll lk lv lr).ht = H := ⟨_, rfl⟩
        obtain ⟨Z, hZ⟩ : ∃ Z, (Tr.node ll lk lv lr).sz = Z := ⟨_, rfl⟩
        rw [hH, hZ] at hl ⊢
        rw [hH] at h1 w2
        refine zE Tryz.func132 rfl (N := 57) rfl rfl (by simp) (by simp [noIds]) fun σ => ?_
        generalize Tr.even ll lk lv (Tr.join lr k v r) = T at m ⊢
        generalize Tr.join lr k v r = U at i1 m
        have FF := fI @zaj (fI @zao (fI @h1 (fI @w1 @w2))); exact gxA
    · by_cases h3 : l.ht + 1 < r.ht
      · cases r with
        | nil => simp only [Tr.ht] at h3; omega
        | node rl rk rv rr =>
          have y1 := rl.sz_nn
          have y2 := rr.sz_nn
          have hz : (Tr.node rl rk rv rr).sz = 1 + rl.sz + rr.sz := rfl
          have i1 := ih l k v rl (by simp only [Tr.node.sizeOf_spec] at hn; omega) (by omega)
          have js := Tr.join_sz l k v rl
          have m := zcv (Tr.join l k v rl) rk rv rr (by omega)
          have e : Tr.join l k v (.node rl rk rv rr) = Tr.even (Tr.join l k v rl) rk rv rr := by rw [Tr.join.eq_def]; simp only [if_neg h1, if_pos h3]
          rw [e]
          rw [zbg] at hr ⊢
          obtain ⟨H, hH⟩ : ∃ H, (Tr.node rl rk rv rr).ht = H := ⟨_, rfl⟩
          obtain ⟨Z, hZ⟩ : ∃ Z, (Tr.node rl rk rv rr).sz = Z := ⟨_, rfl⟩
          rw [hH, hZ] at hr ⊢
          rw [hH] at h1 h3 w1
          refine zE Tryz.func132 rfl (N := 57) rfl rfl (by simp) (by simp [noIds]) fun σ => ?_
          generalize Tr.even (Tr.join l k v rl) rk rv rr = T at m ⊢
          generalize Tr.join l k v rl = U at i1 m
          have FF := fI @zaj (fI @zao (fI @h1 (fI @h3 (fI @w1 @w2)))); exact gxA
      · have m := zbk l k v r (by omega)
        have e : Tr.join l k v r = .node l k v r := by rw [Tr.join.eq_def, if_neg h1, if_neg h3]
        rw [e]
        refine zE Tryz.func132 rfl (N := 57) rfl rfl (by simp) (by simp [noIds]) fun σ => ?_
        generalize Tr.node l k v r = T at m ⊢
        have FF := fI @zaj (fI @zao (fI @h1 (fI @h3 (fI @w1 @w2)))); exact gxA
theorem Tr.cut_sz (b : Int) : ∀ t : Tr, (t.cut b).1.sz + (t.cut b).2.sz = t.sz
  | nil => by simp [Tr.cut, Tr.sz]
  | node l k v r => by
    have h1 := Tr.cut_sz b l
    have h2 := Tr.cut_sz b r
    simp only [Tr.cut]
    split
    · simp only [Tr.join_sz, Tr.sz]; omega
    · simp only [Tr.join_sz, Tr.sz]; omega
theorem zfY (b : Int) : ∀ t : Tr, t.sz < 2 ^ 48 → PCalls Tryz.prog 115 [t.av, .raw (.int .u64 b)] (.tup [(t.cut b).1.av, (t.cut b).2.av])
  | .nil, _ => by
    refine zE Tryz.func115 rfl (N := 59) rfl rfl (by simp) (by simp [noIds]) fun σ => ?_
    have e : Tr.nil.cut b = (.nil, .nil) := rfl
    rw [e]
    exact zme
  | .node l k v r, h => by
    have y1 := l.sz_nn
    have y2 := r.sz_nn
    have hz : (Tr.node l k v r).sz = 1 + l.sz + r.sz := rfl
    rw [zbg]
    obtain ⟨H, hH⟩ : ∃ H, (Tr.node l k v r).ht = H := ⟨_, rfl⟩
    obtain ⟨Z, hZ⟩ : ∃ Z, (Tr.node l k v r).sz = Z := ⟨_, rfl⟩
    rw [hH, hZ]
    by_cases h1 : k < b
    · have i1 := zfY b r (by omega)
      have cs := Tr.cut_sz b r
      have x1 := (r.cut b).1.sz_nn
      have x2 := (r.cut b).2.sz_nn
      have m := zhC _ l k v (r.cut b).1 (Nat.lt_succ_self _) (by omega)
      have e : Tr.cut (.node l k v r) b = (Tr.join l k v (r.cut b).1, (r.cut b).2) := by simp only [Tr.cut, if_pos h1]
      rw [e]
      refine zE Tryz.func115 rfl (N := 59) rfl rfl (by simp) (by simp [noIds]) fun σ => ?_
      generalize Tr.join l k v (r.cut b).1 = T at m ⊢
      generalize (r.cut b).1 = U at i1 m
      generalize (r.cut b).2 = V at i1 ⊢
      have FF := fI @zaj (fI @zao @h1); exact gxA
    · have i1 := zfY b l (by omega)
      have cs := Tr.cut_sz b l
      have x1 := (l.cut b).1.sz_nn
      have x2 := (l.cut b).2.sz_nn
      have m := zhC _ (l.cut b).2 k v r (Nat.lt_succ_self _) (by omega)
      have e : Tr.cut (.node l k v r) b = ((l.cut b).1, Tr.join (l.cut b).2 k v r) := by simp only [Tr.cut, if_neg h1]
      rw [e]
      refine zE Tryz.func115 rfl (N := 59) rfl rfl (by simp) (by simp [noIds]) fun σ => ?_
      generalize Tr.join (l.cut b).2 k v r = T at m ⊢
      generalize (l.cut b).2 = U at i1 m
      generalize (l.cut b).1 = V at i1 ⊢
      have FF := fI @zaj (fI @zao @h1); exact gxA
theorem zlm (t : Tr) (b : Int) (h : t.sz < 2 ^ 48) : PCalls Tryz.prog 102 [trP t, .raw (.int .u64 b)] (.tup [trP (t.cut b).1, trP (t.cut b).2]) := by
  have hc := zfY b t h
  generalize (t.cut b).1 = U at hc ⊢
  generalize (t.cut b).2 = V at hc ⊢
  refine zE Tryz.func102 rfl (N := 21) rfl rfl (by simp) (by simp [noIds]) fun σ => ?_
  have C1 := zcw t; refine zmf ?_
  refine zbG (x := .tup [.rp ⟨17, σ.nx 17, 1⟩ 0 0, .rp ⟨20, σ.nx 20, 1⟩ 0 0]) (.inr rfl) exA ?_ ?_
  · simp [za]
  · simp [z0, zr, zc, zt, za, trP]
end Go.Proofs.YtpboabpapgimoaaGreat.Av
namespace Go.Proofs.YtpboabpapgimoaaGreat.Av
open Go
set_option linter.unusedSimpArgs false
set_option linter.unusedVariables false
set_option maxRecDepth 100000
set_option maxHeartbeats 4000000
set_option pp.maxSteps 600
theorem Tr.least_sz : ∀ t : Tr, t ≠ .nil → t.least.2.sz = t.sz - 1 := fun t h => by
  have := Tr.least_toL t h
  rw [Tr.sz_toL, Tr.sz_toL t, this]
  simp only [List.length_cons]; omega
theorem zhb : ∀ t : Tr, t ≠ .nil → t.sz < 2 ^ 48 → PCalls Tryz.prog 143 [t.av] (.tup [zdK t.least.1.1 t.least.1.2, t.least.2.av])
  | .nil, h, _ => absurd rfl h
  | .node .nil k v r, _, h => by
    have e : (Tr.node .nil k v r).least = ((k, v), r) := by simp only [Tr.least]
    rw [e, zbg]
    refine zE Tryz.func143 rfl (N := 38) rfl rfl (by simp) (by simp [noIds]) fun σ => ?_
    have f2 : σ.m ⟨2, σ.nx 2, 2⟩ = none := zc _ _ _
    have FF := fI @zaj (fI @zao (fI @zbY @zbL)); refine gxB ?_; clear FF
    refine zbF (lsO [14, 18]) zc8 (by decide +kernel) ?_
    have FF := fI @zaj (fI @zao (fI @zbY @zbL)); exact gxA
  | .node (.node a b c d) k v r, _, h => by
    have hz : (Tr.node (.node a b c d) k v r).sz = 1 + (Tr.node a b c d).sz + r.sz := rfl
    have y1 := (Tr.node a b c d).sz_nn
    have y2 := r.sz_nn
    have i1 := zhb (.node a b c d) (by simp) (by omega)
    have ls := Tr.least_sz (.node a b c d) (by simp)
    have m := zcv (Tr.node a b c d).least.2 k v r (by omega)
    have e : (Tr.node (.node a b c d) k v r).least = ((Tr.node a b c d).least.1, Tr.even (Tr.node a b c d).least.2 k v r) := by simp only [Tr.least]
    rw [e, zbg]
    have hm := zbg a b c d
    generalize Tr.even (Tr.node a b c d).least.2 k v r = T at m ⊢
    generalize (Tr.node a b c d).least.2 = U at i1 m
    generalize (Tr.node a b c d).least.1 = q at i1 ⊢
    generalize (Tr.node (.node a b c d) k v r).ht = H
    generalize (Tr.node (.node a b c d) k v r).sz = Z
    generalize (Tr.node a b c d).ht = H2 at hm
    generalize (Tr.node a b c d).sz = Z2 at hm
    rw [hm] at i1 ⊢
    refine zE Tryz.func143 rfl (N := 38) rfl rfl (by simp) (by simp [noIds]) fun σ => ?_
    have f2 : σ.m ⟨2, σ.nx 2, 2⟩ = none := zc _ _ _
    have FF := fI @zaj (fI @zao (fI @zbY (fI @zbL (fI @zt (fI @zD @za))))); exact gxA
theorem Tr.without_sz (k : Int) : ∀ t : Tr, (t.without k).sz ≤ t.sz
  | .nil => by simp [Tr.without]
  | .node l k' v' r => by
    have h1 := Tr.without_sz k l
    have h2 := Tr.without_sz k r
    have y1 := l.sz_nn
    have y2 := r.sz_nn
    simp only [Tr.without]
    split
    · rw [Tr.even_sz]; simp only [Tr.sz]; omega
    · split
      · rw [Tr.even_sz]; simp only [Tr.sz]; omega
      · cases r with
        | nil => simp only [Tr.sz]; omega
        | node a b c d =>
          have := Tr.least_sz (.node a b c d) (by simp)
          simp only [Tr.even_sz, this]
          simp only [Tr.sz]; omega
theorem zeb (k : Int) : ∀ t : Tr, t.get k ≠ none → t.sz < 2 ^ 48 → PCalls Tryz.prog 131 [t.av, .raw (.int .u64 k)] (t.without k).av
  | .nil, h, _ => absurd rfl h
  | .node l k' v' r, hg, h => by
    have hz : (Tr.node l k' v' r).sz = 1 + l.sz + r.sz := rfl
    have y1 := l.sz_nn
    have y2 := r.sz_nn
    simp only [Tr.get] at hg
    by_cases h1 : k < k'
    · rw [if_pos h1] at hg
      have i1 := zeb k l hg (by omega)
      have ws := Tr.without_sz k l
      have m := zcv (l.without k) k' v' r (by omega)
      have e : (Tr.node l k' v' r).without k = Tr.even (l.without k) k' v' r := by simp only [Tr.without, if_pos h1]
      rw [e, zbg]
      generalize Tr.even (l.without k) k' v' r = T at m ⊢
      generalize l.without k = U at i1 m
      generalize (Tr.node l k' v' r).ht = H
      generalize (Tr.node l k' v' r).sz = Z
      refine zE Tryz.func131 rfl (N := 78) rfl rfl (by simp) (by simp [noIds]) fun σ => ?_
      have FF := fI @zaj (fI @zao @h1); exact gxA
    · rw [if_neg h1] at hg
      by_cases h2 : k' < k
      · rw [if_pos h2] at hg
        have i1 := zeb k r hg (by omega)
        have ws := Tr.without_sz k r
        have m := zcv l k' v' (r.without k) (by omega)
        have e : (Tr.node l k' v' r).without k = Tr.even l k' v' (r.without k) := by simp only [Tr.without, if_neg h1, if_pos h2]
        rw [e, zbg]
        generalize Tr.even l k' v' (r.without k) = T at m ⊢
        generalize r.without k = U at i1 m
        generalize (Tr.node l k' v' r).ht = H
        generalize (Tr.node l k' v' r).sz = Z
        refine zE Tryz.func131 rfl (N := 78) rfl rfl (by simp) (by simp [noIds]) fun σ => ?_
        have FF := fI @zaj (fI @zao (fI @h1 @h2)); exact gxA
      · cases r with
        | nil =>
          have e : (Tr.node l k' v' .nil).without k = l := by simp only [Tr.without, if_neg h1, if_neg h2]
          rw [e, zbg]
          generalize (Tr.node l k' v' .nil).ht = H
          generalize (Tr.node l k' v' .nil).sz = Z
          refine zE Tryz.func131 rfl (N := 78) rfl rfl (by simp) (by simp [noIds]) fun σ => ?_
          have FF := fI @zaj (fI @zao (fI @h1 @h2)); exact gxA
        | node a b c d =>
          have i1 := zhb (.node a b c d) (by simp) (by omega)
          have ls := Tr.least_sz (.node a b c d) (by simp)
          have m := zcv l (Tr.node a b c d).least.1.1 (Tr.node a b c d).least.1.2 (Tr.node a b c d).least.2 (by omega)
          have e : (Tr.node l k' v' (.node a b c d)).without k = Tr.even l (Tr.node a b c d).least.1.1 (Tr.node a b c d).least.1.2 (Tr.node a b c d).least.2 := by simp only [Tr.without, if_neg h1, if_neg h2]
          rw [e, zbg]
          have hm := zbg a b c d
          generalize Tr.even l (Tr.node a b c d).least.1.1 (Tr.node a b c d).least.1.2 (Tr.node a b c d).least.2 = T at m ⊢
          generalize (Tr.node a b c d).least.2 = U at i1 m
          generalize (Tr.node a b c d).least.1 = q at i1 m
          generalize (Tr.node l k' v' (.node a b c d)).ht = H
          generalize (Tr.node l k' v' (.node a b c d)).sz = Z
          generalize (Tr.node a b c d).ht = H2 at hm
          generalize (Tr.node a b c d).sz = Z2 at hm
          rw [hm] at i1 ⊢
          refine zE Tryz.func131 rfl (N := 78) rfl rfl (by simp) (by simp [noIds]) fun σ => ?_
          have FF := fI @zaj (fI @zao (fI @zbY (fI @zbL (fI @h1 (fI @h2 (fI @zt (fI @zD @za))))))); exact gxA
theorem zmn (t : Tr) (k : Int) (hg : t.get k ≠ none) (h : t.sz < 2 ^ 48) : PCalls Tryz.prog 114 [trP t, .raw (.int .u64 k)] (.tup [trP (t.without k), .raw (.int .i64 0)]) := by
  have h1 := zfX t k
  have h2 := zeb k t hg h
  generalize t.without k = U at h2 ⊢
  obtain ⟨x, hx⟩ := Option.ne_none_iff_exists'.1 hg
  rw [hx] at h1
  refine zE Tryz.func114 rfl (N := 22) rfl rfl (by simp) (by simp [noIds]) fun σ => ?_
  have C2 := zcw t; refine zmf ?_
  refine zbG (x := .tup [.rp ⟨21, σ.nx 21, 1⟩ 0 0, .raw (.int .i64 0)]) (.inr rfl) exA ?_ ?_
  · simp [za]
  · simp [z0, zr, zc, zt, za, trP]
end Go.Proofs.YtpboabpapgimoaaGreat.Av
namespace Go.Proofs.YtpboabpapgimoaaGreat.Av
open Go
set_option linter.unusedSimpArgs false
set_option linter.unusedVariables false
set_option maxRecDepth 100000
set_option maxHeartbeats 4000000
set_option pp.maxSteps 600
structure Tab where
  b : Tr
  g : Tr
  n : Int
def zdi (T : Tab) : AV := .pp [trP T.b, trP T.g, .raw (.int .i64 T.n)] 0
def za1 : Option Tab → AV
  | none => .raw (.pointer none)
  | some T => zdi T
@[simp] theorem zum (K : Id → Prop) (T : Tab) : (zdi T).ids K := by simp [zdi, AV.ids]
@[simp] theorem zun (K : Id → Prop) (T : Option Tab) : (za1 T).ids K := by cases T <;> simp [za1]
@[simp] theorem zvb (T : Tab) : cellOK (zdi T) = true := rfl
@[simp] theorem zs8 (T : Tab) : (zdi T).cells = [zdi T] := rfl
@[simp] theorem zs9 (T : Tab) : (zdi T).flat1 = true := rfl
def zW : Tab := ⟨.node .nil 0 1 .nil, .nil, 0⟩
theorem zec : PCalls Tryz.prog 43 [] (zdi zW) := by
  have h := zis .nil 0 1 (by simp [Tr.sz]) (by simp [Tr.sz])
  have e : Tr.with_ .nil 0 1 = .node .nil 0 1 .nil := rfl
  rw [e] at h
  unfold zdi zW
  generalize Tr.node .nil 0 1 .nil = U at h ⊢
  refine zE Tryz.func43 rfl (N := 12) rfl rfl (by simp) (by simp [noIds, AV.ids]) fun σ => ?_
  have C0 := zm8; refine zmf ?_
  refine zbG (x := .rp ⟨11, σ.nx 11, 3⟩ 0 0) (.inr rfl) exA ?_ ?_
  · simp [za]
  · simp [z0, zr, zc, zt, za]
theorem zfA (T : Option Tab) : PCalls Tryz.prog 74 [za1 T] (zdi (T.getD zW)) := by
  refine zE Tryz.func74 rfl (N := 7) rfl rfl (by simp) (by simp [noIds]) fun σ => ?_
  cases T with
  | none => (try ((first | with_reducible refine zs ?_ | with_reducible refine zx ?_ | with_reducible refine zy ?_); simp [-cellOK, za1])); repeat' (first | ((first | refine zm ?_ | refine zl ?_ | refine dN (by decide +kernel) ?_ | refine dC (by decide +kernel) ?_ | refine uP (zec) ?_ | refine .inl ⟨_, .inl (zec), ?_⟩ | (refine zb ?_ ?_ <;> (intro hg; simp only [hg])) | fail) <;> simp [-cellOK, za1]) | refine zf ?_ | refine zg ?_ | (refine zF ?_; simp only [zG]; try simp) | (refine zq (by simp) ?_; simp) | (refine zam (by simp) (by simp [noIds]) (by repeat (first | assumption | exact Ext.refl _ | refine zK ?_ | refine Ext.setF ?_ (by first | assumption | (simp [za, St.set, zc]; done) | exact zI (by assumption)))) ?_; simp [-cellOK, za1, nsE]) | (refine zd (fun hc => ?_) (fun hc => ?_) <;> try simp at hc) | fail)
  | some T =>
    have e : zdi T = .pp [trP T.b, trP T.g, .raw (.int .i64 T.n)] 0 := rfl
    simp only [za1, Option.getD_some, e]
    exact zme
def zbO (t : Tr) (k by_ : Int) : Tr := if (t.get k).getD 0 + by_ = 0 then t.without k else t.with_ k ((t.get k).getD 0 + by_)
structure MoreOK (t : Tr) (k by_ : Int) : Prop where
  sz : t.sz < 2 ^ 40
  lo : -2 ^ 40 < (t.get k).getD 0 + by_
  hi : (t.get k).getD 0 + by_ < 2 ^ 40
  drop : (t.get k).getD 0 + by_ = 0 → t.get k ≠ none
  room : t.get k = none → t.sz < 1024
theorem zjC (t : Tr) (k by_ : Int) (h : MoreOK t k by_) : PCalls Tryz.prog 99 [trP t, .raw (.int .u64 k), .raw (.int .i64 by_)] (trP (zbO t k by_)) := by
  have hg := zfX t k
  have w := zo (n := (t.get k).getD 0 + by_) (by have := h.lo; omega) (by have := h.hi; omega)
  have hsz := h.sz
  by_cases h0 : (t.get k).getD 0 + by_ = 0
  · have hd := zmn t k (h.drop h0) (by omega)
    have e : zbO t k by_ = t.without k := by unfold zbO; rw [if_pos h0]
    rw [e]
    generalize t.without k = U at hd ⊢
    refine zE Tryz.func99 rfl (N := 36) rfl rfl (by simp) (by simp [noIds]) fun σ => ?_
    generalize (t.get k).getD 0 = x at *
    generalize (t.get k).isSome = b at *
    rw [h0] at w
    have h0' : IntKind.i64.wrap (x + by_) = 0 := by rw [h0, w]
    have FF := fI @h0 (fI @h0' @w); exact gxA
  · have hp := zis t k ((t.get k).getD 0 + by_) (by omega) h.room
    have e : zbO t k by_ = t.with_ k ((t.get k).getD 0 + by_) := by unfold zbO; rw [if_neg h0]
    rw [e]
    generalize t.with_ k ((t.get k).getD 0 + by_) = U at hp ⊢
    refine zE Tryz.func99 rfl (N := 36) rfl rfl (by simp) (by simp [noIds]) fun σ => ?_
    generalize (t.get k).getD 0 = x at *
    generalize (t.get k).isSome = b at *
    have FF := fI @w @h0; exact gxA
structure RgOK (r : Rg) : Prop where
  lo0 : 0 ≤ r.lo
  lo1 : r.lo < 4294967296
  hi0 : 0 ≤ r.hi
  hi1 : r.hi < 4294967296
def zc7 (r : Rg) : Int := r.lo * 4294967296 + r.hi
theorem rg_cells (r : Rg) : (zp r).cells = [.raw (.int .u32 r.lo), .raw (.int .u32 r.hi)] := rfl
theorem rg_fold (r : Rg) : AV.agg [.raw (.int .u32 r.lo), .raw (.int .u32 r.hi)] = zp r := rfl
theorem zrs {lo hi : Int} (h0 : 0 ≤ lo) (h1 : lo < 4294967296) (h2 : 0 ≤ hi) (h3 : hi < 4294967296) :
    (BitVec.ofInt 64 (lo * 4294967296) ||| BitVec.ofInt 64 hi).toNat = (lo * 4294967296 + hi).toNat := by
  obtain ⟨a, rfl⟩ := Int.eq_ofNat_of_zero_le h0
  obtain ⟨b, rfl⟩ := Int.eq_ofNat_of_zero_le h2
  have e1 : ((a : Int) * 4294967296) = ((a * 4294967296 : Nat) : Int) := by omega
  have e2 : ((a : Int) * 4294967296 + b) = ((a * 4294967296 + b : Nat) : Int) := by omega
  rw [BitVec.toNat_or, e2, e1, BitVec.ofInt_natCast, BitVec.ofInt_natCast, BitVec.toNat_ofNat, BitVec.toNat_ofNat, Int.toNat_natCast]
  rw [Nat.mod_eq_of_lt (by omega), Nat.mod_eq_of_lt (by omega)]
  have := Nat.shiftLeft_add_eq_or_of_lt (a := a) (b := b) (i := 32) (by omega)
  rw [Nat.shiftLeft_eq] at this
  exact this.symm
theorem zoV (r : Rg) (h : RgOK r) : PCalls Tryz.prog 100 [zp r] (.raw (.int .u64 (zc7 r))) := by
  obtain ⟨a1, a2, a3, a4⟩ := h
  have w1 : IntKind.u64.wrap r.lo = r.lo := zbo (by omega) (by omega)
  have w2 : IntKind.u64.wrap r.hi = r.hi := zbo (by omega) (by omega)
  have w3 : IntKind.u64.wrap (r.lo * 4294967296) = r.lo * 4294967296 := zbo (by omega) (by omega)
  have w4 : ((r.lo * 4294967296 % 18446744073709551616).toNat ||| (r.hi % 18446744073709551616).toNat) = (zc7 r).toNat := by
    have := zrs a1 a2 a3 a4
    rw [BitVec.toNat_or, BitVec.toNat_ofInt, BitVec.toNat_ofInt] at this
    exact this
  have hk : ((zc7 r).toNat : Int) = zc7 r := by unfold zc7; omega
  have w5 : IntKind.u64.wrap (zc7 r) = zc7 r := zbo (by unfold zc7; omega) (by unfold zc7; omega)
  have b1 : IntKind.u64.bits = 64 := rfl
  refine zE Tryz.func100 rfl (N := 11) rfl rfl (by simp) (by simp [noIds]) fun σ => ?_
  generalize zc7 r = y at *
  have FF := fI @rg_cells (fI @w1 (fI @w2 (fI @w3 (fI @w4 (fI @w5 (fI @hk @b1)))))); exact gxA
end Go.Proofs.YtpboabpapgimoaaGreat.Av
namespace Go.Proofs.YtpboabpapgimoaaGreat.Av
open Go
set_option linter.unusedSimpArgs false
set_option linter.unusedVariables false
set_option maxRecDepth 100000
set_option maxHeartbeats 4000000
set_option pp.maxSteps 600
def zfB (x : Int) : AV := .raw (.int .u64 x)
def zed (l : List Int) : AV := .sl 1 (l.map zfB) false
@[simp] theorem zvc (K : Id → Prop) (l : List Int) : (zed l).ids K := by simp only [zed, AV.ids]; exact zeo (fun x => by simp [zfB]) l
def zb1 (r : Rg) : List Int := if r.hi < 4294967295 then [r.lo, r.hi + 1] else [r.lo]
theorem zn2 (r : Rg) (h : RgOK r) : PCalls Tryz.prog 101 [zp r] (zed (zb1 r)) := by
  obtain ⟨a1, a2, a3, a4⟩ := h
  have w1 : IntKind.u64.wrap r.lo = r.lo := zbo (by omega) (by omega)
  have w2 : IntKind.u64.wrap r.hi = r.hi := zbo (by omega) (by omega)
  have w3 : IntKind.u64.wrap (r.hi + 1) = r.hi + 1 := zbo (by omega) (by omega)
  refine zE Tryz.func101 rfl (N := 19) rfl rfl (by simp) (by simp [noIds]) fun σ => ?_
  unfold zb1
  by_cases q : r.hi < 4294967295
  · rw [if_pos q]
    (try ((first | with_reducible refine zs ?_ | with_reducible refine zx ?_ | with_reducible refine zy ?_); simp [-cellOK, rg_cells, w1, w2, w3, q, -zJ])); repeat' (first | ((first | refine zm ?_ | refine zl ?_ | refine dN (by decide +kernel) ?_ | refine dC (by decide +kernel) ?_ | (refine zb ?_ ?_ <;> (intro hg; simp only [hg])) | fail) <;> simp [-cellOK, rg_cells, w1, w2, w3, q, -zJ]) | refine zf ?_ | refine zg ?_ | (refine zF ?_; simp only [zG]; try simp) | (refine zq (by simp) ?_; simp) | (refine zam (by simp) (by simp [noIds]) (by repeat (first | assumption | exact Ext.refl _ | refine zK ?_ | refine Ext.setF ?_ (by first | assumption | (simp [za, St.set, zc]; done) | exact zI (by assumption)))) ?_; simp [-cellOK, rg_cells, w1, w2, w3, q, -zJ, nsE]) | (refine zd (fun hc => ?_) (fun hc => ?_) <;> try simp at hc) | fail)
    refine zaV zrm (σ0 := σ) (es := [zfB r.lo]) (OwnL.of (j := ⟨7, σ.nx 7, 1⟩) rfl (by simp [zt, za, zfB]) (zc _ _ _) rfl) (exA) (ys := [zfB (r.hi + 1)]) (by simp [zfB, zt, za]) (.inr rfl) (by simp [zfB]) (by simp) ?_
    intro v' τ' hO hE _ _
    refine zmf ?_
    exact ziH (.inr rfl) (by simp) hO hE
  · rw [if_neg q]
    have FF := fI @rg_cells (fI @w1 (fI @w2 (fI @w3 @q))); refine gxC ?_; clear FF
    refine zbG (x := .rs ⟨7, σ.nx 7, 1⟩ 0 1) (.inr rfl) exA ?_ ?_
    · simp [za]
    · simp [z0, zr, zc, zt, za, zed, zfB]
def Tab.with_ (T : Tab) (r : Rg) (by_ : Int) : Tab := ⟨(zb1 r).foldl (fun b e => zbO b e by_) T.b, zbO T.g (zc7 r) by_, T.n + by_⟩
structure WithOK (T : Tab) (r : Rg) (by_ : Int) : Prop where
  rg : RgOK r
  n0 : -2 ^ 40 < T.n + by_
  n1 : T.n + by_ < 2 ^ 40
  key : MoreOK T.g (zc7 r) by_
  ends : ∀ (i : Nat) (e : Int), (zb1 r)[i]? = some e → MoreOK (((zb1 r).take i).foldl (fun b e => zbO b e by_) T.b) e by_
theorem zep (T : Tab) : zdi T = .pp [trP T.b, trP T.g, .raw (.int .i64 T.n)] 0 := rfl
theorem zfZ (t : Tr) (off : Nat) (x : AV) : setPart (trP t) off [x] = x := rfl
theorem zn3 (T : Tab) (r : Rg) (by_ : Int) (h : WithOK T r by_) : PCalls Tryz.prog 75 [zdi T, zp r, .raw (.int .i64 by_)] (zdi (T.with_ r by_)) := by
  have w := zo (n := T.n + by_) (by have := h.n0; omega) (by have := h.n1; omega)
  have hk := zoV r h.rg
  have hm := zjC T.g (zc7 r) by_ h.key
  have he := zn2 r h.rg
  have hlen : (zb1 r).length ≤ 2 := by unfold zb1; split <;> simp
  have hends := h.ends
  rw [zep (T.with_ r by_)]
  unfold Tab.with_
  simp only []
  generalize zbO T.g (zc7 r) by_ = G at hm ⊢
  generalize zb1 r = E at he hlen hends ⊢
  rw [zep]
  refine zE Tryz.func75 rfl (N := 49) rfl rfl (by simp) (by simp [noIds]) fun σ => ?_
  have f29 : σ.m ⟨29, σ.nx 29, 3⟩ = none := zc _ _ _
  have FF := fI @rg_cells (fI @rg_fold @w); refine gxB ?_; clear FF
  refine zO (fun n A τ => Ext σ τ ∧ A 2 = .raw (.int .i64 by_) ∧ A 7 = .rp ⟨29, σ.nx 29, 3⟩ 0 0 ∧ A 31 = zed E ∧ A 32 = .raw (.int .i64 E.length) ∧ ∃ i : Nat, A 33 = .raw (.int .i64 i) ∧ i ≤ E.length ∧ n = E.length - i ∧ τ.m ⟨29, σ.nx 29, 3⟩ = some (.buf [.agg [trP ((E.take i).foldl (fun b e => zbO b e by_) T.b), trP G, .raw (.int .i64 (T.n + by_))]])) E.length ?_ ?_
  · exact ⟨exA, by simp, by simp [za], by simp [zed], by simp [zed], 0, by simp, by omega, by omega, by simp [zt, za]⟩
  rintro n A τ ⟨hE, a2, a7, a31, a32, i, a33, hi, rfl, hmm⟩ I1 hI1
  by_cases hlt : i < E.length
  · have hx : E[i]? = some E[i] := List.getElem?_eq_getElem hlt
    have w1 : IntKind.i64.wrap ((i : Int) + 1) = ((i + 1 : Nat) : Int) := by rw [zo (by omega) (by omega)]; omega
    have hmo := zjC _ _ by_ (hends i _ hx)
    have hf : (E.take (i + 1)).foldl (fun b e => zbO b e by_) T.b = zbO ((E.take i).foldl (fun b e => zbO b e by_) T.b) E[i] by_ := by
      rw [List.take_add_one, hx, List.foldl_append]; rfl
    rw [← hf] at hmo
    generalize (E.take i).foldl (fun b e => zbO b e by_) T.b = B at hmo hmm hf
    obtain ⟨B', hB'⟩ : ∃ x, (E.take (i + 1)).foldl (fun b e => zbO b e by_) T.b = x := ⟨_, rfl⟩
    rw [hB'] at hmo
    (try ((first | with_reducible refine zs ?_ | with_reducible refine zx ?_ | with_reducible refine zy ?_); simp [-cellOK, a2, a7, a31, a32, a33, hlt, hx, hmm, w1, zed, zfB, zfZ])); repeat' (first | ((first | refine zm ?_ | refine zl ?_ | refine dN (by decide +kernel) ?_ | refine dC (by decide +kernel) ?_ | refine uP (hmo) ?_ | refine .inl ⟨_, .inl (hmo), ?_⟩ | (refine zb ?_ ?_ <;> (intro hg; simp only [hg])) | fail) <;> simp [-cellOK, a2, a7, a31, a32, a33, hlt, hx, hmm, w1, zed, zfB, zfZ]) | refine zf ?_ | refine zg ?_ | (refine zF ?_; simp only [zG]; try simp) | (refine zq (by simp) ?_; simp) | (refine zam (by simp) (by simp [noIds]) (by repeat (first | assumption | exact Ext.refl _ | refine zK ?_ | refine Ext.setF ?_ (by first | assumption | (simp [za, St.set, zc]; done) | exact zI (by assumption)))) ?_; simp [-cellOK, a2, a7, a31, a32, a33, hlt, hx, hmm, w1, zed, zfB, zfZ, nsE]) | (refine zd (fun hc => ?_) (fun hc => ?_) <;> try simp at hc) | fail)
    refine hI1 (E.length - (i + 1)) _ _ (by omega) ⟨Ext.setF hE f29, by simp [a2], by simp [a7], by simp [a31, zed], by simp [a32], i + 1, by simp, by omega, rfl, ?_⟩
    simp [zD, hmm, hB']
  · have : i = E.length := by omega
    subst this
    rw [List.take_length] at hmm
    generalize E.foldl (fun b e => zbO b e by_) T.b = B at hmm ⊢
    have FF := fI @a2 (fI @a7 (fI @a31 (fI @a32 @a33))); refine gxC ?_; clear FF
    refine zbG (x := .rp ⟨29, σ.nx 29, 3⟩ 0 0) (.inr rfl) hE ?_ ?_
    · simp
    · simp [z0, zr, f29, hmm]
def zf0 (T : Option Tab) (r : Rg) : Option Tab × Int := if r.hi < r.lo then (none, 51) else if 500 ≤ (T.getD zW).n then (none, 41) else (some ((T.getD zW).with_ r 1), 0)
theorem zkY (T : Option Tab) (r : Rg) (h : r.lo ≤ r.hi → (T.getD zW).n < 500 → WithOK (T.getD zW) r 1) : PCalls Tryz.prog 44 [za1 T, zp r] (.tup [za1 (zf0 T r).1, .raw (.int .i64 (zf0 T r).2)]) := by
  have ho := zfA T
  unfold zf0
  refine zE Tryz.func44 rfl (N := 23) rfl rfl (by simp) (by simp [noIds]) fun σ => ?_
  by_cases q1 : r.hi < r.lo
  · rw [if_pos q1]
    rw [zep] at ho
    (try ((first | with_reducible refine zs ?_ | with_reducible refine zx ?_ | with_reducible refine zy ?_); simp [-cellOK, rg_cells, rg_fold, q1, za1])); repeat' (first | ((first | refine zm ?_ | refine zl ?_ | refine dN (by decide +kernel) ?_ | refine dC (by decide +kernel) ?_ | refine uP (ho) ?_ | refine .inl ⟨_, .inl (ho), ?_⟩ | (refine zb ?_ ?_ <;> (intro hg; simp only [hg])) | fail) <;> simp [-cellOK, rg_cells, rg_fold, q1, za1]) | refine zf ?_ | refine zg ?_ | (refine zF ?_; simp only [zG]; try simp) | (refine zq (by simp) ?_; simp) | (refine zam (by simp) (by simp [noIds]) (by repeat (first | assumption | exact Ext.refl _ | refine zK ?_ | refine Ext.setF ?_ (by first | assumption | (simp [za, St.set, zc]; done) | exact zI (by assumption)))) ?_; simp [-cellOK, rg_cells, rg_fold, q1, za1, nsE]) | (refine zd (fun hc => ?_) (fun hc => ?_) <;> try simp at hc) | fail)
  · rw [if_neg q1]
    by_cases q2 : 500 ≤ (T.getD zW).n
    · rw [if_pos q2]
      rw [zep] at ho
      (try ((first | with_reducible refine zs ?_ | with_reducible refine zx ?_ | with_reducible refine zy ?_); simp [-cellOK, rg_cells, rg_fold, q1, q2, za1])); repeat' (first | ((first | refine zm ?_ | refine zl ?_ | refine dN (by decide +kernel) ?_ | refine dC (by decide +kernel) ?_ | refine uP (ho) ?_ | refine .inl ⟨_, .inl (ho), ?_⟩ | (refine zb ?_ ?_ <;> (intro hg; simp only [hg])) | fail) <;> simp [-cellOK, rg_cells, rg_fold, q1, q2, za1]) | refine zf ?_ | refine zg ?_ | (refine zF ?_; simp only [zG]; try simp) | (refine zq (by simp) ?_; simp) | (refine zam (by simp) (by simp [noIds]) (by repeat (first | assumption | exact Ext.refl _ | refine zK ?_ | refine Ext.setF ?_ (by first | assumption | (simp [za, St.set, zc]; done) | exact zI (by assumption)))) ?_; simp [-cellOK, rg_cells, rg_fold, q1, q2, za1, nsE]) | (refine zd (fun hc => ?_) (fun hc => ?_) <;> try simp at hc) | fail)
    · rw [if_neg q2]
      have hw := zn3 (T.getD zW) r 1 (h (by omega) (by omega))
      generalize (T.getD zW).with_ r 1 = U at hw ⊢
      rw [zep (T.getD zW)] at ho hw
      (try ((first | with_reducible refine zs ?_ | with_reducible refine zx ?_ | with_reducible refine zy ?_); simp [-cellOK, rg_cells, rg_fold, q1, q2, za1])); repeat' (first | ((first | refine zm ?_ | refine zl ?_ | refine dN (by decide +kernel) ?_ | refine dC (by decide +kernel) ?_ | refine uP (ho) ?_ | refine .inl ⟨_, .inl (ho), ?_⟩ | refine uP (hw) ?_ | refine .inl ⟨_, .inl (hw), ?_⟩ | (refine zb ?_ ?_ <;> (intro hg; simp only [hg])) | fail) <;> simp [-cellOK, rg_cells, rg_fold, q1, q2, za1]) | refine zf ?_ | refine zg ?_ | (refine zF ?_; simp only [zG]; try simp) | (refine zq (by simp) ?_; simp) | (refine zam (by simp) (by simp [noIds]) (by repeat (first | assumption | exact Ext.refl _ | refine zK ?_ | refine Ext.setF ?_ (by first | assumption | (simp [za, St.set, zc]; done) | exact zI (by assumption)))) ?_; simp [-cellOK, rg_cells, rg_fold, q1, q2, za1, nsE]) | (refine zd (fun hc => ?_) (fun hc => ?_) <;> try simp at hc) | fail)
def zuo (T : Option Tab) (r : Rg) : Int := ((T.getD zW).g.get (zc7 r)).getD 0
def zta (T : Option Tab) (r : Rg) : Option Tab × Int := if zuo T r = 0 then (none, 51) else (some ((T.getD zW).with_ r (-1)), 0)
def zgU (T : Option Tab) (i : Int) : Option Rg := ((T.getD zW).b.atI i).map fun p => ⟨IntKind.u32.wrap p.1, IntKind.u32.wrap (match (T.getD zW).b.atI (i + 1) with | some q => IntKind.u64.wrap (q.1 - 1) | none => 4294967295)⟩
theorem zjD (T : Option Tab) (i : Int) (hz : (T.getD zW).b.sz < 2 ^ 40) : PCalls Tryz.prog 46 [za1 T, .raw (.int .i64 i)] (.tup [zp ((zgU T i).getD ⟨0, 0⟩), .raw (.bool (zgU T i).isSome)]) := by
  have ho := zfA T
  have h1 := zjB (T.getD zW).b i (by omega)
  have h2 := zjB (T.getD zW).b (i + 1) (by omega)
  rw [zep] at ho
  unfold zgU
  have hrp : ∀ x y : Int, setPart (AV.agg [.raw (.int .u32 0), .raw (.int .u32 0)]) 0 [.raw (.int .u32 x), .raw (.int .u32 y)] = zp ⟨x, y⟩ := fun _ _ => rfl
  have hrf : ∀ x y : Int, AV.agg [.raw (.int .u32 x), .raw (.int .u32 y)] = zp ⟨x, y⟩ := fun _ _ => rfl
  have hrq : ∀ x y : Int, setPart (zp ⟨0, 0⟩) 0 [.raw (.int .u32 x), .raw (.int .u32 y)] = zp ⟨x, y⟩ := fun _ _ => rfl
  refine zE Tryz.func46 rfl (N := 43) rfl rfl (by simp) (by simp [noIds]) fun σ => ?_
  cases hq : (T.getD zW).b.atI i with
  | none =>
    rw [hq] at h1
    (try ((first | with_reducible refine zs ?_ | with_reducible refine zx ?_ | with_reducible refine zy ?_); simp [-cellOK, rg_cells, hrf, hrq, hrp, zaj, zao, zbY, zbL, za1])); repeat' (first | ((first | refine zm ?_ | refine zl ?_ | refine dN (by decide +kernel) ?_ | refine dC (by decide +kernel) ?_ | refine uP (ho) ?_ | refine .inl ⟨_, .inl (ho), ?_⟩ | refine uP (h1) ?_ | refine .inl ⟨_, .inl (h1), ?_⟩ | (refine zb ?_ ?_ <;> (intro hg; simp only [hg])) | fail) <;> simp [-cellOK, rg_cells, hrf, hrq, hrp, zaj, zao, zbY, zbL, za1]) | refine zf ?_ | refine zg ?_ | (refine zF ?_; simp only [zG]; try simp) | (refine zq (by simp) ?_; simp) | (refine zam (by simp) (by simp [noIds]) (by repeat (first | assumption | exact Ext.refl _ | refine zK ?_ | refine Ext.setF ?_ (by first | assumption | (simp [za, St.set, zc]; done) | exact zI (by assumption)))) ?_; simp [-cellOK, rg_cells, hrf, hrq, hrp, zaj, zao, zbY, zbL, za1, nsE]) | (refine zd (fun hc => ?_) (fun hc => ?_) <;> try simp at hc) | fail)
  | some p =>
    rw [hq] at h1
    have hi : 0 ≤ i ∧ i < (T.getD zW).b.sz := by
      unfold Tr.atI at hq
      split at hq
      · rename_i h0
        refine ⟨h0, ?_⟩
        apply Classical.byContradiction
        intro hn
        rw [Tr.at_none _ _ (by omega)] at hq; cases hq
      · cases hq
    have w := zo (n := i + 1) (by omega) (by omega)
    cases hq2 : (T.getD zW).b.atI (i + 1) with
    | none =>
      rw [hq2] at h2
      (try ((first | with_reducible refine zs ?_ | with_reducible refine zx ?_ | with_reducible refine zy ?_); simp [-cellOK, rg_cells, hrf, hrq, hrp, zaj, zao, zbY, zbL, za1, w])); repeat' (first | ((first | refine zm ?_ | refine zl ?_ | refine dN (by decide +kernel) ?_ | refine dC (by decide +kernel) ?_ | refine uP (ho) ?_ | refine .inl ⟨_, .inl (ho), ?_⟩ | refine uP (h1) ?_ | refine .inl ⟨_, .inl (h1), ?_⟩ | refine uP (h2) ?_ | refine .inl ⟨_, .inl (h2), ?_⟩ | (refine zb ?_ ?_ <;> (intro hg; simp only [hg])) | fail) <;> simp [-cellOK, rg_cells, hrf, hrq, hrp, zaj, zao, zbY, zbL, za1, w]) | refine zf ?_ | refine zg ?_ | (refine zF ?_; simp only [zG]; try simp) | (refine zq (by simp) ?_; simp) | (refine zam (by simp) (by simp [noIds]) (by repeat (first | assumption | exact Ext.refl _ | refine zK ?_ | refine Ext.setF ?_ (by first | assumption | (simp [za, St.set, zc]; done) | exact zI (by assumption)))) ?_; simp [-cellOK, rg_cells, hrf, hrq, hrp, zaj, zao, zbY, zbL, za1, w, nsE]) | (refine zd (fun hc => ?_) (fun hc => ?_) <;> try simp at hc) | fail)
    | some q =>
      rw [hq2] at h2
      (try ((first | with_reducible refine zs ?_ | with_reducible refine zx ?_ | with_reducible refine zy ?_); simp [-cellOK, rg_cells, hrf, hrq, hrp, zaj, zao, zbY, zbL, za1, w])); repeat' (first | ((first | refine zm ?_ | refine zl ?_ | refine dN (by decide +kernel) ?_ | refine dC (by decide +kernel) ?_ | refine uP (ho) ?_ | refine .inl ⟨_, .inl (ho), ?_⟩ | refine uP (h1) ?_ | refine .inl ⟨_, .inl (h1), ?_⟩ | refine uP (h2) ?_ | refine .inl ⟨_, .inl (h2), ?_⟩ | (refine zb ?_ ?_ <;> (intro hg; simp only [hg])) | fail) <;> simp [-cellOK, rg_cells, hrf, hrq, hrp, zaj, zao, zbY, zbL, za1, w]) | refine zf ?_ | refine zg ?_ | (refine zF ?_; simp only [zG]; try simp) | (refine zq (by simp) ?_; simp) | (refine zam (by simp) (by simp [noIds]) (by repeat (first | assumption | exact Ext.refl _ | refine zK ?_ | refine Ext.setF ?_ (by first | assumption | (simp [za, St.set, zc]; done) | exact zI (by assumption)))) ?_; simp [-cellOK, rg_cells, hrf, hrq, hrp, zaj, zao, zbY, zbL, za1, w, nsE]) | (refine zd (fun hc => ?_) (fun hc => ?_) <;> try simp at hc) | fail)
def zeQ (T : Tab) (b : Int) : Int := (T.b.cut b).1.sz
theorem zm9 (T : Tab) (b : Int) (hz : T.b.sz < 2 ^ 40) : PCalls Tryz.prog 76 [zdi T, .raw (.int .u64 b)] (.raw (.int .i64 (zeQ T b))) := by
  have hs := zlm T.b b (by omega)
  have hl := zc4 (T.b.cut b).1
  unfold zeQ
  generalize (T.b.cut b).1 = U at hs hl ⊢
  generalize (T.b.cut b).2 = V at hs
  rw [zep]
  refine zE Tryz.func76 rfl (N := 18) rfl rfl (by simp) (by simp [noIds]) fun σ => ?_
  exact zme
def ofT (T : Option Tab) (a : Int) : Int := zeQ (T.getD zW) (a + 1) - 1
theorem zeD (T : Option Tab) (a : Int) (h0 : 0 ≤ a) (h1 : a < 4294967296) (hz : (T.getD zW).b.sz < 2 ^ 40) : PCalls Tryz.prog 45 [za1 T, .raw (.int .u32 a)] (.raw (.int .i64 (ofT T a))) := by
  have ho := zfA T
  have hp := zm9 (T.getD zW) (a + 1) hz
  have hpn : 0 ≤ zeQ (T.getD zW) (a + 1) := Tr.sz_nn _
  have hpz : zeQ (T.getD zW) (a + 1) < 2 ^ 40 := by
    have := Tr.cut_sz (a + 1) (T.getD zW).b
    have h2 := ((T.getD zW).b.cut (a + 1)).2.sz_nn
    unfold zeQ; omega
  unfold ofT
  generalize zeQ (T.getD zW) (a + 1) = x at *
  have w1 : IntKind.u64.wrap a = a := zbo (by omega) (by omega)
  have w2 : IntKind.u64.wrap (a + 1) = a + 1 := zbo (by omega) (by omega)
  have w3 := zo (n := x - 1) (by omega) (by omega)
  refine zE Tryz.func45 rfl (N := 12) rfl rfl (by simp) (by simp [noIds]) fun σ => ?_
  have FF := fI @w1 (fI @w2 @w3); exact gxA
end Go.Proofs.YtpboabpapgimoaaGreat.Av
namespace Go.Proofs.YtpboabpapgimoaaGreat.Av
set_option linter.unusedSimpArgs false
set_option linter.unusedVariables false
theorem zeq {α : Type} [DecidableEq α] : ∀ {l m : List α}, l.Nodup → (∀ x ∈ l, x ∈ m) → l.length ≤ m.length
  | [], _, _, _ => by simp
  | a :: l, m, h, hs => by
    have h' := List.nodup_cons.1 h
    have := zeq (m := m.erase a) h'.2 fun x hx => by
      have hne : x ≠ a := fun e => h'.1 (e ▸ hx)
      exact (List.mem_erase_of_ne hne).2 (hs x (by simp [hx]))
    have hl := List.length_erase_of_mem (hs a (by simp))
    have hpos : 0 < m.length := List.length_pos_of_mem (hs a (by simp))
    simp only [List.length_cons]
    omega
def zeW (n : Nat) : Option Int := if n = 0 then none else some n
theorem zoX (n : Nat) : (zeW n).getD 0 = n := by
  unfold zeW
  split
  · rename_i h; subst h; rfl
  · rfl
theorem zoY (n : Nat) : zeW n = none ↔ n = 0 := by
  unfold zeW
  split
  · rename_i h; simp [h]
  · rename_i h; simp [h]
structure KeyRep (t : Tr) (l : List Int) : Prop where
  srt : Tr.Srt t.toL
  get : ∀ k, t.get k = zeW (l.count k)
theorem KeyRep.mem {t : Tr} {l : List Int} (h : KeyRep t l) (k : Int) : k ∈ t.toL.map (·.1) ↔ k ∈ l := by
  have := Tr.get_none h.srt k
  rw [h.get, zoY, List.count_eq_zero] at this
  constructor
  · intro hk
    apply Classical.byContradiction
    intro hn
    exact this.1 hn hk
  · intro hk
    apply Classical.byContradiction
    intro hn
    exact this.2 hn hk
theorem Tr.Srt.nodup {l : List (Int × Int)} (h : Tr.Srt l) : (l.map (·.1)).Nodup := by
  unfold Tr.Srt at h
  unfold List.Nodup
  rw [List.pairwise_map]
  exact h.imp fun hab => by omega
theorem KeyRep.sz {t : Tr} {l : List Int} (h : KeyRep t l) : t.sz ≤ l.length := by
  have := zeq h.srt.nodup fun x hx => (h.mem x).1 hx
  rw [Tr.sz_toL]
  simp at this
  omega
theorem KeyRep.perm {t : Tr} {l m : List Int} (h : KeyRep t l) (p : l.Perm m) : KeyRep t m := ⟨h.srt, fun k => by rw [h.get, p.count_eq]⟩
theorem KeyRep.more {t : Tr} {l : List Int} (h : KeyRep t l) (k : Int) (hl : l.length < 1024) : MoreOK t k 1 ∧ KeyRep (zbO t k 1) (k :: l) := by
  have hs := h.sz
  have hc := List.count_le_length (a := k) (l := l)
  have hg : (t.get k).getD 0 = (l.count k : Nat) := by rw [h.get, zoX]
  have hne : ¬ (t.get k).getD 0 + 1 = 0 := by omega
  refine ⟨⟨by omega, by omega, by omega, fun e => absurd e hne, fun _ => by omega⟩, ?_⟩
  unfold zbO
  rw [if_neg hne]
  refine ⟨by rw [Tr.with_toL t _ _ h.srt]; exact Tr.put_srt h.srt _ _, fun k2 => ?_⟩
  rw [Tr.get_with h.srt, List.count_cons, hg]
  by_cases e : k2 = k
  · subst e
    rw [if_pos rfl]
    unfold zeW
    simp
  · rw [if_neg e, h.get]
    have : (k == k2) = false := by simp; omega
    simp [this]
theorem Tr.get_without {t : Tr} (h : Tr.Srt t.toL) (k k2 : Int) : (t.without k).get k2 = if k2 = k then none else t.get k2 := by
  have hs : Tr.Srt (t.without k).toL := by rw [Tr.without_toL t k h]; exact h.filter _
  rw [Tr.get_eq _ _ hs, Tr.without_toL t k h, Tr.get_eq _ _ h, List.find?_filter]
  by_cases e : k2 = k
  · subst e
    rw [if_pos rfl]
    have : t.toL.find? (fun a => decide ((!decide (a.1 = k2)) = true ∧ decide (a.1 = k2) = true)) = none := List.find?_eq_none.2 fun e he => by simp
    rw [this]; rfl
  · rw [if_neg e]
    congr 2
    funext a
    by_cases q : a.1 = k2
    · have : ¬ a.1 = k := by omega
      simp [q]; omega
    · simp [q]
theorem KeyRep.less {t : Tr} {l : List Int} {k : Int} (h : KeyRep t (k :: l)) (hl : l.length < 2 ^ 30) : MoreOK t k (-1) ∧ KeyRep (zbO t k (-1)) l := by
  have hs := h.sz
  have hc := List.count_le_length (a := k) (l := l)
  have hg0 : t.get k = some ((l.count k : Nat) + 1) := by
    rw [h.get, List.count_cons_self]; unfold zeW; simp
  have hg : (t.get k).getD 0 = (l.count k : Nat) + 1 := by rw [hg0]; rfl
  simp only [List.length_cons] at hs
  refine ⟨⟨by omega, by omega, by omega, fun _ => by simp [hg0], fun e => by simp [hg0] at e⟩, ?_⟩
  unfold zbO
  rw [hg]
  split
  · rename_i h0
    refine ⟨by rw [Tr.without_toL t k h.srt]; exact h.srt.filter _, fun k2 => ?_⟩
    rw [Tr.get_without h.srt, h.get, List.count_cons]
    by_cases e : k2 = k
    · subst e
      rw [if_pos rfl]
      have : l.count k2 = 0 := by omega
      rw [this]; rfl
    · rw [if_neg e]
      have : (k == k2) = false := by simp; omega
      simp [this]
  · rename_i h0
    refine ⟨by rw [Tr.with_toL t _ _ h.srt]; exact Tr.put_srt h.srt _ _, fun k2 => ?_⟩
    rw [Tr.get_with h.srt, h.get, List.count_cons]
    by_cases e : k2 = k
    · subst e
      rw [if_pos rfl]
      have : ¬ l.count k2 = 0 := by omega
      unfold zeW
      rw [if_neg this]
      congr 1; omega
    · rw [if_neg e]
      have : (k == k2) = false := by simp; omega
      simp [this]
def zcB (L : List Rg) : List Int := L.flatMap zb1
structure TabRep (T : Tab) (L : List Rg) : Prop where
  b : KeyRep T.b (0 :: zcB L)
  g : KeyRep T.g (L.map zc7)
  n : T.n = L.length
  ok : ∀ r ∈ L, RgOK r
theorem zki : TabRep zW [] where
  b := ⟨by simp [zW, Tr.toL, Tr.Srt], fun k => by
    simp only [zW, Tr.get, zcB, List.flatMap_nil]
    by_cases h1 : k < 0
    · have : ((0 : Int) == k) = false := by simp; omega
      simp [h1, List.count_cons, this, zeW]
    · by_cases h2 : 0 < k
      · have : ((0 : Int) == k) = false := by simp; omega
        simp [h1, h2, List.count_cons, this, zeW]
      · have : k = 0 := by omega
        subst this; simp [zeW]⟩
  g := ⟨by simp [zW, Tr.toL, Tr.Srt], fun k => by simp [zW, Tr.get, zeW]⟩
  n := rfl
  ok := by simp
theorem zkZ (r : Rg) : (zb1 r).length ≤ 2 := by unfold zb1; split <;> simp
theorem zfO (L : List Rg) : (zcB L).length ≤ 2 * L.length := by
  induction L with
  | nil => simp [zcB]
  | cons r L ih =>
    have := zkZ r
    simp only [zcB, List.flatMap_cons, List.length_append, List.length_cons] at ih ⊢
    omega
theorem zk0 : ∀ (E : List Int) {t : Tr} {l : List Int}, KeyRep t l → l.length + E.length < 1024 →
    KeyRep (E.foldl (fun b e => zbO b e 1) t) (E ++ l) ∧ ∀ (i : Nat) (e : Int), E[i]? = some e → MoreOK ((E.take i).foldl (fun b e => zbO b e 1) t) e 1
  | [], t, l, h, _ => ⟨h, fun i e he => by simp at he⟩
  | x :: E, t, l, h, hl => by
    simp only [List.length_cons] at hl
    obtain ⟨h1, h2⟩ := h.more x (by omega)
    obtain ⟨h3, h4⟩ := zk0 E h2 (by simp only [List.length_cons]; omega)
    refine ⟨h3.perm ?_, fun i e he => ?_⟩
    · exact List.perm_middle
    · cases i with
      | zero => simp only [List.getElem?_cons_zero, Option.some.injEq] at he; subst he; exact h1
      | succ i => exact h4 i e (by simpa using he)
theorem znq {T : Tab} {L : List Rg} (h : TabRep T L) {r : Rg} (hr : RgOK r) (hl : L.length < 500) : WithOK T r 1 ∧ TabRep (T.with_ r 1) (r :: L) := by
  have he := zfO L
  have hr2 := zkZ r
  obtain ⟨g1, g2⟩ := h.g.more (zc7 r) (by simp only [List.length_map]; omega)
  obtain ⟨b1, b2⟩ := zk0 (zb1 r) h.b (by simp only [List.length_cons]; omega)
  have hn := h.n
  refine ⟨⟨hr, by omega, by omega, g1, b2⟩, ⟨?_, g2, ?_, ?_⟩⟩
  · refine b1.perm ?_
    simp only [zcB, List.flatMap_cons]
    exact List.perm_middle
  · show T.n + 1 = _
    simp only [List.length_cons]; omega
  · intro x hx
    rcases List.mem_cons.1 hx with rfl | hx
    · exact hr
    · exact h.ok x hx
theorem TabRep.perm {T : Tab} {L M : List Rg} (h : TabRep T L) (p : L.Perm M) : TabRep T M where
  b := h.b.perm ((p.flatMap_right zb1).cons 0)
  g := h.g.perm (p.map zc7)
  n := by rw [h.n, p.length_eq]
  ok := fun r hr => h.ok r (p.mem_iff.2 hr)
structure Cuts (c : List Int) (L : List Rg) : Prop where
  srt : c.Pairwise (· < ·)
  mem : ∀ x, x ∈ c ↔ x = 0 ∨ ∃ r ∈ L, x ∈ zb1 r
theorem zf1 : ∀ {c d : List Int}, c.Pairwise (· < ·) → d.Pairwise (· < ·) → (∀ x, x ∈ c ↔ x ∈ d) → c = d
  | [], [], _, _, _ => rfl
  | [], y :: d, _, _, h => by have := (h y).2 (by simp); simp at this
  | x :: c, [], _, _, h => by have := (h x).1 (by simp); simp at this
  | x :: c, y :: d, hc, hd, h => by
    obtain ⟨h1, h2⟩ := List.pairwise_cons.1 hc
    obtain ⟨h3, h4⟩ := List.pairwise_cons.1 hd
    have hxy : x = y := by
      rcases List.mem_cons.1 ((h x).1 (by simp)) with e | e
      · exact e
      · rcases List.mem_cons.1 ((h y).2 (by simp)) with e2 | e2
        · exact e2.symm
        · have := h1 y e2; have := h3 x e; omega
    subst hxy
    congr 1
    refine zf1 h2 h4 fun z => ?_
    constructor
    · intro hz
      rcases List.mem_cons.1 ((h z).1 (by simp [hz])) with e | e
      · subst e; have := h1 z hz; omega
      · exact e
    · intro hz
      rcases List.mem_cons.1 ((h z).2 (by simp [hz])) with e | e
      · subst e; have := h3 z hz; omega
      · exact e
def zeE (T : Tab) : List Int := T.b.toL.map (·.1)
theorem ziM {T : Tab} {L : List Rg} (h : TabRep T L) : Cuts (zeE T) L where
  srt := by
    have := h.b.srt
    unfold zeE
    rw [List.pairwise_map]
    exact this
  mem := fun x => by
    unfold zeE
    rw [h.b.mem, List.mem_cons]
    simp only [zcB, List.mem_flatMap]
theorem zoZ {r : Rg} (hr : RgOK r) {x : Int} (hx : x ∈ zb1 r) : 0 ≤ x ∧ x < 4294967296 := by
  obtain ⟨a1, a2, a3, a4⟩ := hr
  unfold zb1 at hx
  split at hx
  · simp only [List.mem_cons, List.not_mem_nil, or_false] at hx; omega
  · simp only [List.mem_cons, List.not_mem_nil, or_false] at hx; omega
theorem Cuts.range {c : List Int} {L : List Rg} (h : Cuts c L) (ok : ∀ r ∈ L, RgOK r) {x : Int} (hx : x ∈ c) : 0 ≤ x ∧ x < 4294967296 := by
  rcases (h.mem x).1 hx with rfl | ⟨r, hr, hx⟩
  · omega
  · exact zoZ (ok r hr) hx
def zaE : List Int → List Rg
  | [] => []
  | [x] => [⟨x, 4294967295⟩]
  | x :: y :: l => ⟨x, y - 1⟩ :: zaE (y :: l)
theorem zcx : ∀ c : List Int, (zaE c).length = c.length
  | [] => rfl
  | [x] => rfl
  | x :: y :: l => by simp only [zaE, List.length_cons, zcx (y :: l)]
theorem zdt : ∀ (c : List Int) (i : Nat), (zaE c)[i]? = (c[i]?).map fun x => ⟨x, match c[i + 1]? with | some y => y - 1 | none => 4294967295⟩
  | [], i => by simp [zaE]
  | [x], 0 => by simp [zaE]
  | [x], i + 1 => by simp [zaE]
  | x :: y :: l, 0 => by simp [zaE]
  | x :: y :: l, i + 1 => by simp only [zaE, List.getElem?_cons_succ, zdt (y :: l) i]
def zbu (r a : Rg) : Option Rg := if max a.lo r.lo ≤ min a.hi r.hi then some ⟨max a.lo r.lo, min a.hi r.hi⟩ else none
def zee (c : List Int) (r : Rg) : List Rg := (zaE c).filterMap (zbu r)
theorem zgV {c : List Int} (h : c.Pairwise (· < ·)) (a : Int) : ∀ (i : Nat) (x : Int), c[i]? = some x → (x ≤ a ↔ i < c.countP fun y => decide (y ≤ a)) := by
  induction c with
  | nil => intro i x hx; simp at hx
  | cons y c ih =>
    obtain ⟨h1, h2⟩ := List.pairwise_cons.1 h
    intro i x hx
    cases i with
    | zero =>
      simp only [List.getElem?_cons_zero, Option.some.injEq] at hx
      subst hx
      rw [List.countP_cons]
      by_cases q : y ≤ a
      · simp [q]
      · have : c.countP (fun y => decide (y ≤ a)) = 0 := List.countP_eq_zero.2 fun z hz => by have := h1 z hz; simp; omega
        simp [q, this]
    | succ i =>
      simp only [List.getElem?_cons_succ] at hx
      have := ih h2 i x hx
      rw [List.countP_cons]
      by_cases q : y ≤ a
      · simp only [q, decide_true, if_true]; rw [this]; omega
      · have h3 := h1 x (List.mem_of_getElem? hx)
        have : c.countP (fun y => decide (y ≤ a)) = 0 := List.countP_eq_zero.2 fun z hz => by have := h1 z hz; simp; omega
        rw [this]
        simp only [q, decide_false, Bool.false_eq_true, if_false]
        omega
end Go.Proofs.YtpboabpapgimoaaGreat.Av
namespace Go.Proofs.YtpboabpapgimoaaGreat.Av
set_option linter.unusedSimpArgs false
set_option linter.unusedVariables false
def zc5 (n : Nw) (p : Pt) : Int := ((zbS n.t p).getD ⟨0, 0⟩).dev
def zcC (n : Nw) (a : Int) : Nat → Int → List Int → Tk
  | 0, _, p => ⟨p, 4, ⟨0, 0⟩⟩
  | f + 1, d, p => if d ∈ p then ⟨p ++ [d], 4, ⟨0, 0⟩⟩ else if (zap n d a).1 = 4 then zcC n a f (zc5 n (zap n d a).2) (p ++ [d]) else ⟨p ++ [d], (zap n d a).1, (zap n d a).2⟩
def zgW (n : Nw) (d : Int) : List Int := d :: n.t.links.flatMap fun l => [l.a.dev, l.b.dev]
theorem zo0 (n : Nw) (d : Int) : (zgW n d).length = 1 + 2 * n.t.links.length := by
  unfold zgW
  generalize n.t.links = L
  induction L with
  | nil => rfl
  | cons l L ih => simp only [List.flatMap_cons, List.length_cons, List.length_append, List.length_nil] at ih ⊢; omega
def zcg (n : Nw) (d a : Int) : Tk := zcC n a (2 + 2 * n.t.links.length) d []
theorem zn4 (L : List Lk) : ∀ e ∈ zb8 L, ∃ l ∈ L, e.2 = l.a ∨ e.2 = l.b := by
  have : ∀ (L M : List Lk) (m : List (Pt × Pt)), (∀ e ∈ m, ∃ l ∈ M, e.2 = l.a ∨ e.2 = l.b) → ∀ e ∈ L.foldl (fun m l => upd (upd m l.a l.b) l.b l.a) m, ∃ l ∈ M ++ L, e.2 = l.a ∨ e.2 = l.b := by
    intro L
    induction L with
    | nil => intro M m h e he; simpa using h e he
    | cons l L ih =>
      intro M m h e he
      rw [List.foldl_cons] at he
      have := ih (M ++ [l]) (upd (upd m l.a l.b) l.b l.a) ?_ e he
      · simpa using this
      · intro e he
        unfold upd at he
        rcases List.mem_append.1 he with he | he
        · rcases List.mem_append.1 (List.mem_filter.1 he).1 with he | he
          · obtain ⟨k, hk, h2⟩ := h e (List.mem_filter.1 he).1
            exact ⟨k, by simp [hk], h2⟩
          · simp only [List.mem_singleton] at he; subst he
            exact ⟨l, by simp, .inr rfl⟩
        · simp only [List.mem_singleton] at he; subst he
          exact ⟨l, by simp, .inl rfl⟩
  have := this L [] [] (by simp)
  rw [List.nil_append] at this
  exact this
theorem zna {n : Nw} {p : Pt} {d : Int} (h : (zbS n.t p).isSome = true) : zc5 n p ∈ zgW n d := by
  unfold zc5
  obtain ⟨q, hq⟩ := Option.isSome_iff_exists.1 h
  rw [hq]
  unfold zbS at hq
  rw [Option.map_eq_some_iff] at hq
  obtain ⟨e, he, rfl⟩ := hq
  obtain ⟨l, hl, h2⟩ := zn4 _ e (List.mem_of_find?_eq_some he)
  unfold zgW
  rw [List.mem_cons, List.mem_flatMap]
  right
  refine ⟨l, hl, ?_⟩
  rcases h2 with h2 | h2 <;> simp [h2]
theorem zo1 {n : Nw} {d a : Int} (h : (zap n d a).1 = 4) : (zbS n.t (zap n d a).2).isSome = true := by
  unfold zap at *
  repeat' split at h
  all_goals first | (simp at h; done) | skip
  rename_i h1 h2 h3 h4
  simp [h1, h2, h3, h4]
structure Way (n : Nw) (a d0 : Int) (d : Int) (p : List Int) : Prop where
  nd : p.Nodup
  sub : ∀ x ∈ p, x ∈ zgW n d0
  at_ : d ∈ zgW n d0
  res : zcC n a (2 + 2 * n.t.links.length - p.length) d p = zcg n d0 a
theorem Way.len {n : Nw} {a d0 d : Int} {p : List Int} (h : Way n a d0 d p) : p.length ≤ 1 + 2 * n.t.links.length := by
  have := zeq h.nd h.sub
  rwa [zo0] at this
theorem Way.start (n : Nw) (a d0 : Int) : Way n a d0 d0 [] := ⟨by simp, by simp, by simp [zgW], rfl⟩
theorem Way.again {n : Nw} {a d0 d : Int} {p : List Int} (h : Way n a d0 d p) (hd : d ∈ p) : zcg n d0 a = ⟨p ++ [d], 4, ⟨0, 0⟩⟩ := by
  have hl := h.len
  have hr := h.res
  rw [show 2 + 2 * n.t.links.length - p.length = (1 + 2 * n.t.links.length - p.length) + 1 by omega, zcC, if_pos hd] at hr
  exact hr.symm
theorem Way.fin {n : Nw} {a d0 d : Int} {p : List Int} (h : Way n a d0 d p) (hd : d ∉ p) (hs : (zap n d a).1 ≠ 4) : zcg n d0 a = ⟨p ++ [d], (zap n d a).1, (zap n d a).2⟩ := by
  have hl := h.len
  have hr := h.res
  rw [show 2 + 2 * n.t.links.length - p.length = (1 + 2 * n.t.links.length - p.length) + 1 by omega, zcC, if_neg hd, if_neg hs] at hr
  exact hr.symm
theorem Way.on {n : Nw} {a d0 d : Int} {p : List Int} (h : Way n a d0 d p) (hd : d ∉ p) (hs : (zap n d a).1 = 4) : Way n a d0 (zc5 n (zap n d a).2) (p ++ [d]) := by
  have hl := h.len
  have hr := h.res
  rw [show 2 + 2 * n.t.links.length - p.length = (1 + 2 * n.t.links.length - p.length) + 1 by omega, zcC, if_neg hd, if_pos hs] at hr
  refine ⟨?_, ?_, zna (zo1 hs), ?_⟩
  · rw [List.nodup_append]
    refine ⟨h.nd, by simp, fun x hx y hy e => ?_⟩
    simp only [List.mem_singleton] at hy
    subst hy; subst e; exact hd hx
  · intro x hx
    rcases List.mem_append.1 hx with hx | hx
    · exact h.sub x hx
    · simp only [List.mem_singleton] at hx; subst hx; exact h.at_
  · rw [List.length_append, List.length_singleton, ← hr]
    congr 1; omega
end Go.Proofs.YtpboabpapgimoaaGreat.Av
