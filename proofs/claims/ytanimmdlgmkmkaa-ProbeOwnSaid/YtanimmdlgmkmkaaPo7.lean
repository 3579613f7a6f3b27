/- Probe: ProbeOwn Part 7 of 15: AvTy, AvN1, AvN3, AvN12, AvN8, AvN9, AvN13, AvN14, AvN17, AvN22, AvN2, AvN4, AvN5, AvN7, AvN11, AvT1, AvN6, AvN10, AvT2. -/
import Derived.Test.YtanimmdlgmkmkaaPo6
import Derived.Test.YtanimmdlgmkmkaaProg

/- The facts on this program's types and functions that the abstract layer asks for. -/
namespace Go.Proofs.Ytanimmdlgmkmkaa.Av
set_option linter.unusedSimpArgs false
set_option linter.unusedVariables false
open Go

@[simp] theorem tsz1 : tsz Try.prog 1 = some 1 := by kernel_rfl
@[simp] theorem tby1 : tbytes Try.prog 1 = some 8 := by kernel_rfl
@[simp] theorem tze1 : tzero Try.prog 1 = some .nilFunc := by kernel_rfl
@[simp] theorem tag1 : tagg Try.prog 1 = some false := by simp [tagg, Try.underlying1]
@[simp] theorem arr1 : arrOf Try.prog 1 = none := by simp [arrOf, Try.underlying1]
@[simp] theorem tsz3 : tsz Try.prog 3 = some 1 := by kernel_rfl
@[simp] theorem tby3 : tbytes Try.prog 3 = some 8 := by kernel_rfl
@[simp] theorem tze3 : tzero Try.prog 3 = some (.int .i64 (0)) := by kernel_rfl
@[simp] theorem tag3 : tagg Try.prog 3 = some false := by simp [tagg, Try.underlying3]
@[simp] theorem arr3 : arrOf Try.prog 3 = none := by simp [arrOf, Try.underlying3]
@[simp] theorem uin3 : uint Try.prog 3 = some .i64 := by kernel_rfl
@[simp] theorem pla3 : plainT Try.prog 3 = true := by kernel_rfl
@[simp] theorem tsz4 : tsz Try.prog 4 = some 1 := by kernel_rfl
@[simp] theorem tby4 : tbytes Try.prog 4 = some 1 := by kernel_rfl
@[simp] theorem tze4 : tzero Try.prog 4 = some (.bool false) := by kernel_rfl
@[simp] theorem tag4 : tagg Try.prog 4 = some false := by simp [tagg, Try.underlying4]
@[simp] theorem arr4 : arrOf Try.prog 4 = none := by simp [arrOf, Try.underlying4]
@[simp] theorem ubo4 : ubool Try.prog 4 = true := by kernel_rfl
@[simp] theorem pla4 : plainT Try.prog 4 = true := by kernel_rfl
@[simp] theorem tsz9 : tsz Try.prog 9 = some 1 := by kernel_rfl
@[simp] theorem tby9 : tbytes Try.prog 9 = some 16 := by kernel_rfl
@[simp] theorem tze9 : tzero Try.prog 9 = some (.string ⟨#[]⟩) := by kernel_rfl
@[simp] theorem tag9 : tagg Try.prog 9 = some false := by simp [tagg, Try.underlying9]
@[simp] theorem arr9 : arrOf Try.prog 9 = none := by simp [arrOf, Try.underlying9]
@[simp] theorem ust9 : ustr Try.prog 9 = true := by kernel_rfl
@[simp] theorem pla9 : plainT Try.prog 9 = true := by kernel_rfl
@[simp] theorem tsz22 : tsz Try.prog 22 = some 1 := by kernel_rfl
@[simp] theorem tby22 : tbytes Try.prog 22 = some 24 := by kernel_rfl
@[simp] theorem tze22 : tzero Try.prog 22 = some (.slice none 0 0) := by kernel_rfl
@[simp] theorem tag22 : tagg Try.prog 22 = some false := by simp [tagg, Try.underlying22]
@[simp] theorem arr22 : arrOf Try.prog 22 = none := by simp [arrOf, Try.underlying22]
@[simp] theorem elm22 : elemOf Try.prog 22 = some 3 := by kernel_rfl
@[simp] theorem tsz23 : tsz Try.prog 23 = some 1 := by kernel_rfl
@[simp] theorem tby23 : tbytes Try.prog 23 = some 24 := by kernel_rfl
@[simp] theorem tze23 : tzero Try.prog 23 = some (.slice none 0 0) := by kernel_rfl
@[simp] theorem tag23 : tagg Try.prog 23 = some false := by simp [tagg, Try.underlying23]
@[simp] theorem arr23 : arrOf Try.prog 23 = none := by simp [arrOf, Try.underlying23]
@[simp] theorem elm23 : elemOf Try.prog 23 = some 129 := by kernel_rfl
@[simp] theorem tsz25 : tsz Try.prog 25 = some 2 := by kernel_rfl
@[simp] theorem tby25 : tbytes Try.prog 25 = some 48 := by kernel_rfl
@[simp] theorem tze25 : tzero Try.prog 25 = some (.agg #[(.slice none 0 0), (.slice none 0 0)]) := by kernel_rfl
@[simp] theorem tag25 : tagg Try.prog 25 = some true := by simp [tagg, Try.underlying25]
@[simp] theorem arr25 : arrOf Try.prog 25 = none := by simp [arrOf, Try.underlying25]
@[simp] theorem fsz25 : fieldsSized Try.prog 25 = true := by kernel_rfl
@[simp] theorem wid25 : wideT Try.prog 25 = true := by kernel_rfl
@[simp] theorem fld25_0 : fieldOf Try.prog 25 0 = some (22, 0) := by kernel_rfl
@[simp] theorem fld25_1 : fieldOf Try.prog 25 1 = some (23, 1) := by kernel_rfl
@[simp] theorem fli25 : fieldList Try.prog 25 = some [(22, 0), (23, 1)] := by kernel_rfl
@[simp] theorem eqg25 : Try.prog.eqGuardType Try.prog.depth 25 = false := by kernel_rfl
@[simp] theorem tsz26 : tsz Try.prog 26 = some 1 := by kernel_rfl
@[simp] theorem tby26 : tbytes Try.prog 26 = some 24 := by kernel_rfl
@[simp] theorem tze26 : tzero Try.prog 26 = some (.slice none 0 0) := by kernel_rfl
@[simp] theorem tag26 : tagg Try.prog 26 = some false := by simp [tagg, Try.underlying26]
@[simp] theorem arr26 : arrOf Try.prog 26 = none := by simp [arrOf, Try.underlying26]
@[simp] theorem elm26 : elemOf Try.prog 26 = some 85 := by kernel_rfl
@[simp] theorem tsz28 : tsz Try.prog 28 = some 3 := by kernel_rfl
@[simp] theorem tby28 : tbytes Try.prog 28 = some 72 := by kernel_rfl
@[simp] theorem tze28 : tzero Try.prog 28 = some (.agg #[(.slice none 0 0), (.slice none 0 0), (.slice none 0 0)]) := by kernel_rfl
@[simp] theorem tag28 : tagg Try.prog 28 = some true := by simp [tagg, Try.underlying28]
@[simp] theorem arr28 : arrOf Try.prog 28 = none := by simp [arrOf, Try.underlying28]
@[simp] theorem fsz28 : fieldsSized Try.prog 28 = true := by kernel_rfl
@[simp] theorem wid28 : wideT Try.prog 28 = true := by kernel_rfl
@[simp] theorem fld28_0 : fieldOf Try.prog 28 0 = some (25, 0) := by kernel_rfl
@[simp] theorem fld28_1 : fieldOf Try.prog 28 1 = some (26, 2) := by kernel_rfl
@[simp] theorem fli28 : fieldList Try.prog 28 = some [(25, 0), (26, 2)] := by kernel_rfl
@[simp] theorem eqg28 : Try.prog.eqGuardType Try.prog.depth 28 = false := by kernel_rfl
@[simp] theorem tsz29 : tsz Try.prog 29 = some 6 := by kernel_rfl
@[simp] theorem tby29 : tbytes Try.prog 29 = some 144 := by kernel_rfl
@[simp] theorem tze29 : tzero Try.prog 29 = some (.agg #[(.slice none 0 0), (.slice none 0 0), (.slice none 0 0), (.slice none 0 0), (.slice none 0 0), (.slice none 0 0)]) := by kernel_rfl
@[simp] theorem tag29 : tagg Try.prog 29 = some true := by simp [tagg, Try.underlying29]
@[simp] theorem arr29 : arrOf Try.prog 29 = some (2, 28) := by simp [arrOf, Try.underlying29]
@[simp] theorem tsz31 : tsz Try.prog 31 = some 1 := by kernel_rfl
@[simp] theorem tby31 : tbytes Try.prog 31 = some 4 := by kernel_rfl
@[simp] theorem tze31 : tzero Try.prog 31 = some (.int .u32 (0)) := by kernel_rfl
@[simp] theorem tag31 : tagg Try.prog 31 = some false := by simp [tagg, Try.underlying31]
@[simp] theorem arr31 : arrOf Try.prog 31 = none := by simp [arrOf, Try.underlying31]
@[simp] theorem uin31 : uint Try.prog 31 = some .u32 := by kernel_rfl
@[simp] theorem pla31 : plainT Try.prog 31 = true := by kernel_rfl
@[simp] theorem tsz33 : tsz Try.prog 33 = some 2 := by kernel_rfl
@[simp] theorem tby33 : tbytes Try.prog 33 = some 8 := by kernel_rfl
@[simp] theorem tze33 : tzero Try.prog 33 = some (.agg #[(.int .u32 (0)), (.int .u32 (0))]) := by kernel_rfl
@[simp] theorem tag33 : tagg Try.prog 33 = some true := by simp [tagg, Try.underlying33]
@[simp] theorem arr33 : arrOf Try.prog 33 = none := by simp [arrOf, Try.underlying33]
@[simp] theorem fsz33 : fieldsSized Try.prog 33 = true := by kernel_rfl
@[simp] theorem wid33 : wideT Try.prog 33 = true := by kernel_rfl
@[simp] theorem fld33_0 : fieldOf Try.prog 33 0 = some (31, 0) := by kernel_rfl
@[simp] theorem fld33_1 : fieldOf Try.prog 33 1 = some (31, 1) := by kernel_rfl
@[simp] theorem fli33 : fieldList Try.prog 33 = some [(31, 0), (31, 1)] := by kernel_rfl
@[simp] theorem eqg33 : Try.prog.eqGuardType Try.prog.depth 33 = false := by kernel_rfl
@[simp] theorem tsz35 : tsz Try.prog 35 = some 1 := by kernel_rfl
@[simp] theorem tby35 : tbytes Try.prog 35 = some 8 := by kernel_rfl
@[simp] theorem tze35 : tzero Try.prog 35 = some (.int .i64 (0)) := by kernel_rfl
@[simp] theorem tag35 : tagg Try.prog 35 = some false := by simp [tagg, Try.underlying35]
@[simp] theorem arr35 : arrOf Try.prog 35 = none := by simp [arrOf, Try.underlying35]
@[simp] theorem uin35 : uint Try.prog 35 = some .i64 := by kernel_rfl
@[simp] theorem pla35 : plainT Try.prog 35 = true := by kernel_rfl
@[simp] theorem tsz37 : tsz Try.prog 37 = some 7 := by kernel_rfl
@[simp] theorem tby37 : tbytes Try.prog 37 = some 56 := by kernel_rfl
@[simp] theorem tze37 : tzero Try.prog 37 = some (.agg #[(.int .i64 (0)), (.int .i64 (0)), (.int .i64 (0)), (.int .i64 (0)), (.int .u32 (0)), (.int .u32 (0)), (.string ⟨#[]⟩)]) := by kernel_rfl
@[simp] theorem tag37 : tagg Try.prog 37 = some true := by simp [tagg, Try.underlying37]
@[simp] theorem arr37 : arrOf Try.prog 37 = none := by simp [arrOf, Try.underlying37]
@[simp] theorem fsz37 : fieldsSized Try.prog 37 = true := by kernel_rfl
@[simp] theorem wid37 : wideT Try.prog 37 = true := by kernel_rfl
@[simp] theorem fld37_0 : fieldOf Try.prog 37 0 = some (35, 0) := by kernel_rfl
@[simp] theorem fld37_1 : fieldOf Try.prog 37 1 = some (3, 1) := by kernel_rfl
@[simp] theorem fld37_2 : fieldOf Try.prog 37 2 = some (3, 2) := by kernel_rfl
@[simp] theorem fld37_3 : fieldOf Try.prog 37 3 = some (3, 3) := by kernel_rfl
@[simp] theorem fld37_4 : fieldOf Try.prog 37 4 = some (33, 4) := by kernel_rfl
@[simp] theorem fld37_5 : fieldOf Try.prog 37 5 = some (9, 6) := by kernel_rfl
@[simp] theorem fli37 : fieldList Try.prog 37 = some [(35, 0), (3, 1), (3, 2), (3, 3), (33, 4), (9, 6)] := by kernel_rfl
@[simp] theorem eqg37 : Try.prog.eqGuardType Try.prog.depth 37 = false := by kernel_rfl
@[simp] theorem tsz39 : tsz Try.prog 39 = some 1 := by kernel_rfl
@[simp] theorem tby39 : tbytes Try.prog 39 = some 8 := by kernel_rfl
@[simp] theorem tze39 : tzero Try.prog 39 = some (.int .i64 (0)) := by kernel_rfl
@[simp] theorem tag39 : tagg Try.prog 39 = some false := by simp [tagg, Try.underlying39]
@[simp] theorem arr39 : arrOf Try.prog 39 = none := by simp [arrOf, Try.underlying39]
@[simp] theorem uin39 : uint Try.prog 39 = some .i64 := by kernel_rfl
@[simp] theorem pla39 : plainT Try.prog 39 = true := by kernel_rfl
@[simp] theorem tsz41 : tsz Try.prog 41 = some 2 := by kernel_rfl
@[simp] theorem tby41 : tbytes Try.prog 41 = some 16 := by kernel_rfl
@[simp] theorem tze41 : tzero Try.prog 41 = some (.agg #[(.int .i64 (0)), (.int .i64 (0))]) := by kernel_rfl
@[simp] theorem tag41 : tagg Try.prog 41 = some true := by simp [tagg, Try.underlying41]
@[simp] theorem arr41 : arrOf Try.prog 41 = none := by simp [arrOf, Try.underlying41]
@[simp] theorem fsz41 : fieldsSized Try.prog 41 = true := by kernel_rfl
@[simp] theorem wid41 : wideT Try.prog 41 = true := by kernel_rfl
@[simp] theorem fld41_0 : fieldOf Try.prog 41 0 = some (3, 0) := by kernel_rfl
@[simp] theorem fld41_1 : fieldOf Try.prog 41 1 = some (3, 1) := by kernel_rfl
@[simp] theorem fli41 : fieldList Try.prog 41 = some [(3, 0), (3, 1)] := by kernel_rfl
@[simp] theorem eqg41 : Try.prog.eqGuardType Try.prog.depth 41 = false := by kernel_rfl
@[simp] theorem tsz43 : tsz Try.prog 43 = some 4 := by kernel_rfl
@[simp] theorem tby43 : tbytes Try.prog 43 = some 48 := by kernel_rfl
@[simp] theorem tze43 : tzero Try.prog 43 = some (.agg #[(.slice none 0 0), (.int .i64 (0)), (.int .i64 (0)), (.int .i64 (0))]) := by kernel_rfl
@[simp] theorem tag43 : tagg Try.prog 43 = some true := by simp [tagg, Try.underlying43]
@[simp] theorem arr43 : arrOf Try.prog 43 = none := by simp [arrOf, Try.underlying43]
@[simp] theorem fsz43 : fieldsSized Try.prog 43 = true := by kernel_rfl
@[simp] theorem wid43 : wideT Try.prog 43 = true := by kernel_rfl
@[simp] theorem fld43_0 : fieldOf Try.prog 43 0 = some (22, 0) := by kernel_rfl
@[simp] theorem fld43_1 : fieldOf Try.prog 43 1 = some (39, 1) := by kernel_rfl
@[simp] theorem fld43_2 : fieldOf Try.prog 43 2 = some (41, 2) := by kernel_rfl
@[simp] theorem fli43 : fieldList Try.prog 43 = some [(22, 0), (39, 1), (41, 2)] := by kernel_rfl
@[simp] theorem eqg43 : Try.prog.eqGuardType Try.prog.depth 43 = false := by kernel_rfl
@[simp] theorem tsz45 : tsz Try.prog 45 = some 7 := by kernel_rfl
@[simp] theorem tby45 : tbytes Try.prog 45 = some 72 := by kernel_rfl
@[simp] theorem tze45 : tzero Try.prog 45 = some (.agg #[(.bool false), (.int .i64 (0)), (.int .u32 (0)), (.slice none 0 0), (.int .i64 (0)), (.int .i64 (0)), (.int .i64 (0))]) := by kernel_rfl
@[simp] theorem tag45 : tagg Try.prog 45 = some true := by simp [tagg, Try.underlying45]
@[simp] theorem arr45 : arrOf Try.prog 45 = none := by simp [arrOf, Try.underlying45]
@[simp] theorem fsz45 : fieldsSized Try.prog 45 = true := by kernel_rfl
@[simp] theorem wid45 : wideT Try.prog 45 = true := by kernel_rfl
@[simp] theorem fld45_0 : fieldOf Try.prog 45 0 = some (4, 0) := by kernel_rfl
@[simp] theorem fld45_1 : fieldOf Try.prog 45 1 = some (3, 1) := by kernel_rfl
@[simp] theorem fld45_2 : fieldOf Try.prog 45 2 = some (31, 2) := by kernel_rfl
@[simp] theorem fld45_3 : fieldOf Try.prog 45 3 = some (43, 3) := by kernel_rfl
@[simp] theorem fli45 : fieldList Try.prog 45 = some [(4, 0), (3, 1), (31, 2), (43, 3)] := by kernel_rfl
@[simp] theorem eqg45 : Try.prog.eqGuardType Try.prog.depth 45 = false := by kernel_rfl
@[simp] theorem tsz71 : tsz Try.prog 71 = some 1 := by kernel_rfl
@[simp] theorem tby71 : tbytes Try.prog 71 = some 8 := by kernel_rfl
@[simp] theorem tze71 : tzero Try.prog 71 = some (.pointer none) := by kernel_rfl
@[simp] theorem tag71 : tagg Try.prog 71 = some false := by simp [tagg, Try.underlying71]
@[simp] theorem arr71 : arrOf Try.prog 71 = none := by simp [arrOf, Try.underlying71]
@[simp] theorem upt71 : uptr Try.prog 71 = true := by kernel_rfl
@[simp] theorem tsz77 : tsz Try.prog 77 = some 14 := by kernel_rfl
@[simp] theorem tby77 : tbytes Try.prog 77 = some 112 := by kernel_rfl
@[simp] theorem tze77 : tzero Try.prog 77 = some (.agg #[(.int .i64 (0)), (.int .i64 (0)), (.int .i64 (0)), (.int .i64 (0)), (.int .u32 (0)), (.int .u32 (0)), (.string ⟨#[]⟩), (.int .i64 (0)), (.int .i64 (0)), (.int .i64 (0)), (.int .i64 (0)), (.int .u32 (0)), (.int .u32 (0)), (.string ⟨#[]⟩)]) := by kernel_rfl
@[simp] theorem tag77 : tagg Try.prog 77 = some true := by simp [tagg, Try.underlying77]
@[simp] theorem arr77 : arrOf Try.prog 77 = some (2, 37) := by simp [arrOf, Try.underlying77]
@[simp] theorem tsz83 : tsz Try.prog 83 = some 1 := by kernel_rfl
@[simp] theorem tby83 : tbytes Try.prog 83 = some 8 := by kernel_rfl
@[simp] theorem tze83 : tzero Try.prog 83 = some (.int .i64 (0)) := by kernel_rfl
@[simp] theorem tag83 : tagg Try.prog 83 = some false := by simp [tagg, Try.underlying83]
@[simp] theorem arr83 : arrOf Try.prog 83 = none := by simp [arrOf, Try.underlying83]
@[simp] theorem uin83 : uint Try.prog 83 = some .i64 := by kernel_rfl
@[simp] theorem pla83 : plainT Try.prog 83 = true := by kernel_rfl
@[simp] theorem tsz85 : tsz Try.prog 85 = some 7 := by kernel_rfl
@[simp] theorem tby85 : tbytes Try.prog 85 = some 48 := by kernel_rfl
@[simp] theorem tze85 : tzero Try.prog 85 = some (.agg #[(.int .i64 (0)), (.int .i64 (0)), (.int .i64 (0)), (.int .i64 (0)), (.int .u32 (0)), (.int .u32 (0)), (.int .i64 (0))]) := by kernel_rfl
@[simp] theorem tag85 : tagg Try.prog 85 = some true := by simp [tagg, Try.underlying85]
@[simp] theorem arr85 : arrOf Try.prog 85 = none := by simp [arrOf, Try.underlying85]
@[simp] theorem fsz85 : fieldsSized Try.prog 85 = true := by kernel_rfl
@[simp] theorem wid85 : wideT Try.prog 85 = true := by kernel_rfl
@[simp] theorem fld85_0 : fieldOf Try.prog 85 0 = some (3, 0) := by kernel_rfl
@[simp] theorem fld85_1 : fieldOf Try.prog 85 1 = some (3, 1) := by kernel_rfl
@[simp] theorem fld85_2 : fieldOf Try.prog 85 2 = some (3, 2) := by kernel_rfl
@[simp] theorem fld85_3 : fieldOf Try.prog 85 3 = some (83, 3) := by kernel_rfl
@[simp] theorem fld85_4 : fieldOf Try.prog 85 4 = some (33, 4) := by kernel_rfl
@[simp] theorem fld85_5 : fieldOf Try.prog 85 5 = some (3, 6) := by kernel_rfl
@[simp] theorem fli85 : fieldList Try.prog 85 = some [(3, 0), (3, 1), (3, 2), (83, 3), (33, 4), (3, 6)] := by kernel_rfl
@[simp] theorem eqg85 : Try.prog.eqGuardType Try.prog.depth 85 = false := by kernel_rfl
@[simp] theorem tsz89 : tsz Try.prog 89 = some 1 := by kernel_rfl
@[simp] theorem tby89 : tbytes Try.prog 89 = some 8 := by kernel_rfl
@[simp] theorem tze89 : tzero Try.prog 89 = some .nilFunc := by kernel_rfl
@[simp] theorem tag89 : tagg Try.prog 89 = some false := by simp [tagg, Try.underlying89]
@[simp] theorem arr89 : arrOf Try.prog 89 = none := by simp [arrOf, Try.underlying89]
@[simp] theorem tsz92 : tsz Try.prog 92 = some 1 := by kernel_rfl
@[simp] theorem tby92 : tbytes Try.prog 92 = some 24 := by kernel_rfl
@[simp] theorem tze92 : tzero Try.prog 92 = some (.slice none 0 0) := by kernel_rfl
@[simp] theorem tag92 : tagg Try.prog 92 = some false := by simp [tagg, Try.underlying92]
@[simp] theorem arr92 : arrOf Try.prog 92 = none := by simp [arrOf, Try.underlying92]
@[simp] theorem elm92 : elemOf Try.prog 92 = some 33 := by kernel_rfl
@[simp] theorem tsz95 : tsz Try.prog 95 = some 1 := by kernel_rfl
@[simp] theorem tby95 : tbytes Try.prog 95 = some 24 := by kernel_rfl
@[simp] theorem tze95 : tzero Try.prog 95 = some (.slice none 0 0) := by kernel_rfl
@[simp] theorem tag95 : tagg Try.prog 95 = some false := by simp [tagg, Try.underlying95]
@[simp] theorem arr95 : arrOf Try.prog 95 = none := by simp [arrOf, Try.underlying95]
@[simp] theorem elm95 : elemOf Try.prog 95 = some 28 := by kernel_rfl
@[simp] theorem tsz98 : tsz Try.prog 98 = some 3 := by kernel_rfl
@[simp] theorem tby98 : tbytes Try.prog 98 = some 24 := by kernel_rfl
@[simp] theorem tze98 : tzero Try.prog 98 = some (.agg #[(.int .i64 (0)), (.int .i64 (0)), (.int .i64 (0))]) := by kernel_rfl
@[simp] theorem tag98 : tagg Try.prog 98 = some true := by simp [tagg, Try.underlying98]
@[simp] theorem arr98 : arrOf Try.prog 98 = none := by simp [arrOf, Try.underlying98]
@[simp] theorem fsz98 : fieldsSized Try.prog 98 = true := by kernel_rfl
@[simp] theorem wid98 : wideT Try.prog 98 = true := by kernel_rfl
@[simp] theorem fld98_0 : fieldOf Try.prog 98 0 = some (39, 0) := by kernel_rfl
@[simp] theorem fld98_1 : fieldOf Try.prog 98 1 = some (41, 1) := by kernel_rfl
@[simp] theorem fli98 : fieldList Try.prog 98 = some [(39, 0), (41, 1)] := by kernel_rfl
@[simp] theorem eqg98 : Try.prog.eqGuardType Try.prog.depth 98 = false := by kernel_rfl
@[simp] theorem tsz102 : tsz Try.prog 102 = some 1 := by kernel_rfl
@[simp] theorem tby102 : tbytes Try.prog 102 = some 8 := by kernel_rfl
@[simp] theorem tze102 : tzero Try.prog 102 = some (.pointer none) := by kernel_rfl
@[simp] theorem tag102 : tagg Try.prog 102 = some false := by simp [tagg, Try.underlying102]
@[simp] theorem arr102 : arrOf Try.prog 102 = none := by simp [arrOf, Try.underlying102]
@[simp] theorem upt102 : uptr Try.prog 102 = true := by kernel_rfl
@[simp] theorem tsz104 : tsz Try.prog 104 = some 1 := by kernel_rfl
@[simp] theorem tby104 : tbytes Try.prog 104 = some 8 := by kernel_rfl
@[simp] theorem tze104 : tzero Try.prog 104 = some .nilFunc := by kernel_rfl
@[simp] theorem tag104 : tagg Try.prog 104 = some false := by simp [tagg, Try.underlying104]
@[simp] theorem arr104 : arrOf Try.prog 104 = none := by simp [arrOf, Try.underlying104]
@[simp] theorem tsz105 : tsz Try.prog 105 = some 6 := by kernel_rfl
@[simp] theorem tby105 : tbytes Try.prog 105 = some 48 := by kernel_rfl
@[simp] theorem tze105 : tzero Try.prog 105 = some (.agg #[.nilFunc, .nilFunc, .nilFunc, .nilFunc, .nilFunc, .nilFunc]) := by kernel_rfl
@[simp] theorem tag105 : tagg Try.prog 105 = some true := by simp [tagg, Try.underlying105]
@[simp] theorem arr105 : arrOf Try.prog 105 = some (6, 104) := by simp [arrOf, Try.underlying105]
@[simp] theorem tsz109 : tsz Try.prog 109 = some 1 := by kernel_rfl
@[simp] theorem tby109 : tbytes Try.prog 109 = some 8 := by kernel_rfl
@[simp] theorem tze109 : tzero Try.prog 109 = some (.pointer none) := by kernel_rfl
@[simp] theorem tag109 : tagg Try.prog 109 = some false := by simp [tagg, Try.underlying109]
@[simp] theorem arr109 : arrOf Try.prog 109 = none := by simp [arrOf, Try.underlying109]
@[simp] theorem upt109 : uptr Try.prog 109 = true := by kernel_rfl
@[simp] theorem tsz120 : tsz Try.prog 120 = some 34 := by kernel_rfl
@[simp] theorem tby120 : tbytes Try.prog 120 = some 464 := by kernel_rfl
@[simp] theorem tze120 : tzero Try.prog 120 = some (.agg #[(.slice none 0 0), (.slice none 0 0), (.slice none 0 0), (.slice none 0 0), (.slice none 0 0), (.slice none 0 0), (.int .i64 (0)), (.int .i64 (0)), (.int .i64 (0)), (.int .i64 (0)), (.int .u32 (0)), (.int .u32 (0)), (.string ⟨#[]⟩), (.slice none 0 0), (.slice none 0 0), (.slice none 0 0), (.int .i64 (0)), (.slice none 0 0), (.int .i64 (0)), (.int .i64 (0)), (.int .i64 (0)), (.slice none 0 0), (.int .i64 (0)), (.int .i64 (0)), (.int .i64 (0)), .nilFunc, (.bool false), (.bool false), (.int .i64 (0)), (.int .u32 (0)), (.slice none 0 0), (.int .i64 (0)), (.int .i64 (0)), (.int .i64 (0))]) := by kernel_rfl
@[simp] theorem tag120 : tagg Try.prog 120 = some true := by simp [tagg, Try.underlying120]
@[simp] theorem arr120 : arrOf Try.prog 120 = none := by simp [arrOf, Try.underlying120]
@[simp] theorem fsz120 : fieldsSized Try.prog 120 = true := by kernel_rfl
@[simp] theorem wid120 : wideT Try.prog 120 = true := by kernel_rfl
@[simp] theorem fld120_0 : fieldOf Try.prog 120 0 = some (28, 0) := by kernel_rfl
@[simp] theorem fld120_1 : fieldOf Try.prog 120 1 = some (28, 3) := by kernel_rfl
@[simp] theorem fld120_2 : fieldOf Try.prog 120 2 = some (37, 6) := by kernel_rfl
@[simp] theorem fld120_3 : fieldOf Try.prog 120 3 = some (22, 13) := by kernel_rfl
@[simp] theorem fld120_4 : fieldOf Try.prog 120 4 = some (92, 14) := by kernel_rfl
@[simp] theorem fld120_5 : fieldOf Try.prog 120 5 = some (92, 15) := by kernel_rfl
@[simp] theorem fld120_6 : fieldOf Try.prog 120 6 = some (3, 16) := by kernel_rfl
@[simp] theorem fld120_7 : fieldOf Try.prog 120 7 = some (43, 17) := by kernel_rfl
@[simp] theorem fld120_8 : fieldOf Try.prog 120 8 = some (43, 21) := by kernel_rfl
@[simp] theorem fld120_9 : fieldOf Try.prog 120 9 = some (1, 25) := by kernel_rfl
@[simp] theorem fld120_10 : fieldOf Try.prog 120 10 = some (4, 26) := by kernel_rfl
@[simp] theorem fld120_11 : fieldOf Try.prog 120 11 = some (45, 27) := by kernel_rfl
@[simp] theorem fli120 : fieldList Try.prog 120 = some [(28, 0), (28, 3), (37, 6), (22, 13), (92, 14), (92, 15), (3, 16), (43, 17), (43, 21), (1, 25), (4, 26), (45, 27)] := by kernel_rfl
@[simp] theorem eqg120 : Try.prog.eqGuardType Try.prog.depth 120 = false := by kernel_rfl
@[simp] theorem tsz129 : tsz Try.prog 129 = some 4 := by kernel_rfl
@[simp] theorem tby129 : tbytes Try.prog 129 = some 32 := by kernel_rfl
@[simp] theorem tze129 : tzero Try.prog 129 = some (.agg #[(.int .i64 (0)), (.int .i64 (0)), (.int .i64 (0)), (.int .i64 (0))]) := by kernel_rfl
@[simp] theorem tag129 : tagg Try.prog 129 = some true := by simp [tagg, Try.underlying129]
@[simp] theorem arr129 : arrOf Try.prog 129 = none := by simp [arrOf, Try.underlying129]
@[simp] theorem fsz129 : fieldsSized Try.prog 129 = true := by kernel_rfl
@[simp] theorem wid129 : wideT Try.prog 129 = true := by kernel_rfl
@[simp] theorem fld129_0 : fieldOf Try.prog 129 0 = some (41, 0) := by kernel_rfl
@[simp] theorem fld129_1 : fieldOf Try.prog 129 1 = some (41, 2) := by kernel_rfl
@[simp] theorem fli129 : fieldList Try.prog 129 = some [(41, 0), (41, 2)] := by kernel_rfl
@[simp] theorem eqg129 : Try.prog.eqGuardType Try.prog.depth 129 = false := by kernel_rfl
@[simp] theorem tsz143 : tsz Try.prog 143 = some 1 := by kernel_rfl
@[simp] theorem tby143 : tbytes Try.prog 143 = some 8 := by kernel_rfl
@[simp] theorem tze143 : tzero Try.prog 143 = some (.pointer none) := by kernel_rfl
@[simp] theorem tag143 : tagg Try.prog 143 = some false := by simp [tagg, Try.underlying143]
@[simp] theorem arr143 : arrOf Try.prog 143 = none := by simp [arrOf, Try.underlying143]
@[simp] theorem upt143 : uptr Try.prog 143 = true := by kernel_rfl
@[simp] theorem tsz147 : tsz Try.prog 147 = some 1 := by kernel_rfl
@[simp] theorem tby147 : tbytes Try.prog 147 = some 8 := by kernel_rfl
@[simp] theorem tze147 : tzero Try.prog 147 = some (.int .u64 (0)) := by kernel_rfl
@[simp] theorem tag147 : tagg Try.prog 147 = some false := by simp [tagg, Try.underlying147]
@[simp] theorem arr147 : arrOf Try.prog 147 = none := by simp [arrOf, Try.underlying147]
@[simp] theorem uin147 : uint Try.prog 147 = some .u64 := by kernel_rfl
@[simp] theorem pla147 : plainT Try.prog 147 = true := by kernel_rfl
@[simp] theorem tsz149 : tsz Try.prog 149 = some 3 := by kernel_rfl
@[simp] theorem tby149 : tbytes Try.prog 149 = some 24 := by kernel_rfl
@[simp] theorem tze149 : tzero Try.prog 149 = some (.agg #[(.pointer none), (.pointer none), (.int .i64 (0))]) := by kernel_rfl
@[simp] theorem tag149 : tagg Try.prog 149 = some true := by simp [tagg, Try.underlying149]
@[simp] theorem arr149 : arrOf Try.prog 149 = none := by simp [arrOf, Try.underlying149]
@[simp] theorem fsz149 : fieldsSized Try.prog 149 = true := by kernel_rfl
@[simp] theorem wid149 : wideT Try.prog 149 = true := by kernel_rfl
@[simp] theorem fld149_0 : fieldOf Try.prog 149 0 = some (143, 0) := by kernel_rfl
@[simp] theorem fld149_1 : fieldOf Try.prog 149 1 = some (143, 1) := by kernel_rfl
@[simp] theorem fld149_2 : fieldOf Try.prog 149 2 = some (3, 2) := by kernel_rfl
@[simp] theorem fli149 : fieldList Try.prog 149 = some [(143, 0), (143, 1), (3, 2)] := by kernel_rfl
@[simp] theorem eqg149 : Try.prog.eqGuardType Try.prog.depth 149 = false := by kernel_rfl
@[simp] theorem tsz152 : tsz Try.prog 152 = some 2 := by kernel_rfl
@[simp] theorem tby152 : tbytes Try.prog 152 = some 16 := by kernel_rfl
@[simp] theorem tze152 : tzero Try.prog 152 = some (.agg #[(.int .u64 (0)), (.int .i64 (0))]) := by kernel_rfl
@[simp] theorem tag152 : tagg Try.prog 152 = some true := by simp [tagg, Try.underlying152]
@[simp] theorem arr152 : arrOf Try.prog 152 = none := by simp [arrOf, Try.underlying152]
@[simp] theorem fsz152 : fieldsSized Try.prog 152 = true := by kernel_rfl
@[simp] theorem wid152 : wideT Try.prog 152 = true := by kernel_rfl
@[simp] theorem fld152_0 : fieldOf Try.prog 152 0 = some (147, 0) := by kernel_rfl
@[simp] theorem fld152_1 : fieldOf Try.prog 152 1 = some (3, 1) := by kernel_rfl
@[simp] theorem fli152 : fieldList Try.prog 152 = some [(147, 0), (3, 1)] := by kernel_rfl
@[simp] theorem eqg152 : Try.prog.eqGuardType Try.prog.depth 152 = false := by kernel_rfl
@[simp] theorem tsz167 : tsz Try.prog 167 = some 1 := by kernel_rfl
@[simp] theorem tby167 : tbytes Try.prog 167 = some 8 := by kernel_rfl
@[simp] theorem tze167 : tzero Try.prog 167 = some (.map none) := by kernel_rfl
@[simp] theorem tag167 : tagg Try.prog 167 = some false := by simp [tagg, Try.underlying167]
@[simp] theorem arr167 : arrOf Try.prog 167 = none := by simp [arrOf, Try.underlying167]
@[simp] theorem uma167 : umap Try.prog 167 = true := by kernel_rfl
@[simp] theorem mty167 : mapTypes Try.prog 167 = some (41, 41) := by kernel_rfl
@[simp] theorem tsz169 : tsz Try.prog 169 = some 1 := by kernel_rfl
@[simp] theorem tby169 : tbytes Try.prog 169 = some 24 := by kernel_rfl
@[simp] theorem tze169 : tzero Try.prog 169 = some (.slice none 0 0) := by kernel_rfl
@[simp] theorem tag169 : tagg Try.prog 169 = some false := by simp [tagg, Try.underlying169]
@[simp] theorem arr169 : arrOf Try.prog 169 = none := by simp [arrOf, Try.underlying169]
@[simp] theorem elm169 : elemOf Try.prog 169 = some 41 := by kernel_rfl
@[simp] theorem tsz174 : tsz Try.prog 174 = some 1 := by kernel_rfl
@[simp] theorem tby174 : tbytes Try.prog 174 = some 8 := by kernel_rfl
@[simp] theorem tze174 : tzero Try.prog 174 = some (.pointer none) := by kernel_rfl
@[simp] theorem tag174 : tagg Try.prog 174 = some false := by simp [tagg, Try.underlying174]
@[simp] theorem arr174 : arrOf Try.prog 174 = none := by simp [arrOf, Try.underlying174]
@[simp] theorem upt174 : uptr Try.prog 174 = true := by kernel_rfl
@[simp] theorem tsz176 : tsz Try.prog 176 = some 1 := by kernel_rfl
@[simp] theorem tby176 : tbytes Try.prog 176 = some 8 := by kernel_rfl
@[simp] theorem tze176 : tzero Try.prog 176 = some (.agg #[(.pointer none)]) := by kernel_rfl
@[simp] theorem tag176 : tagg Try.prog 176 = some true := by simp [tagg, Try.underlying176]
@[simp] theorem arr176 : arrOf Try.prog 176 = none := by simp [arrOf, Try.underlying176]
@[simp] theorem fsz176 : fieldsSized Try.prog 176 = true := by kernel_rfl
@[simp] theorem wid176 : wideT Try.prog 176 = true := by kernel_rfl
@[simp] theorem fld176_0 : fieldOf Try.prog 176 0 = some (174, 0) := by kernel_rfl
@[simp] theorem fli176 : fieldList Try.prog 176 = some [(174, 0)] := by kernel_rfl
@[simp] theorem eqg176 : Try.prog.eqGuardType Try.prog.depth 176 = false := by kernel_rfl
@[simp] theorem tsz182 : tsz Try.prog 182 = some 1 := by kernel_rfl
@[simp] theorem tby182 : tbytes Try.prog 182 = some 24 := by kernel_rfl
@[simp] theorem tze182 : tzero Try.prog 182 = some (.slice none 0 0) := by kernel_rfl
@[simp] theorem tag182 : tagg Try.prog 182 = some false := by simp [tagg, Try.underlying182]
@[simp] theorem arr182 : arrOf Try.prog 182 = none := by simp [arrOf, Try.underlying182]
@[simp] theorem elm182 : elemOf Try.prog 182 = some 147 := by kernel_rfl
@[simp] theorem tsz185 : tsz Try.prog 185 = some 6 := by kernel_rfl
@[simp] theorem tby185 : tbytes Try.prog 185 = some 48 := by kernel_rfl
@[simp] theorem tze185 : tzero Try.prog 185 = some (.agg #[(.int .u64 (0)), (.int .i64 (0)), (.pointer none), (.pointer none), (.int .i64 (0)), (.int .i64 (0))]) := by kernel_rfl
@[simp] theorem tag185 : tagg Try.prog 185 = some true := by simp [tagg, Try.underlying185]
@[simp] theorem arr185 : arrOf Try.prog 185 = none := by simp [arrOf, Try.underlying185]
@[simp] theorem fsz185 : fieldsSized Try.prog 185 = true := by kernel_rfl
@[simp] theorem wid185 : wideT Try.prog 185 = true := by kernel_rfl
@[simp] theorem fld185_0 : fieldOf Try.prog 185 0 = some (152, 0) := by kernel_rfl
@[simp] theorem fld185_1 : fieldOf Try.prog 185 1 = some (174, 2) := by kernel_rfl
@[simp] theorem fld185_2 : fieldOf Try.prog 185 2 = some (174, 3) := by kernel_rfl
@[simp] theorem fld185_3 : fieldOf Try.prog 185 3 = some (3, 4) := by kernel_rfl
@[simp] theorem fld185_4 : fieldOf Try.prog 185 4 = some (3, 5) := by kernel_rfl
@[simp] theorem fli185 : fieldList Try.prog 185 = some [(152, 0), (174, 2), (174, 3), (3, 4), (3, 5)] := by kernel_rfl
@[simp] theorem eqg185 : Try.prog.eqGuardType Try.prog.depth 185 = false := by kernel_rfl
theorem slt22 : SlT Try.prog 22 1 8 := ⟨⟨3, _, elm22, tsz3, tby3, tze3, rfl, by decide, by decide⟩⟩
theorem slt23 : SlT Try.prog 23 4 32 := ⟨⟨129, _, elm23, tsz129, tby129, tze129, rfl, by decide, by decide⟩⟩
theorem slt26 : SlT Try.prog 26 7 48 := ⟨⟨85, _, elm26, tsz85, tby85, tze85, rfl, by decide, by decide⟩⟩
theorem slt92 : SlT Try.prog 92 2 8 := ⟨⟨33, _, elm92, tsz33, tby33, tze33, rfl, by decide, by decide⟩⟩
theorem slt95 : SlT Try.prog 95 3 72 := ⟨⟨28, _, elm95, tsz28, tby28, tze28, rfl, by decide, by decide⟩⟩
theorem slt169 : SlT Try.prog 169 2 16 := ⟨⟨41, _, elm169, tsz41, tby41, tze41, rfl, by decide, by decide⟩⟩
theorem slt182 : SlT Try.prog 182 1 8 := ⟨⟨147, _, elm182, tsz147, tby147, tze147, rfl, by decide, by decide⟩⟩
theorem mixed : Try.prog.follows .mixedOrders = true := by kernel_rfl
end Go.Proofs.Ytanimmdlgmkmkaa.Av


/- Networks: what they are; functions that only look at one port or one rule. -/
namespace Go.Proofs.Ytanimmdlgmkmkaa.Av
open Go
set_option linter.unusedSimpArgs false
set_option linter.unusedVariables false
set_option maxRecDepth 100000
set_option maxHeartbeats 1000000
set_option pp.maxSteps 300

theorem Ext.setF {σ τ : St} {i : Id} {o : Ob} (h : Ext σ τ) (hi : σ.m i = none) : Ext σ (τ.set i o) := ⟨fun j p hj => by
    have hne : j ≠ i := fun e => by rw [e, hi] at hj; cases hj
    simp only [St.set, hne, false_and, if_false]
    exact h.m j p hj, h.nx⟩
theorem set_hit {τ : St} {i : Id} {o p : Ob} (h : τ.m i = some p) : (τ.set i o).m i = some o := by simp [St.set, h]
theorem set_ne {τ : St} {i j : Id} {o : Ob} (h : j ≠ i) : (τ.set i o).m j = τ.m j := by simp [St.set, h]

structure Pt where
  dev : Int
  port : Int
deriving DecidableEq
structure Lk where
  a : Pt
  b : Pt
deriving DecidableEq
structure Rg where
  lo : Int
  hi : Int
deriving DecidableEq
structure Ru where
  id : Int
  dev : Int
  prio : Int
  kind : Int
  r : Rg
  port : Int
deriving DecidableEq
structure Tp where
  ports : List Int
  links : List Lk
deriving DecidableEq
structure Nw where
  t : Tp
  rules : List Ru
deriving DecidableEq
def iAV (n : Int) : AV := .raw (.int .i64 n)
def uAV (n : Int) : AV := .raw (.int .u32 n)
def ptAV (p : Pt) : AV := .agg [.raw (.int .i64 p.dev), .raw (.int .i64 p.port)]
def lkAV (l : Lk) : AV := .agg [.raw (.int .i64 l.a.dev), .raw (.int .i64 l.a.port), .raw (.int .i64 l.b.dev), .raw (.int .i64 l.b.port)]
def rgAV (r : Rg) : AV := .agg [.raw (.int .u32 r.lo), .raw (.int .u32 r.hi)]
def ruAV (r : Ru) : AV := .agg [.raw (.int .i64 r.id), .raw (.int .i64 r.dev), .raw (.int .i64 r.prio), .raw (.int .i64 r.kind), .raw (.int .u32 r.r.lo), .raw (.int .u32 r.r.hi), .raw (.int .i64 r.port)]
def intsAV (l : List Int) (f : Bool) : AV := .sl 1 (l.map iAV) f
def linksAV (l : List Lk) (f : Bool) : AV := .sl 4 (l.map lkAV) f
def rulesAV (l : List Ru) (f : Bool) : AV := .sl 7 (l.map ruAV) f
/-- Are the lists' arrays full? -/
structure Fl where
  p : Bool
  l : Bool
  r : Bool
def tpAV (t : Tp) (f : Fl) : AV := .agg [intsAV t.ports f.p, linksAV t.links f.l]
def nwAV (n : Nw) (f : Fl) : AV := .agg [intsAV n.t.ports f.p, linksAV n.t.links f.l, rulesAV n.rules f.r]

def hasB (t : Tp) (p : Pt) : Bool := decide (0 ≤ p.dev) && match t.ports[p.dev.toNat]? with | some n => decide (0 ≤ p.port) && decide (p.port < n) | none => false

theorem refWithin_calls (n b : Int) : PCalls Try.prog 139 [.raw (.int .i64 n), .raw (.int .i64 b)] (.raw (.bool (decide (0 ≤ n) && decide (n ≤ b)))) := by
  refine pbody Try.func139 rfl (N := 12) rfl rfl (by simp) (by simp [noIds]) fun σ => ?_
  (try (first | (with_reducible refine dops_go ?_; simp) | (with_reducible refine OKv_go ?_; simp) | (with_reducible refine OKr_go ?_; simp))); repeat' (first | refine awp_seq ?_ | refine awp_block ?_ | (refine awp_skip ?_; try simp) | (refine awp_exit ?_; try simp) | (refine awp_ret ?_; try simp) | (refine retP_same (by simp) ?_; simp) | (refine retP_flat (by simp) (by simp) (by simp (maxDischargeDepth := 30)) ?_; simp) | (refine awp_reg ?_; simp) | (refine awp_drawT (fun _ => false) mixed (by decide +kernel) ?_; simp) | (refine guarded_split ?_ ?_ <;> (intro hg; simp only [hg]; simp)) | (apply awp_cond_t; focus (simp; done)) | (apply awp_cond_f; focus (simp; done)) | (refine awp_cond ?_; simp; refine ⟨?_, ?_⟩ <;> intro hc))
def takesB (r : Ru) (d a : Int) : Bool := decide (r.dev = d) && (decide (r.r.lo ≤ a) && decide (a ≤ r.r.hi))
theorem takes_calls (r : Ru) (d a : Int) : PCalls Try.prog 137 [ruAV r, .raw (.int .i64 d), .raw (.int .u32 a)] (.raw (.bool (takesB r d a))) := by
  refine pbody Try.func137 rfl (N := 25) rfl rfl (by simp) (by simp [noIds]) fun σ => ?_
  (try (first | (with_reducible refine dops_go ?_; simp [ruAV]) | (with_reducible refine OKv_go ?_; simp [ruAV]) | (with_reducible refine OKr_go ?_; simp [ruAV]))); repeat' (first | refine awp_seq ?_ | refine awp_block ?_ | (refine awp_skip ?_; try simp) | (refine awp_exit ?_; try simp) | (refine awp_ret ?_; try simp) | (refine retP_same (by simp) ?_; simp) | (refine retP_flat (by simp) (by simp) (by simp (maxDischargeDepth := 30) [ruAV]) ?_; simp) | (refine awp_reg ?_; simp [ruAV]) | (refine awp_drawT (fun _ => false) mixed (by decide +kernel) ?_; simp [ruAV]) | (refine guarded_split ?_ ?_ <;> (intro hg; simp only [hg]; simp [ruAV])) | (apply awp_cond_t; focus (simp [ruAV]; done)) | (apply awp_cond_f; focus (simp [ruAV]; done)) | (refine awp_cond ?_; simp [ruAV]; refine ⟨?_, ?_⟩ <;> intro hc))
  all_goals (simp_all [takesB] <;> intros <;> omega)
theorem isNaN_calls (a : Int) : PCalls Try.prog 132 [.raw (.int .i64 a)] (.raw (.bool false)) := by
  refine pbody Try.func132 rfl (N := 6) rfl rfl (by simp) (by simp [noIds]) fun σ => ?_
  (try (first | (with_reducible refine dops_go ?_; simp) | (with_reducible refine OKv_go ?_; simp) | (with_reducible refine OKr_go ?_; simp))); repeat' (first | refine awp_seq ?_ | refine awp_block ?_ | (refine awp_skip ?_; try simp) | (refine awp_exit ?_; try simp) | (refine awp_ret ?_; try simp) | (refine retP_same (by simp) ?_; simp) | (refine retP_flat (by simp) (by simp) (by simp (maxDischargeDepth := 30)) ?_; simp) | (refine awp_reg ?_; simp) | (refine awp_drawT (fun _ => false) mixed (by decide +kernel) ?_; simp) | (refine guarded_split ?_ ?_ <;> (intro hg; simp only [hg]; simp)) | (apply awp_cond_t; focus (simp; done)) | (apply awp_cond_f; focus (simp; done)) | (refine awp_cond ?_; simp; refine ⟨?_, ?_⟩ <;> intro hc))
def cmpI (a b : Int) : Int := if a < b then -1 else if b < a then 1 else 0
theorem compare_calls (a b : Int) : PCalls Try.prog 102 [.raw (.int .i64 a), .raw (.int .i64 b)] (.raw (.int .i64 (cmpI a b))) := by
  refine pbody Try.func102 rfl (N := 20) rfl rfl (by simp) (by simp [noIds]) fun σ => ?_
  (try (first | (with_reducible refine dops_go ?_; simp) | (with_reducible refine OKv_go ?_; simp) | (with_reducible refine OKr_go ?_; simp))); repeat' (first | refine awp_seq ?_ | refine awp_block ?_ | (refine awp_skip ?_; try simp) | (refine awp_exit ?_; try simp) | (refine awp_ret ?_; try simp) | (refine retP_same (by simp) ?_; simp) | (refine retP_flat (by simp) (by simp) (by simp (maxDischargeDepth := 30)) ?_; simp) | (refine awp_reg ?_; simp) | (refine awp_drawT (fun _ => false) mixed (by decide +kernel) ?_; simp) | (refine guarded_split ?_ ?_ <;> (intro hg; simp only [hg]; simp)) | (apply awp_cond_t; focus (simp; done)) | (apply awp_cond_f; focus (simp; done)) | (refine awp_cond ?_; simp; refine ⟨?_, ?_⟩ <;> intro hc))
  refine PCalls.use (isNaN_calls a) ?_
  (try (first | (with_reducible refine dops_go ?_; simp) | (with_reducible refine OKv_go ?_; simp) | (with_reducible refine OKr_go ?_; simp))); repeat' (first | refine awp_seq ?_ | refine awp_block ?_ | (refine awp_skip ?_; try simp) | (refine awp_exit ?_; try simp) | (refine awp_ret ?_; try simp) | (refine retP_same (by simp) ?_; simp) | (refine retP_flat (by simp) (by simp) (by simp (maxDischargeDepth := 30)) ?_; simp) | (refine awp_reg ?_; simp) | (refine awp_drawT (fun _ => false) mixed (by decide +kernel) ?_; simp) | (refine guarded_split ?_ ?_ <;> (intro hg; simp only [hg]; simp)) | (apply awp_cond_t; focus (simp; done)) | (apply awp_cond_f; focus (simp; done)) | (refine awp_cond ?_; simp; refine ⟨?_, ?_⟩ <;> intro hc))
  refine PCalls.use (isNaN_calls b) ?_
  (try (first | (with_reducible refine dops_go ?_; simp [cmpI]) | (with_reducible refine OKv_go ?_; simp [cmpI]) | (with_reducible refine OKr_go ?_; simp [cmpI]))); repeat' (first | refine awp_seq ?_ | refine awp_block ?_ | (refine awp_skip ?_; try simp) | (refine awp_exit ?_; try simp) | (refine awp_ret ?_; try simp) | (refine retP_same (by simp) ?_; simp) | (refine retP_flat (by simp) (by simp) (by simp (maxDischargeDepth := 30) [cmpI]) ?_; simp) | (refine awp_reg ?_; simp [cmpI]) | (refine awp_drawT (fun _ => false) mixed (by decide +kernel) ?_; simp [cmpI]) | (refine guarded_split ?_ ?_ <;> (intro hg; simp only [hg]; simp [cmpI])) | (apply awp_cond_t; focus (simp [cmpI]; done)) | (apply awp_cond_f; focus (simp [cmpI]; done)) | (refine awp_cond ?_; simp [cmpI]; refine ⟨?_, ?_⟩ <;> intro hc))
  all_goals (unfold cmpI; (repeat' split) <;> omega)
end Go.Proofs.Ytanimmdlgmkmkaa.Av


/- Networks: searching lists by a function. -/
namespace Go.Proofs.Ytanimmdlgmkmkaa.Av
open Go
set_option linter.unusedSimpArgs false
set_option linter.unusedVariables false
set_option maxRecDepth 100000
set_option maxHeartbeats 1000000
set_option pp.maxSteps 300

/-- The first that is asked for; -1: there is none. -/
def idxOf {T : Type} (p : T → Bool) (z : List T) : Int := if z.any p then (z.findIdx p : Nat) else -1
theorem idxOf_here {T : Type} {p : T → Bool} {z : List T} {i : Nat} {x : T} (hx : z[i]? = some x) (hp : p x = true) (hn : ∀ j, j < i → ∀ y, z[j]? = some y → p y = false) : idxOf p z = i := by
  unfold idxOf
  obtain ⟨hi, he⟩ := List.getElem?_eq_some_iff.1 hx
  rw [if_pos (List.any_eq_true.2 ⟨x, List.mem_of_getElem? hx, hp⟩)]
  congr 1
  rw [List.findIdx_eq hi]
  refine ⟨by rw [he]; exact hp, fun j hj => ?_⟩
  exact hn j hj _ (List.getElem?_eq_getElem (by omega))
theorem idxOf_none {T : Type} {p : T → Bool} {z : List T} (hn : ∀ j, j < z.length → ∀ y, z[j]? = some y → p y = false) : idxOf p z = -1 ∧ z.any p = false := by
  have : z.any p = false := by
    rw [List.any_eq_false]
    intro x hx
    obtain ⟨j, hj⟩ := List.getElem?_of_mem hx
    simp [hn j (List.getElem?_eq_some_iff.1 hj).1 x hj]
  exact ⟨by unfold idxOf; rw [this]; rfl, this⟩
theorem idxOf_any {T : Type} (p : T → Bool) (z : List T) : decide (0 ≤ idxOf p z) = z.any p := by
  unfold idxOf
  cases z.any p <;> simp
theorem ru_cells (r : Ru) : (ruAV r).cells = [.raw (.int .i64 r.id), .raw (.int .i64 r.dev), .raw (.int .i64 r.prio), .raw (.int .i64 r.kind), .raw (.int .u32 r.r.lo), .raw (.int .u32 r.r.hi), .raw (.int .i64 r.port)] := rfl
theorem lk_cells (l : Lk) : (lkAV l).cells = [.raw (.int .i64 l.a.dev), .raw (.int .i64 l.a.port), .raw (.int .i64 l.b.dev), .raw (.int .i64 l.b.port)] := rfl
theorem i_cells (n : Int) : (iAV n).cells = [.raw (.int .i64 n)] := rfl

theorem ruIndex_calls {g : FuncId} {caps : List AV} {p : Ru → Bool} (z : List Ru) (fz : Bool) (hl : z.length < 2 ^ 60) (hg : ∀ r ∈ z, PCalls Try.prog g (ruAV r :: caps) (.raw (.bool (p r)))) :
    PCalls Try.prog 142 [rulesAV z fz, .fn (.func g) [] caps] (.raw (.int .i64 (idxOf p z))) := by
  refine pbody Try.func142 rfl (N := 19) rfl rfl (by simp) (by simp [noIds]) fun σ => ?_
  (try (first | (with_reducible refine dops_go ?_; simp [rulesAV]) | (with_reducible refine OKv_go ?_; simp [rulesAV]) | (with_reducible refine OKr_go ?_; simp [rulesAV]))); repeat' (first | refine awp_seq ?_ | refine awp_block ?_ | (refine awp_skip ?_; try simp) | (refine awp_exit ?_; try simp) | (refine awp_ret ?_; try simp) | (refine retP_same (by simp) ?_; simp) | (refine retP_flat (by simp) (by simp) (by simp (maxDischargeDepth := 30) [rulesAV]) ?_; simp) | (refine awp_reg ?_; simp [rulesAV]) | (refine awp_drawT (fun _ => false) mixed (by decide +kernel) ?_; simp [rulesAV]) | (refine guarded_split ?_ ?_ <;> (intro hg; simp only [hg]; simp [rulesAV])) | (apply awp_cond_t; focus (simp [rulesAV]; done)) | (apply awp_cond_f; focus (simp [rulesAV]; done)) | (refine awp_cond ?_; simp [rulesAV]; refine ⟨?_, ?_⟩ <;> intro hc))
  refine awp_loopH (fun n A τ => τ = σ ∧ A 0 = rulesAV z fz ∧ A 1 = .fn (.func g) [] caps ∧ A 7 = .raw (.int .i64 z.length) ∧ ∃ i : Nat, A 8 = .raw (.int .i64 i) ∧ i ≤ z.length ∧ n = z.length - i ∧ ∀ j, j < i → ∀ y, z[j]? = some y → p y = false) z.length ?_ ?_
  · exact ⟨rfl, by simp [rulesAV], by simp, by simp, 0, by simp, by omega, by omega, fun j h => by omega⟩
  rintro n A τ ⟨rfl, a0, a1, a7, i, a8, hi, rfl, hn⟩ I1 hI1
  by_cases hlt : i < z.length
  · have hx : z[i]? = some z[i] := List.getElem?_eq_getElem hlt
    have w1 : IntKind.i64.wrap ((i : Int) + 1) = ((i + 1 : Nat) : Int) := by rw [wrap64 (by omega) (by omega)]; omega
    have hr : AV.agg [.raw (.int .i64 z[i].id), .raw (.int .i64 z[i].dev), .raw (.int .i64 z[i].prio), .raw (.int .i64 z[i].kind), .raw (.int .u32 z[i].r.lo), .raw (.int .u32 z[i].r.hi), .raw (.int .i64 z[i].port)] = ruAV z[i] := rfl
    (try (first | (with_reducible refine dops_go ?_; simp [rulesAV, a0, a1, a7, a8, hlt, hx, ru_cells, hr]) | (with_reducible refine OKv_go ?_; simp [rulesAV, a0, a1, a7, a8, hlt, hx, ru_cells, hr]) | (with_reducible refine OKr_go ?_; simp [rulesAV, a0, a1, a7, a8, hlt, hx, ru_cells, hr]))); repeat' (first | refine awp_seq ?_ | refine awp_block ?_ | (refine awp_skip ?_; try simp) | (refine awp_exit ?_; try simp) | (refine awp_ret ?_; try simp) | (refine retP_same (by simp) ?_; simp) | (refine retP_flat (by simp) (by simp) (by simp (maxDischargeDepth := 30) [rulesAV, a0, a1, a7, a8, hlt, hx, ru_cells, hr]) ?_; simp) | (refine awp_reg ?_; simp [rulesAV, a0, a1, a7, a8, hlt, hx, ru_cells, hr]) | (refine awp_drawT (fun _ => false) mixed (by decide +kernel) ?_; simp [rulesAV, a0, a1, a7, a8, hlt, hx, ru_cells, hr]) | (refine guarded_split ?_ ?_ <;> (intro hg; simp only [hg]; simp [rulesAV, a0, a1, a7, a8, hlt, hx, ru_cells, hr])) | (apply awp_cond_t; focus (simp [rulesAV, a0, a1, a7, a8, hlt, hx, ru_cells, hr]; done)) | (apply awp_cond_f; focus (simp [rulesAV, a0, a1, a7, a8, hlt, hx, ru_cells, hr]; done)) | (refine awp_cond ?_; simp [rulesAV, a0, a1, a7, a8, hlt, hx, ru_cells, hr]; refine ⟨?_, ?_⟩ <;> intro hc))
    refine PCalls.use (hg z[i] (List.getElem_mem _)) ?_
    cases hp : p z[i] with
    | true =>
      (try (first | (with_reducible refine dops_go ?_; simp [rulesAV, a0, a1, a7, a8, hlt, hx, ru_cells, hr]) | (with_reducible refine OKv_go ?_; simp [rulesAV, a0, a1, a7, a8, hlt, hx, ru_cells, hr]) | (with_reducible refine OKr_go ?_; simp [rulesAV, a0, a1, a7, a8, hlt, hx, ru_cells, hr]))); repeat' (first | refine awp_seq ?_ | refine awp_block ?_ | (refine awp_skip ?_; try simp) | (refine awp_exit ?_; try simp) | (refine awp_ret ?_; try simp) | (refine retP_same (by simp) ?_; simp) | (refine retP_flat (by simp) (by simp) (by simp (maxDischargeDepth := 30) [rulesAV, a0, a1, a7, a8, hlt, hx, ru_cells, hr]) ?_; simp) | (refine awp_reg ?_; simp [rulesAV, a0, a1, a7, a8, hlt, hx, ru_cells, hr]) | (refine awp_drawT (fun _ => false) mixed (by decide +kernel) ?_; simp [rulesAV, a0, a1, a7, a8, hlt, hx, ru_cells, hr]) | (refine guarded_split ?_ ?_ <;> (intro hg; simp only [hg]; simp [rulesAV, a0, a1, a7, a8, hlt, hx, ru_cells, hr])) | (apply awp_cond_t; focus (simp [rulesAV, a0, a1, a7, a8, hlt, hx, ru_cells, hr]; done)) | (apply awp_cond_f; focus (simp [rulesAV, a0, a1, a7, a8, hlt, hx, ru_cells, hr]; done)) | (refine awp_cond ?_; simp [rulesAV, a0, a1, a7, a8, hlt, hx, ru_cells, hr]; refine ⟨?_, ?_⟩ <;> intro hc))
      exact (idxOf_here hx hp hn).symm
    | false =>
      (try (first | (with_reducible refine dops_go ?_; simp [rulesAV, a0, a1, a7, a8, hlt, hx, ru_cells, hr]) | (with_reducible refine OKv_go ?_; simp [rulesAV, a0, a1, a7, a8, hlt, hx, ru_cells, hr]) | (with_reducible refine OKr_go ?_; simp [rulesAV, a0, a1, a7, a8, hlt, hx, ru_cells, hr]))); repeat' (first | refine awp_seq ?_ | refine awp_block ?_ | (refine awp_skip ?_; try simp) | (refine awp_exit ?_; try simp) | (refine awp_ret ?_; try simp) | (refine retP_same (by simp) ?_; simp) | (refine retP_flat (by simp) (by simp) (by simp (maxDischargeDepth := 30) [rulesAV, a0, a1, a7, a8, hlt, hx, ru_cells, hr]) ?_; simp) | (refine awp_reg ?_; simp [rulesAV, a0, a1, a7, a8, hlt, hx, ru_cells, hr]) | (refine awp_drawT (fun _ => false) mixed (by decide +kernel) ?_; simp [rulesAV, a0, a1, a7, a8, hlt, hx, ru_cells, hr]) | (refine guarded_split ?_ ?_ <;> (intro hg; simp only [hg]; simp [rulesAV, a0, a1, a7, a8, hlt, hx, ru_cells, hr])) | (apply awp_cond_t; focus (simp [rulesAV, a0, a1, a7, a8, hlt, hx, ru_cells, hr]; done)) | (apply awp_cond_f; focus (simp [rulesAV, a0, a1, a7, a8, hlt, hx, ru_cells, hr]; done)) | (refine awp_cond ?_; simp [rulesAV, a0, a1, a7, a8, hlt, hx, ru_cells, hr]; refine ⟨?_, ?_⟩ <;> intro hc))
      refine hI1 (z.length - (i + 1)) _ _ (by omega) ⟨rfl, by simp [a0], by simp [a1], by simp [a7], i + 1, by simp [w1], by omega, rfl, fun j hj y hy => ?_⟩
      by_cases e : j = i
      · subst e; rw [hx] at hy; injection hy with hy; subst hy; exact hp
      · exact hn j (by omega) y hy
  · have hi' : i = z.length := by omega
    subst hi'
    have w1 : IntKind.i64.wrap (-1) = -1 := wrap64 (by omega) (by omega)
    (try (first | (with_reducible refine dops_go ?_; simp [rulesAV, a0, a1, a7, a8, w1]) | (with_reducible refine OKv_go ?_; simp [rulesAV, a0, a1, a7, a8, w1]) | (with_reducible refine OKr_go ?_; simp [rulesAV, a0, a1, a7, a8, w1]))); repeat' (first | refine awp_seq ?_ | refine awp_block ?_ | (refine awp_skip ?_; try simp) | (refine awp_exit ?_; try simp) | (refine awp_ret ?_; try simp) | (refine retP_same (by simp) ?_; simp) | (refine retP_flat (by simp) (by simp) (by simp (maxDischargeDepth := 30) [rulesAV, a0, a1, a7, a8, w1]) ?_; simp) | (refine awp_reg ?_; simp [rulesAV, a0, a1, a7, a8, w1]) | (refine awp_drawT (fun _ => false) mixed (by decide +kernel) ?_; simp [rulesAV, a0, a1, a7, a8, w1]) | (refine guarded_split ?_ ?_ <;> (intro hg; simp only [hg]; simp [rulesAV, a0, a1, a7, a8, w1])) | (apply awp_cond_t; focus (simp [rulesAV, a0, a1, a7, a8, w1]; done)) | (apply awp_cond_f; focus (simp [rulesAV, a0, a1, a7, a8, w1]; done)) | (refine awp_cond ?_; simp [rulesAV, a0, a1, a7, a8, w1]; refine ⟨?_, ?_⟩ <;> intro hc))
    exact (idxOf_none hn).1.symm
theorem intIndex_calls {g : FuncId} {caps : List AV} {p : Int → Bool} (z : List Int) (fz : Bool) (hl : z.length < 2 ^ 60) (hg : ∀ r ∈ z, PCalls Try.prog g (iAV r :: caps) (.raw (.bool (p r)))) :
    PCalls Try.prog 107 [intsAV z fz, .fn (.func g) [] caps] (.raw (.int .i64 (idxOf p z))) := by
  refine pbody Try.func107 rfl (N := 19) rfl rfl (by simp) (by simp [noIds]) fun σ => ?_
  (try (first | (with_reducible refine dops_go ?_; simp [intsAV]) | (with_reducible refine OKv_go ?_; simp [intsAV]) | (with_reducible refine OKr_go ?_; simp [intsAV]))); repeat' (first | refine awp_seq ?_ | refine awp_block ?_ | (refine awp_skip ?_; try simp) | (refine awp_exit ?_; try simp) | (refine awp_ret ?_; try simp) | (refine retP_same (by simp) ?_; simp) | (refine retP_flat (by simp) (by simp) (by simp (maxDischargeDepth := 30) [intsAV]) ?_; simp) | (refine awp_reg ?_; simp [intsAV]) | (refine awp_drawT (fun _ => false) mixed (by decide +kernel) ?_; simp [intsAV]) | (refine guarded_split ?_ ?_ <;> (intro hg; simp only [hg]; simp [intsAV])) | (apply awp_cond_t; focus (simp [intsAV]; done)) | (apply awp_cond_f; focus (simp [intsAV]; done)) | (refine awp_cond ?_; simp [intsAV]; refine ⟨?_, ?_⟩ <;> intro hc))
  refine awp_loopH (fun n A τ => τ = σ ∧ A 0 = intsAV z fz ∧ A 1 = .fn (.func g) [] caps ∧ A 7 = .raw (.int .i64 z.length) ∧ ∃ i : Nat, A 8 = .raw (.int .i64 i) ∧ i ≤ z.length ∧ n = z.length - i ∧ ∀ j, j < i → ∀ y, z[j]? = some y → p y = false) z.length ?_ ?_
  · exact ⟨rfl, by simp [intsAV], by simp, by simp, 0, by simp, by omega, by omega, fun j h => by omega⟩
  rintro n A τ ⟨rfl, a0, a1, a7, i, a8, hi, rfl, hn⟩ I1 hI1
  by_cases hlt : i < z.length
  · have hx : z[i]? = some z[i] := List.getElem?_eq_getElem hlt
    have w1 : IntKind.i64.wrap ((i : Int) + 1) = ((i + 1 : Nat) : Int) := by rw [wrap64 (by omega) (by omega)]; omega
    have hr : AV.raw (.int .i64 z[i]) = iAV z[i] := rfl
    (try (first | (with_reducible refine dops_go ?_; simp [intsAV, a0, a1, a7, a8, hlt, hx, i_cells, hr]) | (with_reducible refine OKv_go ?_; simp [intsAV, a0, a1, a7, a8, hlt, hx, i_cells, hr]) | (with_reducible refine OKr_go ?_; simp [intsAV, a0, a1, a7, a8, hlt, hx, i_cells, hr]))); repeat' (first | refine awp_seq ?_ | refine awp_block ?_ | (refine awp_skip ?_; try simp) | (refine awp_exit ?_; try simp) | (refine awp_ret ?_; try simp) | (refine retP_same (by simp) ?_; simp) | (refine retP_flat (by simp) (by simp) (by simp (maxDischargeDepth := 30) [intsAV, a0, a1, a7, a8, hlt, hx, i_cells, hr]) ?_; simp) | (refine awp_reg ?_; simp [intsAV, a0, a1, a7, a8, hlt, hx, i_cells, hr]) | (refine awp_drawT (fun _ => false) mixed (by decide +kernel) ?_; simp [intsAV, a0, a1, a7, a8, hlt, hx, i_cells, hr]) | (refine guarded_split ?_ ?_ <;> (intro hg; simp only [hg]; simp [intsAV, a0, a1, a7, a8, hlt, hx, i_cells, hr])) | (apply awp_cond_t; focus (simp [intsAV, a0, a1, a7, a8, hlt, hx, i_cells, hr]; done)) | (apply awp_cond_f; focus (simp [intsAV, a0, a1, a7, a8, hlt, hx, i_cells, hr]; done)) | (refine awp_cond ?_; simp [intsAV, a0, a1, a7, a8, hlt, hx, i_cells, hr]; refine ⟨?_, ?_⟩ <;> intro hc))
    refine PCalls.use (hg z[i] (List.getElem_mem _)) ?_
    cases hp : p z[i] with
    | true =>
      (try (first | (with_reducible refine dops_go ?_; simp [intsAV, a0, a1, a7, a8, hlt, hx, i_cells, hr]) | (with_reducible refine OKv_go ?_; simp [intsAV, a0, a1, a7, a8, hlt, hx, i_cells, hr]) | (with_reducible refine OKr_go ?_; simp [intsAV, a0, a1, a7, a8, hlt, hx, i_cells, hr]))); repeat' (first | refine awp_seq ?_ | refine awp_block ?_ | (refine awp_skip ?_; try simp) | (refine awp_exit ?_; try simp) | (refine awp_ret ?_; try simp) | (refine retP_same (by simp) ?_; simp) | (refine retP_flat (by simp) (by simp) (by simp (maxDischargeDepth := 30) [intsAV, a0, a1, a7, a8, hlt, hx, i_cells, hr]) ?_; simp) | (refine awp_reg ?_; simp [intsAV, a0, a1, a7, a8, hlt, hx, i_cells, hr]) | (refine awp_drawT (fun _ => false) mixed (by decide +kernel) ?_; simp [intsAV, a0, a1, a7, a8, hlt, hx, i_cells, hr]) | (refine guarded_split ?_ ?_ <;> (intro hg; simp only [hg]; simp [intsAV, a0, a1, a7, a8, hlt, hx, i_cells, hr])) | (apply awp_cond_t; focus (simp [intsAV, a0, a1, a7, a8, hlt, hx, i_cells, hr]; done)) | (apply awp_cond_f; focus (simp [intsAV, a0, a1, a7, a8, hlt, hx, i_cells, hr]; done)) | (refine awp_cond ?_; simp [intsAV, a0, a1, a7, a8, hlt, hx, i_cells, hr]; refine ⟨?_, ?_⟩ <;> intro hc))
      exact (idxOf_here hx hp hn).symm
    | false =>
      (try (first | (with_reducible refine dops_go ?_; simp [intsAV, a0, a1, a7, a8, hlt, hx, i_cells, hr]) | (with_reducible refine OKv_go ?_; simp [intsAV, a0, a1, a7, a8, hlt, hx, i_cells, hr]) | (with_reducible refine OKr_go ?_; simp [intsAV, a0, a1, a7, a8, hlt, hx, i_cells, hr]))); repeat' (first | refine awp_seq ?_ | refine awp_block ?_ | (refine awp_skip ?_; try simp) | (refine awp_exit ?_; try simp) | (refine awp_ret ?_; try simp) | (refine retP_same (by simp) ?_; simp) | (refine retP_flat (by simp) (by simp) (by simp (maxDischargeDepth := 30) [intsAV, a0, a1, a7, a8, hlt, hx, i_cells, hr]) ?_; simp) | (refine awp_reg ?_; simp [intsAV, a0, a1, a7, a8, hlt, hx, i_cells, hr]) | (refine awp_drawT (fun _ => false) mixed (by decide +kernel) ?_; simp [intsAV, a0, a1, a7, a8, hlt, hx, i_cells, hr]) | (refine guarded_split ?_ ?_ <;> (intro hg; simp only [hg]; simp [intsAV, a0, a1, a7, a8, hlt, hx, i_cells, hr])) | (apply awp_cond_t; focus (simp [intsAV, a0, a1, a7, a8, hlt, hx, i_cells, hr]; done)) | (apply awp_cond_f; focus (simp [intsAV, a0, a1, a7, a8, hlt, hx, i_cells, hr]; done)) | (refine awp_cond ?_; simp [intsAV, a0, a1, a7, a8, hlt, hx, i_cells, hr]; refine ⟨?_, ?_⟩ <;> intro hc))
      refine hI1 (z.length - (i + 1)) _ _ (by omega) ⟨rfl, by simp [a0], by simp [a1], by simp [a7], i + 1, by simp [w1], by omega, rfl, fun j hj y hy => ?_⟩
      by_cases e : j = i
      · subst e; rw [hx] at hy; injection hy with hy; subst hy; exact hp
      · exact hn j (by omega) y hy
  · have hi' : i = z.length := by omega
    subst hi'
    have w1 : IntKind.i64.wrap (-1) = -1 := wrap64 (by omega) (by omega)
    (try (first | (with_reducible refine dops_go ?_; simp [intsAV, a0, a1, a7, a8, w1]) | (with_reducible refine OKv_go ?_; simp [intsAV, a0, a1, a7, a8, w1]) | (with_reducible refine OKr_go ?_; simp [intsAV, a0, a1, a7, a8, w1]))); repeat' (first | refine awp_seq ?_ | refine awp_block ?_ | (refine awp_skip ?_; try simp) | (refine awp_exit ?_; try simp) | (refine awp_ret ?_; try simp) | (refine retP_same (by simp) ?_; simp) | (refine retP_flat (by simp) (by simp) (by simp (maxDischargeDepth := 30) [intsAV, a0, a1, a7, a8, w1]) ?_; simp) | (refine awp_reg ?_; simp [intsAV, a0, a1, a7, a8, w1]) | (refine awp_drawT (fun _ => false) mixed (by decide +kernel) ?_; simp [intsAV, a0, a1, a7, a8, w1]) | (refine guarded_split ?_ ?_ <;> (intro hg; simp only [hg]; simp [intsAV, a0, a1, a7, a8, w1])) | (apply awp_cond_t; focus (simp [intsAV, a0, a1, a7, a8, w1]; done)) | (apply awp_cond_f; focus (simp [intsAV, a0, a1, a7, a8, w1]; done)) | (refine awp_cond ?_; simp [intsAV, a0, a1, a7, a8, w1]; refine ⟨?_, ?_⟩ <;> intro hc))
    exact (idxOf_none hn).1.symm
theorem intContains_calls {g : FuncId} {caps : List AV} {p : Int → Bool} (z : List Int) (fz : Bool) (hl : z.length < 2 ^ 60) (hg : ∀ r ∈ z, PCalls Try.prog g (iAV r :: caps) (.raw (.bool (p r)))) :
    PCalls Try.prog 64 [intsAV z fz, .fn (.func g) [] caps] (.raw (.bool (z.any p))) := by
  refine pbody Try.func64 rfl (N := 9) rfl rfl (by simp) (by simp [noIds]) fun σ => ?_
  (try (first | (with_reducible refine dops_go ?_; simp) | (with_reducible refine OKv_go ?_; simp) | (with_reducible refine OKr_go ?_; simp))); repeat' (first | refine awp_seq ?_ | refine awp_block ?_ | (refine awp_skip ?_; try simp) | (refine awp_exit ?_; try simp) | (refine awp_ret ?_; try simp) | (refine retP_same (by simp) ?_; simp) | (refine retP_flat (by simp) (by simp) (by simp (maxDischargeDepth := 30)) ?_; simp) | (refine awp_reg ?_; simp) | (refine awp_drawT (fun _ => false) mixed (by decide +kernel) ?_; simp) | (refine guarded_split ?_ ?_ <;> (intro hg; simp only [hg]; simp)) | (apply awp_cond_t; focus (simp; done)) | (apply awp_cond_f; focus (simp; done)) | (refine awp_cond ?_; simp; refine ⟨?_, ?_⟩ <;> intro hc))
  refine PCalls.use (intIndex_calls z fz hl hg) ?_
  have := idxOf_any p z
  (try (first | (with_reducible refine dops_go ?_; simp) | (with_reducible refine OKv_go ?_; simp) | (with_reducible refine OKr_go ?_; simp))); repeat' (first | refine awp_seq ?_ | refine awp_block ?_ | (refine awp_skip ?_; try simp) | (refine awp_exit ?_; try simp) | (refine awp_ret ?_; try simp) | (refine retP_same (by simp) ?_; simp) | (refine retP_flat (by simp) (by simp) (by simp (maxDischargeDepth := 30)) ?_; simp) | (refine awp_reg ?_; simp) | (refine awp_drawT (fun _ => false) mixed (by decide +kernel) ?_; simp) | (refine guarded_split ?_ ?_ <;> (intro hg; simp only [hg]; simp)) | (apply awp_cond_t; focus (simp; done)) | (apply awp_cond_f; focus (simp; done)) | (refine awp_cond ?_; simp; refine ⟨?_, ?_⟩ <;> intro hc))
  simpa using this
end Go.Proofs.Ytanimmdlgmkmkaa.Av


/- Networks: lists that are alike. -/
namespace Go.Proofs.Ytanimmdlgmkmkaa.Av
open Go
set_option linter.unusedSimpArgs false
set_option linter.unusedVariables false
set_option maxRecDepth 100000
set_option maxHeartbeats 2000000
set_option pp.maxSteps 300

theorem take_eq {T : Type} [DecidableEq T] {x y : List T} {i : Nat} (h : x.take i = y.take i) {a : T} (hx : x[i]? = some a) (hy : y[i]? = some a) : x.take (i + 1) = y.take (i + 1) := by
  rw [List.take_add_one, List.take_add_one, h, hx, hy]

theorem intEqual_calls (x y : List Int) (fx fy : Bool) (hl : x.length < 2 ^ 60) (hl2 : y.length < 2 ^ 60) : PCalls Try.prog 66 [intsAV x fx, intsAV y fy] (.raw (.bool (decide (x = y)))) := by
  refine pbody Try.func66 rfl (N := 26) rfl rfl (by simp) (by simp [noIds]) fun σ => ?_
  by_cases hlen : x.length = y.length
  · have hli : (x.length : Int) = (y.length : Int) := by omega
    (try (first | (with_reducible refine dops_go ?_; simp [intsAV, hlen, hli]) | (with_reducible refine OKv_go ?_; simp [intsAV, hlen, hli]) | (with_reducible refine OKr_go ?_; simp [intsAV, hlen, hli]))); repeat' (first | refine awp_seq ?_ | refine awp_block ?_ | (refine awp_skip ?_; try simp) | (refine awp_exit ?_; try simp) | (refine awp_ret ?_; try simp) | (refine retP_same (by simp) ?_; simp) | (refine retP_flat (by simp) (by simp) (by simp (maxDischargeDepth := 30) [intsAV, hlen, hli]) ?_; simp) | (refine awp_reg ?_; simp [intsAV, hlen, hli]) | (refine awp_drawT (fun _ => false) mixed (by decide +kernel) ?_; simp [intsAV, hlen, hli]) | (refine guarded_split ?_ ?_ <;> (intro hg; simp only [hg]; simp [intsAV, hlen, hli])) | (apply awp_cond_t; focus (simp [intsAV, hlen, hli]; done)) | (apply awp_cond_f; focus (simp [intsAV, hlen, hli]; done)) | (refine awp_cond ?_; simp [intsAV, hlen, hli]; refine ⟨?_, ?_⟩ <;> intro hc))
    refine awp_loopH (fun n A τ => τ = σ ∧ A 0 = intsAV x fx ∧ A 1 = intsAV y fy ∧ A 12 = .raw (.int .i64 y.length) ∧ ∃ i : Nat, A 13 = .raw (.int .i64 i) ∧ i ≤ y.length ∧ n = y.length - i ∧ x.take i = y.take i) y.length ?_ ?_
    · exact ⟨rfl, by simp [intsAV], by simp [intsAV], by simp [intsAV], 0, by simp, by omega, by omega, by simp⟩
    rintro n A τ ⟨rfl, a0, a1, a12, i, a13, hi, rfl, htk⟩ I1 hI1
    by_cases hlt : i < y.length
    · have hlx : i < x.length := by omega
      have hx : x[i]? = some x[i] := List.getElem?_eq_getElem hlx
      have hy : y[i]? = some y[i] := List.getElem?_eq_getElem hlt
      have w1 : IntKind.i64.wrap ((i : Int) + 1) = ((i + 1 : Nat) : Int) := by rw [wrap64 (by omega) (by omega)]; omega
      by_cases he : x[i] = y[i]
      · skip
        (try (first | (with_reducible refine dops_go ?_; simp [intsAV, iAV, a0, a1, a12, a13, hlt, hlx, hx, hy, i_cells, he, w1]) | (with_reducible refine OKv_go ?_; simp [intsAV, iAV, a0, a1, a12, a13, hlt, hlx, hx, hy, i_cells, he, w1]) | (with_reducible refine OKr_go ?_; simp [intsAV, iAV, a0, a1, a12, a13, hlt, hlx, hx, hy, i_cells, he, w1]))); repeat' (first | refine awp_seq ?_ | refine awp_block ?_ | (refine awp_skip ?_; try simp) | (refine awp_exit ?_; try simp) | (refine awp_ret ?_; try simp) | (refine retP_same (by simp) ?_; simp) | (refine retP_flat (by simp) (by simp) (by simp (maxDischargeDepth := 30) [intsAV, iAV, a0, a1, a12, a13, hlt, hlx, hx, hy, i_cells, he, w1]) ?_; simp) | (refine awp_reg ?_; simp [intsAV, iAV, a0, a1, a12, a13, hlt, hlx, hx, hy, i_cells, he, w1]) | (refine awp_drawT (fun _ => false) mixed (by decide +kernel) ?_; simp [intsAV, iAV, a0, a1, a12, a13, hlt, hlx, hx, hy, i_cells, he, w1]) | (refine guarded_split ?_ ?_ <;> (intro hg; simp only [hg]; simp [intsAV, iAV, a0, a1, a12, a13, hlt, hlx, hx, hy, i_cells, he, w1])) | (apply awp_cond_t; focus (simp [intsAV, iAV, a0, a1, a12, a13, hlt, hlx, hx, hy, i_cells, he, w1]; done)) | (apply awp_cond_f; focus (simp [intsAV, iAV, a0, a1, a12, a13, hlt, hlx, hx, hy, i_cells, he, w1]; done)) | (refine awp_cond ?_; simp [intsAV, iAV, a0, a1, a12, a13, hlt, hlx, hx, hy, i_cells, he, w1]; refine ⟨?_, ?_⟩ <;> intro hc))
        all_goals exact hI1 (y.length - (i + 1)) _ _ (by omega) ⟨rfl, by simp [a0, intsAV, iAV], by simp [a1, intsAV, iAV], by simp [a12], i + 1, by simp [w1], by omega, rfl, take_eq htk hx (by rw [hy, he])⟩
      · skip
        (try (first | (with_reducible refine dops_go ?_; simp [intsAV, iAV, a0, a1, a12, a13, hlt, hlx, hx, hy, i_cells, he, w1]) | (with_reducible refine OKv_go ?_; simp [intsAV, iAV, a0, a1, a12, a13, hlt, hlx, hx, hy, i_cells, he, w1]) | (with_reducible refine OKr_go ?_; simp [intsAV, iAV, a0, a1, a12, a13, hlt, hlx, hx, hy, i_cells, he, w1]))); repeat' (first | refine awp_seq ?_ | refine awp_block ?_ | (refine awp_skip ?_; try simp) | (refine awp_exit ?_; try simp) | (refine awp_ret ?_; try simp) | (refine retP_same (by simp) ?_; simp) | (refine retP_flat (by simp) (by simp) (by simp (maxDischargeDepth := 30) [intsAV, iAV, a0, a1, a12, a13, hlt, hlx, hx, hy, i_cells, he, w1]) ?_; simp) | (refine awp_reg ?_; simp [intsAV, iAV, a0, a1, a12, a13, hlt, hlx, hx, hy, i_cells, he, w1]) | (refine awp_drawT (fun _ => false) mixed (by decide +kernel) ?_; simp [intsAV, iAV, a0, a1, a12, a13, hlt, hlx, hx, hy, i_cells, he, w1]) | (refine guarded_split ?_ ?_ <;> (intro hg; simp only [hg]; simp [intsAV, iAV, a0, a1, a12, a13, hlt, hlx, hx, hy, i_cells, he, w1])) | (apply awp_cond_t; focus (simp [intsAV, iAV, a0, a1, a12, a13, hlt, hlx, hx, hy, i_cells, he, w1]; done)) | (apply awp_cond_f; focus (simp [intsAV, iAV, a0, a1, a12, a13, hlt, hlx, hx, hy, i_cells, he, w1]; done)) | (refine awp_cond ?_; simp [intsAV, iAV, a0, a1, a12, a13, hlt, hlx, hx, hy, i_cells, he, w1]; refine ⟨?_, ?_⟩ <;> intro hc))
        all_goals (rintro rfl; exact he rfl)
    · have : i = y.length := by omega
      subst this
      have hxy : x = y := by
        rw [List.take_length, ← hlen, List.take_length] at htk; exact htk
      (try (first | (with_reducible refine dops_go ?_; simp [intsAV, a0, a1, a12, a13]) | (with_reducible refine OKv_go ?_; simp [intsAV, a0, a1, a12, a13]) | (with_reducible refine OKr_go ?_; simp [intsAV, a0, a1, a12, a13]))); repeat' (first | refine awp_seq ?_ | refine awp_block ?_ | (refine awp_skip ?_; try simp) | (refine awp_exit ?_; try simp) | (refine awp_ret ?_; try simp) | (refine retP_same (by simp) ?_; simp) | (refine retP_flat (by simp) (by simp) (by simp (maxDischargeDepth := 30) [intsAV, a0, a1, a12, a13]) ?_; simp) | (refine awp_reg ?_; simp [intsAV, a0, a1, a12, a13]) | (refine awp_drawT (fun _ => false) mixed (by decide +kernel) ?_; simp [intsAV, a0, a1, a12, a13]) | (refine guarded_split ?_ ?_ <;> (intro hg; simp only [hg]; simp [intsAV, a0, a1, a12, a13])) | (apply awp_cond_t; focus (simp [intsAV, a0, a1, a12, a13]; done)) | (apply awp_cond_f; focus (simp [intsAV, a0, a1, a12, a13]; done)) | (refine awp_cond ?_; simp [intsAV, a0, a1, a12, a13]; refine ⟨?_, ?_⟩ <;> intro hc))
      all_goals first | exact hxy | simp [hxy]
  · have hli : ¬ ((x.length : Int) = (y.length : Int)) := by omega
    (try (first | (with_reducible refine dops_go ?_; simp [intsAV, hlen, hli]) | (with_reducible refine OKv_go ?_; simp [intsAV, hlen, hli]) | (with_reducible refine OKr_go ?_; simp [intsAV, hlen, hli]))); repeat' (first | refine awp_seq ?_ | refine awp_block ?_ | (refine awp_skip ?_; try simp) | (refine awp_exit ?_; try simp) | (refine awp_ret ?_; try simp) | (refine retP_same (by simp) ?_; simp) | (refine retP_flat (by simp) (by simp) (by simp (maxDischargeDepth := 30) [intsAV, hlen, hli]) ?_; simp) | (refine awp_reg ?_; simp [intsAV, hlen, hli]) | (refine awp_drawT (fun _ => false) mixed (by decide +kernel) ?_; simp [intsAV, hlen, hli]) | (refine guarded_split ?_ ?_ <;> (intro hg; simp only [hg]; simp [intsAV, hlen, hli])) | (apply awp_cond_t; focus (simp [intsAV, hlen, hli]; done)) | (apply awp_cond_f; focus (simp [intsAV, hlen, hli]; done)) | (refine awp_cond ?_; simp [intsAV, hlen, hli]; refine ⟨?_, ?_⟩ <;> intro hc))
    all_goals (rintro rfl; exact hlen rfl)
end Go.Proofs.Ytanimmdlgmkmkaa.Av


/- Networks: the ports that are joined. -/
namespace Go.Proofs.Ytanimmdlgmkmkaa.Av
open Go
set_option linter.unusedSimpArgs false
set_option linter.unusedVariables false
set_option maxRecDepth 100000
set_option maxHeartbeats 2000000
set_option pp.maxSteps 300

def ptV (p : Pt) : Value := .agg #[.int .i64 p.dev, .int .i64 p.port]
def enc (m : List (Pt × Pt)) : List (Value × AV) := m.map fun e => (ptV e.1, ptAV e.2)
def upd (m : List (Pt × Pt)) (k v : Pt) : List (Pt × Pt) := m.filter (fun e => decide (k ≠ e.1)) ++ [(k, v)]
theorem key_eq (k q : Pt) : structEq Try.prog 4 41 (ptAV k) (constAV (ptV q)) = some (decide (k = q)) := by
  have : decide (k = q) = (decide (k.dev = q.dev) && decide (k.port = q.port)) := by
    cases k; cases q; simp
  rw [this]
  simp [structEq, ptAV, ptV, fieldsEq, rowLoad, cellEq, constCell]
theorem split_pt (k : Pt) : ∀ m : List (Pt × Pt), splitM Try.prog 41 (ptAV k) (enc m) = some (enc (m.filter fun e => decide (k = e.1)), enc (m.filter fun e => decide (k ≠ e.1)))
  | [] => rfl
  | e :: m => by
    have ih := split_pt k m
    simp only [enc, List.map_cons] at ih ⊢
    simp only [splitM, key_eq]
    by_cases h : k = e.1
    · simp [h] at ih ⊢; rw [ih]
    · simp [h] at ih ⊢; rw [ih]
def keysN (m : List (Pt × Pt)) : Prop := (m.map (·.1)).Nodup
theorem one_key {m : List (Pt × Pt)} (h : keysN m) (k : Pt) : (m.filter fun e => decide (k = e.1)) = [] ∨ ∃ v, (m.filter fun e => decide (k = e.1)) = [(k, v)] := by
  induction m with
  | nil => exact .inl rfl
  | cons e m ih =>
    have h' := List.nodup_cons.1 (show (e.1 :: m.map (·.1)).Nodup from h)
    by_cases hk : k = e.1
    · right
      refine ⟨e.2, ?_⟩
      have : (m.filter fun e => decide (k = e.1)) = [] := by
        rw [List.filter_eq_nil_iff]
        intro x hx hkx
        simp only [decide_eq_true_eq] at hkx
        exact h'.1 (by rw [← hk, hkx]; exact List.mem_map.2 ⟨x, hx, rfl⟩)
      rw [List.filter_cons_of_pos (by simp [hk]), this, hk]
    · rw [List.filter_cons_of_neg (by simpa using hk)]
      exact ih h'.2
theorem keys_upd {m : List (Pt × Pt)} (h : keysN m) (k v : Pt) : keysN (upd m k v) := by
  unfold keysN upd at *
  rw [List.map_append, List.nodup_append]
  refine ⟨h.sublist (List.Sublist.map _ List.filter_sublist), by simp, fun a ha b hb e => ?_⟩
  simp only [List.map_cons, List.map_nil, List.mem_singleton] at hb
  subst hb; subst e
  obtain ⟨x, hx, rfl⟩ := List.mem_map.1 ha
  simpa using (List.mem_filter.1 hx).2
theorem bits_pt (k : Pt) : Instr.sameBits 10000 (ptV k) (ptV k) = true := by
  have : (10000 : Nat) = 9999 + 1 := rfl
  rw [this]
  simp [ptV, Instr.sameBits]
theorem check_pt (k : Pt) : checkA Try.prog 41 (ptAV k) = true := by simp [checkA, ptAV, rowLoad]
theorem opUpd {m : Mem} {i : Id} {L : List (Pt × Pt)} (hm : m i = some (.map (enc L))) (hk : keysN L) (k v : Pt) : opMapUpdate Try.prog m 167 (.mp i) (ptAV k) (ptAV v) = some (.wrm i (enc (upd L k v))) := by
  have hkv : keyVal (ptAV k) = some (ptV k) := rfl
  unfold opMapUpdate
  simp only [mty167, hkv, hm, check_pt, wid41, and_self, if_true, split_pt]
  rcases one_key hk k with h | ⟨w, h⟩
  · rw [h]
    simp [enc, upd]
  · rw [h]
    simp [enc, upd, bits_pt]
theorem opLook {m : Mem} {i : Id} {L : List (Pt × Pt)} (hm : m i = some (.map (enc L))) (hk : keysN L) (k : Pt) :
    opLookup Try.prog m 167 (.mp i) (ptAV k) true = some (match L.find? (fun e => decide (k = e.1)) with | some e => .tup [ptAV e.2, .raw (.bool true)] | none => .tup [ptAV ⟨0, 0⟩, .raw (.bool false)]) := by
  unfold opLookup
  simp only [mty167, hm, check_pt, wid41, and_self, if_true, split_pt]
  have hf : L.find? (fun e => decide (k = e.1)) = (L.filter fun e => decide (k = e.1)).head? := by simp
  rw [hf]
  rcases one_key hk k with h | ⟨w, h⟩
  · rw [h]; simp [enc, ptAV, constCell]
  · rw [h]; simp [enc]

def joinM (L : List Lk) : List (Pt × Pt) := L.foldl (fun m l => upd (upd m l.a l.b) l.b l.a) []
theorem joinM_keys (L : List Lk) : keysN (joinM L) := by
  have : ∀ (L : List Lk) m, keysN m → keysN (L.foldl (fun m l => upd (upd m l.a l.b) l.b l.a) m) := by
    intro L
    induction L with
    | nil => exact fun m h => h
    | cons l L ih => exact fun m h => ih _ (keys_upd (keys_upd h _ _) _ _)
  exact this L [] (by simp [keysN])
theorem joinM_step {L : List Lk} {k : Nat} {l : Lk} (h : L[k]? = some l) : joinM (L.take (k + 1)) = upd (upd (joinM (L.take k)) l.a l.b) l.b l.a := by
  rw [List.take_add_one, h]
  simp [joinM, List.foldl_append]
theorem plain_enc (m : List (Pt × Pt)) : plainL ((enc m).map (·.2)) = true := by
  induction m with
  | nil => rfl
  | cons e m ih => simp only [enc, List.map_cons, plainL] at ih ⊢; rw [ih]; rfl
theorem lk_cells' (l : Lk) : (lkAV l).cells = [.raw (.int .i64 l.a.dev), .raw (.int .i64 l.a.port), .raw (.int .i64 l.b.dev), .raw (.int .i64 l.b.port)] := rfl
theorem pt_fold (d p : Int) : AV.agg [.raw (.int .i64 d), .raw (.int .i64 p)] = ptAV ⟨d, p⟩ := rfl

theorem joined_calls (t : Tp) (f : Fl) (hl : t.links.length < 2 ^ 42) : MCalls Try.prog 111 [tpAV t f] 0 (.map (enc (joinM t.links))) .mp := by
  refine mcalls_map (plain_enc _) fun σ => ?_
  refine abody Try.func111 rfl (N := 26) rfl rfl (by simp) ?_
  (try (first | (with_reducible refine dops_go ?_; simp [tpAV, linksAV, intsAV]) | (with_reducible refine OKv_go ?_; simp [tpAV, linksAV, intsAV]) | (with_reducible refine OKr_go ?_; simp [tpAV, linksAV, intsAV]))); repeat' (first | refine awp_seq ?_ | refine awp_block ?_ | (refine awp_skip ?_; try simp) | (refine awp_exit ?_; try simp) | (refine awp_ret ?_; try simp) | (refine retP_same (by simp) ?_; simp) | (refine retP_flat (by simp) (by simp) (by simp (maxDischargeDepth := 30) [tpAV, linksAV, intsAV]) ?_; simp) | (refine awp_reg ?_; simp [tpAV, linksAV, intsAV]) | (refine awp_drawT (fun _ => false) mixed (by decide +kernel) ?_; simp [tpAV, linksAV, intsAV]) | (refine guarded_split ?_ ?_ <;> (intro hg; simp only [hg]; simp [tpAV, linksAV, intsAV])) | (apply awp_cond_t; focus (simp [tpAV, linksAV, intsAV]; done)) | (apply awp_cond_f; focus (simp [tpAV, linksAV, intsAV]; done)) | (refine awp_cond ?_; simp [tpAV, linksAV, intsAV]; refine ⟨?_, ?_⟩ <;> intro hc))
  refine awp_loopH (fun n A τ => Ext σ τ ∧ A 3 = .mp ⟨6, σ.nx 6, 0⟩ ∧ A 8 = linksAV t.links f.l ∧ A 9 = .raw (.int .i64 t.links.length) ∧ ∃ k : Nat, A 10 = .raw (.int .i64 k) ∧ k ≤ t.links.length ∧ τ.m ⟨6, σ.nx 6, 0⟩ = some (.map (enc (joinM (t.links.take k)))) ∧ n = t.links.length - k) t.links.length ?_ ?_
  · exact ⟨by simp (maxDischargeDepth := 30), by simp [St.new], by simp [linksAV], by simp, 0, by simp, by omega, by simp [St.new, joinM, enc], by omega⟩
  rintro n A τ ⟨hE, a3, a8, a9, k, a10, hk, hm, rfl⟩ I1 hI1
  have f6 : σ.m ⟨6, σ.nx 6, 0⟩ = none := fresh_none _ _ _
  by_cases hlt : k < t.links.length
  · have hx : t.links[k]? = some t.links[k] := List.getElem?_eq_getElem hlt
    have w1 : IntKind.i64.wrap ((k : Int) + 1) = ((k + 1 : Nat) : Int) := by rw [wrap64 (by omega) (by omega)]; omega
    have hj := joinM_step hx
    have fa : AV.agg [.raw (.int .i64 t.links[k].a.dev), .raw (.int .i64 t.links[k].a.port)] = ptAV t.links[k].a := rfl
    have fb : AV.agg [.raw (.int .i64 t.links[k].b.dev), .raw (.int .i64 t.links[k].b.port)] = ptAV t.links[k].b := rfl
    have hu1 : ∀ m : Mem, m ⟨6, σ.nx 6, 0⟩ = some (.map (enc (joinM (t.links.take k)))) → opMapUpdate Try.prog m 167 (.mp ⟨6, σ.nx 6, 0⟩) (ptAV t.links[k].a) (ptAV t.links[k].b) = some (.wrm ⟨6, σ.nx 6, 0⟩ (enc (upd (joinM (t.links.take k)) t.links[k].a t.links[k].b))) := fun m h => opUpd h (joinM_keys _) _ _
    have hu2 : ∀ m : Mem, m ⟨6, σ.nx 6, 0⟩ = some (.map (enc (upd (joinM (t.links.take k)) t.links[k].a t.links[k].b))) → opMapUpdate Try.prog m 167 (.mp ⟨6, σ.nx 6, 0⟩) (ptAV t.links[k].b) (ptAV t.links[k].a) = some (.wrm ⟨6, σ.nx 6, 0⟩ (enc (joinM (t.links.take (k + 1))))) := fun m h => by
      rw [hj]; exact opUpd h (keys_upd (joinM_keys _) _ _) _ _
    clear hj
    (try (first | (with_reducible refine dops_go ?_; simp [a3, a8, a9, a10, hlt, hx, hm, linksAV, lk_cells', fa, fb, hu1, hu2, w1]) | (with_reducible refine OKv_go ?_; simp [a3, a8, a9, a10, hlt, hx, hm, linksAV, lk_cells', fa, fb, hu1, hu2, w1]) | (with_reducible refine OKr_go ?_; simp [a3, a8, a9, a10, hlt, hx, hm, linksAV, lk_cells', fa, fb, hu1, hu2, w1]))); repeat' (first | refine awp_seq ?_ | refine awp_block ?_ | (refine awp_skip ?_; try simp) | (refine awp_exit ?_; try simp) | (refine awp_ret ?_; try simp) | (refine retP_same (by simp) ?_; simp) | (refine retP_flat (by simp) (by simp) (by simp (maxDischargeDepth := 30) [a3, a8, a9, a10, hlt, hx, hm, linksAV, lk_cells', fa, fb, hu1, hu2, w1]) ?_; simp) | (refine awp_reg ?_; simp [a3, a8, a9, a10, hlt, hx, hm, linksAV, lk_cells', fa, fb, hu1, hu2, w1]) | (refine awp_drawT (fun _ => false) mixed (by decide +kernel) ?_; simp [a3, a8, a9, a10, hlt, hx, hm, linksAV, lk_cells', fa, fb, hu1, hu2, w1]) | (refine guarded_split ?_ ?_ <;> (intro hg; simp only [hg]; simp [a3, a8, a9, a10, hlt, hx, hm, linksAV, lk_cells', fa, fb, hu1, hu2, w1])) | (apply awp_cond_t; focus (simp [a3, a8, a9, a10, hlt, hx, hm, linksAV, lk_cells', fa, fb, hu1, hu2, w1]; done)) | (apply awp_cond_f; focus (simp [a3, a8, a9, a10, hlt, hx, hm, linksAV, lk_cells', fa, fb, hu1, hu2, w1]; done)) | (refine awp_cond ?_; simp [a3, a8, a9, a10, hlt, hx, hm, linksAV, lk_cells', fa, fb, hu1, hu2, w1]; refine ⟨?_, ?_⟩ <;> intro hc))
    exact hI1 (t.links.length - (k + 1)) _ _ (by omega) ⟨Ext.setF (Ext.setF (by simp [hE]) f6) f6, by simp [a3], by simp [a8, linksAV], by simp [a9], k + 1, by simp, by omega, by simp [St.set, St.new, hm], rfl⟩
  · have : k = t.links.length := by omega
    subst this
    rw [List.take_length] at hm
    (try (first | (with_reducible refine dops_go ?_; simp [a3, a8, a9, a10]) | (with_reducible refine OKv_go ?_; simp [a3, a8, a9, a10]) | (with_reducible refine OKr_go ?_; simp [a3, a8, a9, a10]))); repeat' (first | refine awp_seq ?_ | refine awp_block ?_ | (refine awp_skip ?_; try simp) | (refine awp_exit ?_; try simp) | (refine awp_ret ?_; try simp) | (refine awp_reg ?_; simp [a3, a8, a9, a10]) | (refine awp_drawT (fun _ => false) mixed (by decide +kernel) ?_; simp [a3, a8, a9, a10]) | (refine guarded_split ?_ ?_ <;> (intro hg; simp only [hg]; simp [a3, a8, a9, a10])) | (apply awp_cond_t; focus (simp [a3, a8, a9, a10]; done)) | (apply awp_cond_f; focus (simp [a3, a8, a9, a10]; done)) | (refine awp_cond ?_; simp [a3, a8, a9, a10]; refine ⟨?_, ?_⟩ <;> intro hc))
    exact retK_of (.inr rfl) (by simp) ⟨_, rfl, hm, f6, hE⟩

/-- The port to which a port is joined, as the program says it. -/
def nextM (t : Tp) (p : Pt) : Option Pt := ((joinM t.links).find? fun e => decide (p = e.1)).map (·.2)
theorem next_calls (t : Tp) (f : Fl) (p : Pt) (hl : t.links.length < 2 ^ 42) :
    PCalls Try.prog 71 [tpAV t f, ptAV p] (.tup [ptAV ((nextM t p).getD ⟨0, 0⟩), .raw (.bool (nextM t p).isSome)]) := by
  have hj := joined_calls t f hl
  refine pbody Try.func71 rfl (N := 17) rfl rfl (by simp) (by simp [noIds, ptAV]) fun σ => ?_
  have hpc : ∀ q : Pt, (ptAV q).cells = [.raw (.int .i64 q.dev), .raw (.int .i64 q.port)] := fun q => rfl
  have htc : (tpAV t f).cells = [intsAV t.ports f.p, linksAV t.links f.l] := rfl
  have hfo : ∀ q : Pt, AV.agg [.raw (.int .i64 q.dev), .raw (.int .i64 q.port)] = ptAV q := fun q => rfl
  have hft : AV.agg [intsAV t.ports f.p, linksAV t.links f.l] = tpAV t f := rfl
  have ho1 : cellOK (intsAV t.ports f.p) = true := rfl
  have ho2 : cellOK (linksAV t.links f.l) = true := rfl
  simp only [cellOK] at ho1 ho2
  have hlk : ∀ m : Mem, ∀ i, m i = some (.map (enc (joinM t.links))) → opLookup Try.prog m 167 (.mp i) (ptAV p) true = some (.tup [ptAV ((nextM t p).getD ⟨0, 0⟩), .raw (.bool (nextM t p).isSome)]) := fun m i h => by
    rw [opLook h (joinM_keys _)]
    unfold nextM
    cases (joinM t.links).find? fun e => decide (p = e.1) <;> rfl
  obtain ⟨q, hq⟩ : ∃ q, (nextM t p).getD ⟨0, 0⟩ = q := ⟨_, rfl⟩
  obtain ⟨b, hb⟩ : ∃ b, (nextM t p).isSome = b := ⟨_, rfl⟩
  rw [hq, hb] at hlk ⊢
  (try (first | (with_reducible refine dops_go ?_; simp [hpc, htc, hfo, hft, ho1, ho2]) | (with_reducible refine OKv_go ?_; simp [hpc, htc, hfo, hft, ho1, ho2]) | (with_reducible refine OKr_go ?_; simp [hpc, htc, hfo, hft, ho1, ho2]))); repeat' (first | refine awp_seq ?_ | refine awp_block ?_ | (refine awp_skip ?_; try simp) | (refine awp_exit ?_; try simp) | (refine awp_ret ?_; try simp) | (refine retP_same (by simp) ?_; simp) | (refine retP_flat (by simp) (by simp) (by simp (maxDischargeDepth := 30) [hpc, htc, hfo, hft, ho1, ho2]) ?_; simp) | (refine awp_reg ?_; simp [hpc, htc, hfo, hft, ho1, ho2]) | (refine awp_drawT (fun _ => false) mixed (by decide +kernel) ?_; simp [hpc, htc, hfo, hft, ho1, ho2]) | (refine guarded_split ?_ ?_ <;> (intro hg; simp only [hg]; simp [hpc, htc, hfo, hft, ho1, ho2])) | (apply awp_cond_t; focus (simp [hpc, htc, hfo, hft, ho1, ho2]; done)) | (apply awp_cond_f; focus (simp [hpc, htc, hfo, hft, ho1, ho2]; done)) | (refine awp_cond ?_; simp [hpc, htc, hfo, hft, ho1, ho2]; refine ⟨?_, ?_⟩ <;> intro hc))
  refine awp_drawT (fun o => o.dst == some 10) mixed (by decide +kernel) ?_
  (try (first | (with_reducible refine dops_go ?_; simp [hpc, htc, hfo, hft, ho1, ho2]) | (with_reducible refine OKv_go ?_; simp [hpc, htc, hfo, hft, ho1, ho2]) | (with_reducible refine OKr_go ?_; simp [hpc, htc, hfo, hft, ho1, ho2]))); repeat' (first | refine awp_seq ?_ | refine awp_block ?_ | (refine awp_skip ?_; try simp) | (refine awp_exit ?_; try simp) | (refine awp_ret ?_; try simp) | (refine retP_same (by simp) ?_; simp) | (refine retP_flat (by simp) (by simp) (by simp (maxDischargeDepth := 30) [hpc, htc, hfo, hft, ho1, ho2]) ?_; simp) | (refine awp_reg ?_; simp [hpc, htc, hfo, hft, ho1, ho2]) | (refine awp_drawT (fun _ => false) mixed (by decide +kernel) ?_; simp [hpc, htc, hfo, hft, ho1, ho2]) | (refine guarded_split ?_ ?_ <;> (intro hg; simp only [hg]; simp [hpc, htc, hfo, hft, ho1, ho2])) | (apply awp_cond_t; focus (simp [hpc, htc, hfo, hft, ho1, ho2]; done)) | (apply awp_cond_f; focus (simp [hpc, htc, hfo, hft, ho1, ho2]; done)) | (refine awp_cond ?_; simp [hpc, htc, hfo, hft, ho1, ho2]; refine ⟨?_, ?_⟩ <;> intro hc))
  refine .inr ⟨_, _, _, hj, ?_⟩
  have hpp : ∀ q : Pt, setPart (AV.agg [.raw (.int .i64 0), .raw (.int .i64 0)]) 0 [.raw (.int .i64 q.dev), .raw (.int .i64 q.port)] = ptAV q := fun q => rfl
  have hpq : ∀ q : Pt, setPart (ptAV ⟨0, 0⟩) 0 [.raw (.int .i64 q.dev), .raw (.int .i64 q.port)] = ptAV q := fun q => rfl
  (try (first | (with_reducible refine dops_go ?_; simp [hpc, htc, hfo, hft, ho1, ho2, hlk, hpp, hpq]) | (with_reducible refine OKv_go ?_; simp [hpc, htc, hfo, hft, ho1, ho2, hlk, hpp, hpq]) | (with_reducible refine OKr_go ?_; simp [hpc, htc, hfo, hft, ho1, ho2, hlk, hpp, hpq]))); repeat' (first | refine awp_seq ?_ | refine awp_block ?_ | (refine awp_skip ?_; try simp) | (refine awp_exit ?_; try simp) | (refine awp_ret ?_; try simp) | (refine awp_reg ?_; simp [hpc, htc, hfo, hft, ho1, ho2, hlk, hpp, hpq]) | (refine awp_drawT (fun _ => false) mixed (by decide +kernel) ?_; simp [hpc, htc, hfo, hft, ho1, ho2, hlk, hpp, hpq]) | (refine guarded_split ?_ ?_ <;> (intro hg; simp only [hg]; simp [hpc, htc, hfo, hft, ho1, ho2, hlk, hpp, hpq])) | (apply awp_cond_t; focus (simp [hpc, htc, hfo, hft, ho1, ho2, hlk, hpp, hpq]; done)) | (apply awp_cond_f; focus (simp [hpc, htc, hfo, hft, ho1, ho2, hlk, hpp, hpq]; done)) | (refine awp_cond ?_; simp [hpc, htc, hfo, hft, ho1, ho2, hlk, hpp, hpq]; refine ⟨?_, ?_⟩ <;> intro hc))
  refine retP_flat (.inr rfl) rfl (Ext.setF (by simp (maxDischargeDepth := 30)) ?_) ?_
  · have := fresh_none σ 4 2
    simpa [St.new] using this
  · simp [St.set, St.new, hfo, hpc]
end Go.Proofs.Ytanimmdlgmkmkaa.Av


/- Networks: right topologies; rules that fit. -/
namespace Go.Proofs.Ytanimmdlgmkmkaa.Av
open Go
set_option linter.unusedSimpArgs false
set_option linter.unusedVariables false
set_option maxRecDepth 100000
set_option maxHeartbeats 2000000
set_option pp.maxSteps 300

def linkBad (t : Tp) (l : Lk) : Bool := !hasB t l.a || (!hasB t l.b || decide (l.a = l.b))
theorem tp_cells (t : Tp) (f : Fl) : (tpAV t f).cells = [intsAV t.ports f.p, linksAV t.links f.l] := rfl
theorem tp_fold (t : Tp) (f : Fl) : AV.agg [intsAV t.ports f.p, linksAV t.links f.l] = tpAV t f := rfl
theorem ruPort_fold (r : Ru) : AV.agg [.raw (.int .i64 r.dev), .raw (.int .i64 r.port)] = ptAV ⟨r.dev, r.port⟩ := rfl
def fitsB (t : Tp) (l : List Ru) : Bool := !(l.any fun r => !hasB t ⟨r.dev, r.port⟩)
def portsBad (t : Tp) : Bool := t.ports.any fun n => decide (n < 1) || decide (4 < n)
def rightT (t : Tp) : Bool := !decide (t.ports.length = 0) && (!decide (8 < t.ports.length) && (!decide (16 < t.links.length) && (!portsBad t && (!t.links.any (linkBad t) && decide ((joinM t.links).length = 2 * t.links.length)))))
end Go.Proofs.Ytanimmdlgmkmkaa.Av


/- Networks: lists that are alike. -/
namespace Go.Proofs.Ytanimmdlgmkmkaa.Av
open Go
set_option linter.unusedSimpArgs false
set_option linter.unusedVariables false
set_option maxRecDepth 100000
set_option maxHeartbeats 2000000
set_option pp.maxSteps 300

theorem opBin_raw {P : Program} {op : BinOp} {t : TypeId} {a b : Value} : opBin P op t (.raw a) (.raw b) = opBin0 P op t (.raw a) (.raw b) := rfl
theorem lk_eq (a b : Lk) : structEq Try.prog 4 129 (lkAV a) (lkAV b) = some (decide (a = b)) := by
  have : decide (a = b) = (decide (a.a.dev = b.a.dev) && decide (a.a.port = b.a.port) && (decide (a.b.dev = b.b.dev) && decide (a.b.port = b.b.port))) := by
    rcases a with ⟨⟨a1, a2⟩, ⟨a3, a4⟩⟩; rcases b with ⟨⟨b1, b2⟩, ⟨b3, b4⟩⟩
    rw [Bool.eq_iff_iff]; simp
  rw [this]
  simp [structEq, lkAV, fieldsEq, rowLoad, cellEq]
theorem lk_neq (a b : Lk) : opBin Try.prog .neq 129 (lkAV a) (lkAV b) = some (.raw (.bool (!decide (a = b)))) := by
  have e1 : ∀ x y : Lk, opBin Try.prog .neq 129 (lkAV x) (lkAV y) = if Try.prog.eqGuardType Try.prog.depth 129 = false then (structEq Try.prog 4 129 (lkAV x) (lkAV y)).bind fun b => (nilBin .neq b).map .raw else none := fun x y => rfl
  rw [e1, if_pos eqg129, lk_eq]
  rfl
theorem lkEqual_calls (x y : List Lk) (fx fy : Bool) (hl : x.length < 2 ^ 60) (hl2 : y.length < 2 ^ 60) : PCalls Try.prog 67 [linksAV x fx, linksAV y fy] (.raw (.bool (decide (x = y)))) := by
  refine pbody Try.func67 rfl (N := 26) rfl rfl (by simp) (by simp [noIds]) fun σ => ?_
  by_cases hlen : x.length = y.length
  · have hli : (x.length : Int) = (y.length : Int) := by omega
    (try (first | (with_reducible refine dops_go ?_; simp [linksAV, hlen, hli]) | (with_reducible refine OKv_go ?_; simp [linksAV, hlen, hli]) | (with_reducible refine OKr_go ?_; simp [linksAV, hlen, hli]))); repeat' (first | refine awp_seq ?_ | refine awp_block ?_ | (refine awp_skip ?_; try simp) | (refine awp_exit ?_; try simp) | (refine awp_ret ?_; try simp) | (refine retP_same (by simp) ?_; simp) | (refine retP_flat (by simp) (by simp) (by simp (maxDischargeDepth := 30) [linksAV, hlen, hli]) ?_; simp) | (refine awp_reg ?_; simp [linksAV, hlen, hli]) | (refine awp_drawT (fun _ => false) mixed (by decide +kernel) ?_; simp [linksAV, hlen, hli]) | (refine guarded_split ?_ ?_ <;> (intro hg; simp only [hg]; simp [linksAV, hlen, hli])) | (apply awp_cond_t; focus (simp [linksAV, hlen, hli]; done)) | (apply awp_cond_f; focus (simp [linksAV, hlen, hli]; done)) | (refine awp_cond ?_; simp [linksAV, hlen, hli]; refine ⟨?_, ?_⟩ <;> intro hc))
    refine awp_loopH (fun n A τ => τ = σ ∧ A 0 = linksAV x fx ∧ A 1 = linksAV y fy ∧ A 12 = .raw (.int .i64 y.length) ∧ ∃ i : Nat, A 13 = .raw (.int .i64 i) ∧ i ≤ y.length ∧ n = y.length - i ∧ x.take i = y.take i) y.length ?_ ?_
    · exact ⟨rfl, by simp [linksAV], by simp [linksAV], by simp [linksAV], 0, by simp, by omega, by omega, by simp⟩
    rintro n A τ ⟨rfl, a0, a1, a12, i, a13, hi, rfl, htk⟩ I1 hI1
    by_cases hlt : i < y.length
    · have hlx : i < x.length := by omega
      have hx : x[i]? = some x[i] := List.getElem?_eq_getElem hlx
      have hy : y[i]? = some y[i] := List.getElem?_eq_getElem hlt
      have w1 : IntKind.i64.wrap ((i : Int) + 1) = ((i + 1 : Nat) : Int) := by rw [wrap64 (by omega) (by omega)]; omega
      have fx_ : AV.agg [.raw (.int .i64 x[i].a.dev), .raw (.int .i64 x[i].a.port), .raw (.int .i64 x[i].b.dev), .raw (.int .i64 x[i].b.port)] = lkAV x[i] := rfl
      have fy_ : AV.agg [.raw (.int .i64 y[i].a.dev), .raw (.int .i64 y[i].a.port), .raw (.int .i64 y[i].b.dev), .raw (.int .i64 y[i].b.port)] = lkAV y[i] := rfl
      by_cases he : x[i] = y[i]
      · skip
        (try (first | (with_reducible refine dops_go ?_; simp [linksAV, a0, a1, a12, a13, hlt, hlx, hx, hy, lk_cells, fx_, fy_, lk_neq, opBin_raw, -opBin, he, w1]) | (with_reducible refine OKv_go ?_; simp [linksAV, a0, a1, a12, a13, hlt, hlx, hx, hy, lk_cells, fx_, fy_, lk_neq, opBin_raw, -opBin, he, w1]) | (with_reducible refine OKr_go ?_; simp [linksAV, a0, a1, a12, a13, hlt, hlx, hx, hy, lk_cells, fx_, fy_, lk_neq, opBin_raw, -opBin, he, w1]))); repeat' (first | refine awp_seq ?_ | refine awp_block ?_ | (refine awp_skip ?_; try simp) | (refine awp_exit ?_; try simp) | (refine awp_ret ?_; try simp) | (refine retP_same (by simp) ?_; simp) | (refine retP_flat (by simp) (by simp) (by simp (maxDischargeDepth := 30) [linksAV, a0, a1, a12, a13, hlt, hlx, hx, hy, lk_cells, fx_, fy_, lk_neq, opBin_raw, -opBin, he, w1]) ?_; simp) | (refine awp_reg ?_; simp [linksAV, a0, a1, a12, a13, hlt, hlx, hx, hy, lk_cells, fx_, fy_, lk_neq, opBin_raw, -opBin, he, w1]) | (refine awp_drawT (fun _ => false) mixed (by decide +kernel) ?_; simp [linksAV, a0, a1, a12, a13, hlt, hlx, hx, hy, lk_cells, fx_, fy_, lk_neq, opBin_raw, -opBin, he, w1]) | (refine guarded_split ?_ ?_ <;> (intro hg; simp only [hg]; simp [linksAV, a0, a1, a12, a13, hlt, hlx, hx, hy, lk_cells, fx_, fy_, lk_neq, opBin_raw, -opBin, he, w1])) | (apply awp_cond_t; focus (simp [linksAV, a0, a1, a12, a13, hlt, hlx, hx, hy, lk_cells, fx_, fy_, lk_neq, opBin_raw, -opBin, he, w1]; done)) | (apply awp_cond_f; focus (simp [linksAV, a0, a1, a12, a13, hlt, hlx, hx, hy, lk_cells, fx_, fy_, lk_neq, opBin_raw, -opBin, he, w1]; done)) | (refine awp_cond ?_; simp [linksAV, a0, a1, a12, a13, hlt, hlx, hx, hy, lk_cells, fx_, fy_, lk_neq, opBin_raw, -opBin, he, w1]; refine ⟨?_, ?_⟩ <;> intro hc))

        all_goals exact hI1 (y.length - (i + 1)) _ _ (by omega) ⟨rfl, by simp [a0, linksAV], by simp [a1, linksAV], by simp [a12], i + 1, by simp [w1], by omega, rfl, take_eq htk hx (by rw [hy, he])⟩
      · skip
        (try (first | (with_reducible refine dops_go ?_; simp [linksAV, a0, a1, a12, a13, hlt, hlx, hx, hy, lk_cells, fx_, fy_, lk_neq, opBin_raw, -opBin, he, w1]) | (with_reducible refine OKv_go ?_; simp [linksAV, a0, a1, a12, a13, hlt, hlx, hx, hy, lk_cells, fx_, fy_, lk_neq, opBin_raw, -opBin, he, w1]) | (with_reducible refine OKr_go ?_; simp [linksAV, a0, a1, a12, a13, hlt, hlx, hx, hy, lk_cells, fx_, fy_, lk_neq, opBin_raw, -opBin, he, w1]))); repeat' (first | refine awp_seq ?_ | refine awp_block ?_ | (refine awp_skip ?_; try simp) | (refine awp_exit ?_; try simp) | (refine awp_ret ?_; try simp) | (refine retP_same (by simp) ?_; simp) | (refine retP_flat (by simp) (by simp) (by simp (maxDischargeDepth := 30) [linksAV, a0, a1, a12, a13, hlt, hlx, hx, hy, lk_cells, fx_, fy_, lk_neq, opBin_raw, -opBin, he, w1]) ?_; simp) | (refine awp_reg ?_; simp [linksAV, a0, a1, a12, a13, hlt, hlx, hx, hy, lk_cells, fx_, fy_, lk_neq, opBin_raw, -opBin, he, w1]) | (refine awp_drawT (fun _ => false) mixed (by decide +kernel) ?_; simp [linksAV, a0, a1, a12, a13, hlt, hlx, hx, hy, lk_cells, fx_, fy_, lk_neq, opBin_raw, -opBin, he, w1]) | (refine guarded_split ?_ ?_ <;> (intro hg; simp only [hg]; simp [linksAV, a0, a1, a12, a13, hlt, hlx, hx, hy, lk_cells, fx_, fy_, lk_neq, opBin_raw, -opBin, he, w1])) | (apply awp_cond_t; focus (simp [linksAV, a0, a1, a12, a13, hlt, hlx, hx, hy, lk_cells, fx_, fy_, lk_neq, opBin_raw, -opBin, he, w1]; done)) | (apply awp_cond_f; focus (simp [linksAV, a0, a1, a12, a13, hlt, hlx, hx, hy, lk_cells, fx_, fy_, lk_neq, opBin_raw, -opBin, he, w1]; done)) | (refine awp_cond ?_; simp [linksAV, a0, a1, a12, a13, hlt, hlx, hx, hy, lk_cells, fx_, fy_, lk_neq, opBin_raw, -opBin, he, w1]; refine ⟨?_, ?_⟩ <;> intro hc))
        all_goals (rintro rfl; exact he rfl)
    · have : i = y.length := by omega
      subst this
      have hxy : x = y := by
        rw [List.take_length, ← hlen, List.take_length] at htk; exact htk
      (try (first | (with_reducible refine dops_go ?_; simp [linksAV, a0, a1, a12, a13]) | (with_reducible refine OKv_go ?_; simp [linksAV, a0, a1, a12, a13]) | (with_reducible refine OKr_go ?_; simp [linksAV, a0, a1, a12, a13]))); repeat' (first | refine awp_seq ?_ | refine awp_block ?_ | (refine awp_skip ?_; try simp) | (refine awp_exit ?_; try simp) | (refine awp_ret ?_; try simp) | (refine retP_same (by simp) ?_; simp) | (refine retP_flat (by simp) (by simp) (by simp (maxDischargeDepth := 30) [linksAV, a0, a1, a12, a13]) ?_; simp) | (refine awp_reg ?_; simp [linksAV, a0, a1, a12, a13]) | (refine awp_drawT (fun _ => false) mixed (by decide +kernel) ?_; simp [linksAV, a0, a1, a12, a13]) | (refine guarded_split ?_ ?_ <;> (intro hg; simp only [hg]; simp [linksAV, a0, a1, a12, a13])) | (apply awp_cond_t; focus (simp [linksAV, a0, a1, a12, a13]; done)) | (apply awp_cond_f; focus (simp [linksAV, a0, a1, a12, a13]; done)) | (refine awp_cond ?_; simp [linksAV, a0, a1, a12, a13]; refine ⟨?_, ?_⟩ <;> intro hc))
      all_goals first | exact hxy | simp [hxy]
  · have hli : ¬ ((x.length : Int) = (y.length : Int)) := by omega
    (try (first | (with_reducible refine dops_go ?_; simp [linksAV, hlen, hli]) | (with_reducible refine OKv_go ?_; simp [linksAV, hlen, hli]) | (with_reducible refine OKr_go ?_; simp [linksAV, hlen, hli]))); repeat' (first | refine awp_seq ?_ | refine awp_block ?_ | (refine awp_skip ?_; try simp) | (refine awp_exit ?_; try simp) | (refine awp_ret ?_; try simp) | (refine retP_same (by simp) ?_; simp) | (refine retP_flat (by simp) (by simp) (by simp (maxDischargeDepth := 30) [linksAV, hlen, hli]) ?_; simp) | (refine awp_reg ?_; simp [linksAV, hlen, hli]) | (refine awp_drawT (fun _ => false) mixed (by decide +kernel) ?_; simp [linksAV, hlen, hli]) | (refine guarded_split ?_ ?_ <;> (intro hg; simp only [hg]; simp [linksAV, hlen, hli])) | (apply awp_cond_t; focus (simp [linksAV, hlen, hli]; done)) | (apply awp_cond_f; focus (simp [linksAV, hlen, hli]; done)) | (refine awp_cond ?_; simp [linksAV, hlen, hli]; refine ⟨?_, ?_⟩ <;> intro hc))
    all_goals (rintro rfl; exact hlen rfl)
end Go.Proofs.Ytanimmdlgmkmkaa.Av


/- Networks: topologies that are alike; what fits, by the document. -/
namespace Go.Proofs.Ytanimmdlgmkmkaa.Av
open Go
set_option linter.unusedSimpArgs false
set_option linter.unusedVariables false
set_option maxRecDepth 100000
set_option maxHeartbeats 2000000
set_option pp.maxSteps 300

theorem topoSame_calls (x y : Tp) (fx fy : Fl) (hx : x.ports.length < 2 ^ 60) (hx2 : x.links.length < 2 ^ 60) (hy : y.ports.length < 2 ^ 60) (hy2 : y.links.length < 2 ^ 60) : PCalls Try.prog 38 [tpAV x fx, tpAV y fy] (.raw (.bool (decide (x = y)))) := by
  have h1 := intEqual_calls x.ports y.ports fx.p fy.p hx hy
  have h2 := lkEqual_calls x.links y.links fx.l fy.l hx2 hy2
  have e : decide (x = y) = (decide (x.ports = y.ports) && decide (x.links = y.links)) := by
    cases x; cases y; rw [Bool.eq_iff_iff]; simp
  rw [e]
  obtain ⟨b1, q1⟩ : ∃ b, decide (x.ports = y.ports) = b := ⟨_, rfl⟩
  obtain ⟨b2, q2⟩ : ∃ b, decide (x.links = y.links) = b := ⟨_, rfl⟩
  rw [q1] at h1 ⊢
  rw [q2] at h2 ⊢
  refine pbody Try.func38 rfl (N := 17) rfl rfl (by simp) (by simp [noIds]) fun σ => ?_
  have ho : ∀ z b, cellOK (intsAV z b) = true := fun _ _ => rfl
  have ho2 : ∀ z b, cellOK (linksAV z b) = true := fun _ _ => rfl
  simp only [cellOK] at ho ho2
  (try (first | (with_reducible refine dops_go ?_; simp [tp_cells, ho, ho2]) | (with_reducible refine OKv_go ?_; simp [tp_cells, ho, ho2]) | (with_reducible refine OKr_go ?_; simp [tp_cells, ho, ho2]))); repeat' (first | refine awp_seq ?_ | refine awp_block ?_ | (refine awp_skip ?_; try simp) | (refine awp_exit ?_; try simp) | (refine awp_ret ?_; try simp) | (refine retP_same (by simp) ?_; simp) | (refine retP_flat (by simp) (by simp) (by simp (maxDischargeDepth := 30) [tp_cells, ho, ho2]) ?_; simp) | (refine awp_reg ?_; simp [tp_cells, ho, ho2]) | (refine awp_drawT (fun _ => false) mixed (by decide +kernel) ?_; simp [tp_cells, ho, ho2]) | (refine guarded_split ?_ ?_ <;> (intro hg; simp only [hg]; simp [tp_cells, ho, ho2])) | (apply awp_cond_t; focus (simp [tp_cells, ho, ho2]; done)) | (apply awp_cond_f; focus (simp [tp_cells, ho, ho2]; done)) | (refine awp_cond ?_; simp [tp_cells, ho, ho2]; refine ⟨?_, ?_⟩ <;> intro hc))
  refine PCalls.use h1 ?_
  (try (first | (with_reducible refine dops_go ?_; simp [tp_cells, ho, ho2]) | (with_reducible refine OKv_go ?_; simp [tp_cells, ho, ho2]) | (with_reducible refine OKr_go ?_; simp [tp_cells, ho, ho2]))); repeat' (first | refine awp_seq ?_ | refine awp_block ?_ | (refine awp_skip ?_; try simp) | (refine awp_exit ?_; try simp) | (refine awp_ret ?_; try simp) | (refine retP_same (by simp) ?_; simp) | (refine retP_flat (by simp) (by simp) (by simp (maxDischargeDepth := 30) [tp_cells, ho, ho2]) ?_; simp) | (refine awp_reg ?_; simp [tp_cells, ho, ho2]) | (refine awp_drawT (fun _ => false) mixed (by decide +kernel) ?_; simp [tp_cells, ho, ho2]) | (refine guarded_split ?_ ?_ <;> (intro hg; simp only [hg]; simp [tp_cells, ho, ho2])) | (apply awp_cond_t; focus (simp [tp_cells, ho, ho2]; done)) | (apply awp_cond_f; focus (simp [tp_cells, ho, ho2]; done)) | (refine awp_cond ?_; simp [tp_cells, ho, ho2]; refine ⟨?_, ?_⟩ <;> intro hc))
  refine PCalls.use h2 ?_
  (try (first | (with_reducible refine dops_go ?_; simp [tp_cells, ho, ho2]) | (with_reducible refine OKv_go ?_; simp [tp_cells, ho, ho2]) | (with_reducible refine OKr_go ?_; simp [tp_cells, ho, ho2]))); repeat' (first | refine awp_seq ?_ | refine awp_block ?_ | (refine awp_skip ?_; try simp) | (refine awp_exit ?_; try simp) | (refine awp_ret ?_; try simp) | (refine retP_same (by simp) ?_; simp) | (refine retP_flat (by simp) (by simp) (by simp (maxDischargeDepth := 30) [tp_cells, ho, ho2]) ?_; simp) | (refine awp_reg ?_; simp [tp_cells, ho, ho2]) | (refine awp_drawT (fun _ => false) mixed (by decide +kernel) ?_; simp [tp_cells, ho, ho2]) | (refine guarded_split ?_ ?_ <;> (intro hg; simp only [hg]; simp [tp_cells, ho, ho2])) | (apply awp_cond_t; focus (simp [tp_cells, ho, ho2]; done)) | (apply awp_cond_f; focus (simp [tp_cells, ho, ho2]; done)) | (refine awp_cond ?_; simp [tp_cells, ho, ho2]; refine ⟨?_, ?_⟩ <;> intro hc))
theorem refHas_calls (t : Tp) (f : Fl) (p : Pt) (hl : t.ports.length < 2 ^ 60) : PCalls Try.prog 112 [tpAV t f, ptAV p] (.raw (.bool (hasB t p))) := by
  refine pbody Try.func112 rfl (N := 32) rfl rfl (by simp) (by simp [noIds]) fun σ => ?_
  by_cases h1 : 0 ≤ p.dev
  · obtain ⟨k, hk⟩ : ∃ k : Nat, p.dev = k := ⟨p.dev.toNat, by omega⟩
    by_cases h2 : k < t.ports.length
    · have hx : t.ports[k]? = some t.ports[k] := List.getElem?_eq_getElem h2
      (try (first | (with_reducible refine dops_go ?_; simp [tpAV, ptAV, intsAV, linksAV, iAV, hk, h2, hx]) | (with_reducible refine OKv_go ?_; simp [tpAV, ptAV, intsAV, linksAV, iAV, hk, h2, hx]) | (with_reducible refine OKr_go ?_; simp [tpAV, ptAV, intsAV, linksAV, iAV, hk, h2, hx]))); repeat' (first | refine awp_seq ?_ | refine awp_block ?_ | (refine awp_skip ?_; try simp) | (refine awp_exit ?_; try simp) | (refine awp_ret ?_; try simp) | (refine retP_same (by simp) ?_; simp) | (refine retP_flat (by simp) (by simp) (by simp (maxDischargeDepth := 30) [tpAV, ptAV, intsAV, linksAV, iAV, hk, h2, hx]) ?_; simp) | (refine awp_reg ?_; simp [tpAV, ptAV, intsAV, linksAV, iAV, hk, h2, hx]) | (refine awp_drawT (fun _ => false) mixed (by decide +kernel) ?_; simp [tpAV, ptAV, intsAV, linksAV, iAV, hk, h2, hx]) | (refine guarded_split ?_ ?_ <;> (intro hg; simp only [hg]; simp [tpAV, ptAV, intsAV, linksAV, iAV, hk, h2, hx])) | (apply awp_cond_t; focus (simp [tpAV, ptAV, intsAV, linksAV, iAV, hk, h2, hx]; done)) | (apply awp_cond_f; focus (simp [tpAV, ptAV, intsAV, linksAV, iAV, hk, h2, hx]; done)) | (refine awp_cond ?_; simp [tpAV, ptAV, intsAV, linksAV, iAV, hk, h2, hx]; refine ⟨?_, ?_⟩ <;> intro hc))
      all_goals (simp_all [hasB] <;> intros <;> omega)
    · have hx : t.ports[k]? = none := List.getElem?_eq_none (by omega)
      (try (first | (with_reducible refine dops_go ?_; simp [tpAV, ptAV, intsAV, linksAV, iAV, hk, h2, hx]) | (with_reducible refine OKv_go ?_; simp [tpAV, ptAV, intsAV, linksAV, iAV, hk, h2, hx]) | (with_reducible refine OKr_go ?_; simp [tpAV, ptAV, intsAV, linksAV, iAV, hk, h2, hx]))); repeat' (first | refine awp_seq ?_ | refine awp_block ?_ | (refine awp_skip ?_; try simp) | (refine awp_exit ?_; try simp) | (refine awp_ret ?_; try simp) | (refine retP_same (by simp) ?_; simp) | (refine retP_flat (by simp) (by simp) (by simp (maxDischargeDepth := 30) [tpAV, ptAV, intsAV, linksAV, iAV, hk, h2, hx]) ?_; simp) | (refine awp_reg ?_; simp [tpAV, ptAV, intsAV, linksAV, iAV, hk, h2, hx]) | (refine awp_drawT (fun _ => false) mixed (by decide +kernel) ?_; simp [tpAV, ptAV, intsAV, linksAV, iAV, hk, h2, hx]) | (refine guarded_split ?_ ?_ <;> (intro hg; simp only [hg]; simp [tpAV, ptAV, intsAV, linksAV, iAV, hk, h2, hx])) | (apply awp_cond_t; focus (simp [tpAV, ptAV, intsAV, linksAV, iAV, hk, h2, hx]; done)) | (apply awp_cond_f; focus (simp [tpAV, ptAV, intsAV, linksAV, iAV, hk, h2, hx]; done)) | (refine awp_cond ?_; simp [tpAV, ptAV, intsAV, linksAV, iAV, hk, h2, hx]; refine ⟨?_, ?_⟩ <;> intro hc))
      all_goals (simp_all [hasB] <;> intros <;> omega)
  · (try (first | (with_reducible refine dops_go ?_; simp [tpAV, ptAV, intsAV, linksAV, iAV, h1]) | (with_reducible refine OKv_go ?_; simp [tpAV, ptAV, intsAV, linksAV, iAV, h1]) | (with_reducible refine OKr_go ?_; simp [tpAV, ptAV, intsAV, linksAV, iAV, h1]))); repeat' (first | refine awp_seq ?_ | refine awp_block ?_ | (refine awp_skip ?_; try simp) | (refine awp_exit ?_; try simp) | (refine awp_ret ?_; try simp) | (refine retP_same (by simp) ?_; simp) | (refine retP_flat (by simp) (by simp) (by simp (maxDischargeDepth := 30) [tpAV, ptAV, intsAV, linksAV, iAV, h1]) ?_; simp) | (refine awp_reg ?_; simp [tpAV, ptAV, intsAV, linksAV, iAV, h1]) | (refine awp_drawT (fun _ => false) mixed (by decide +kernel) ?_; simp [tpAV, ptAV, intsAV, linksAV, iAV, h1]) | (refine guarded_split ?_ ?_ <;> (intro hg; simp only [hg]; simp [tpAV, ptAV, intsAV, linksAV, iAV, h1])) | (apply awp_cond_t; focus (simp [tpAV, ptAV, intsAV, linksAV, iAV, h1]; done)) | (apply awp_cond_f; focus (simp [tpAV, ptAV, intsAV, linksAV, iAV, h1]; done)) | (refine awp_cond ?_; simp [tpAV, ptAV, intsAV, linksAV, iAV, h1]; refine ⟨?_, ?_⟩ <;> intro hc))
    all_goals (simp_all [hasB] <;> intros <;> omega)
theorem refFits_calls (t : Tp) (f : Fl) (l : List Ru) (g : Bool) (hl : t.ports.length < 2 ^ 60) (hl2 : l.length < 2 ^ 60) : PCalls Try.prog 82 [tpAV t f, rulesAV l g] (.raw (.bool (fitsB t l))) := by
  refine pbody Try.func82 rfl (N := 28) rfl rfl (by simp) (by simp [noIds]) fun σ => ?_
  have ho1 : cellOK (intsAV t.ports f.p) = true := rfl
  have ho2 : cellOK (linksAV t.links f.l) = true := rfl
  simp only [cellOK] at ho1 ho2
  (try (first | (with_reducible refine dops_go ?_; simp [tp_cells, ho1, ho2]) | (with_reducible refine OKv_go ?_; simp [tp_cells, ho1, ho2]) | (with_reducible refine OKr_go ?_; simp [tp_cells, ho1, ho2]))); repeat' (first | refine awp_seq ?_ | refine awp_block ?_ | (refine awp_skip ?_; try simp) | (refine awp_exit ?_; try simp) | (refine awp_ret ?_; try simp) | (refine retP_same (by simp) ?_; simp) | (refine retP_flat (by simp) (by simp) (by simp (maxDischargeDepth := 30) [tp_cells, ho1, ho2]) ?_; simp) | (refine awp_reg ?_; simp [tp_cells, ho1, ho2]) | (refine awp_drawT (fun _ => false) mixed (by decide +kernel) ?_; simp [tp_cells, ho1, ho2]) | (refine guarded_split ?_ ?_ <;> (intro hg; simp only [hg]; simp [tp_cells, ho1, ho2])) | (apply awp_cond_t; focus (simp [tp_cells, ho1, ho2]; done)) | (apply awp_cond_f; focus (simp [tp_cells, ho1, ho2]; done)) | (refine awp_cond ?_; simp [tp_cells, ho1, ho2]; refine ⟨?_, ?_⟩ <;> intro hc))
  refine awp_loopH (fun n A τ => τ = σ.new 2 2 (.buf [tpAV t f]) ∧ A 1 = rulesAV l g ∧ A 2 = .rp ⟨2, σ.nx 2, 2⟩ 0 0 ∧ ∃ i : Nat, A 5 = .raw (.int .i64 i) ∧ i ≤ l.length ∧ n = l.length - i ∧ ∀ r ∈ l.take i, hasB t ⟨r.dev, r.port⟩ = true) l.length ?_ ?_
  · exact ⟨rfl, by simp, by simp, 0, by simp, by omega, by omega, by simp⟩
  rintro n A τ ⟨rfl, a1, a2, i, a5, hi, rfl, hok⟩ I1 hI1
  by_cases hlt : i < l.length
  · have hx : l[i]? = some l[i] := List.getElem?_eq_getElem hlt
    have w1 : IntKind.i64.wrap ((i : Int) + 1) = ((i + 1 : Nat) : Int) := by rw [wrap64 (by omega) (by omega)]; omega
    obtain ⟨b, hb⟩ : ∃ b, hasB t ⟨l[i].dev, l[i].port⟩ = b := ⟨_, rfl⟩
    have hc := hb ▸ refHas_calls t f ⟨l[i].dev, l[i].port⟩ hl
    (try (first | (with_reducible refine dops_go ?_; simp [rulesAV, a1, a2, a5, hlt, hx, tp_cells, tp_fold, ru_cells, ruPort_fold, ho1, ho2, w1]) | (with_reducible refine OKv_go ?_; simp [rulesAV, a1, a2, a5, hlt, hx, tp_cells, tp_fold, ru_cells, ruPort_fold, ho1, ho2, w1]) | (with_reducible refine OKr_go ?_; simp [rulesAV, a1, a2, a5, hlt, hx, tp_cells, tp_fold, ru_cells, ruPort_fold, ho1, ho2, w1]))); repeat' (first | refine awp_seq ?_ | refine awp_block ?_ | (refine awp_skip ?_; try simp) | (refine awp_exit ?_; try simp) | (refine awp_ret ?_; try simp) | (refine retP_same (by simp) ?_; simp) | (refine retP_flat (by simp) (by simp) (by simp (maxDischargeDepth := 30) [rulesAV, a1, a2, a5, hlt, hx, tp_cells, tp_fold, ru_cells, ruPort_fold, ho1, ho2, w1]) ?_; simp) | (refine awp_reg ?_; simp [rulesAV, a1, a2, a5, hlt, hx, tp_cells, tp_fold, ru_cells, ruPort_fold, ho1, ho2, w1]) | (refine awp_drawT (fun _ => false) mixed (by decide +kernel) ?_; simp [rulesAV, a1, a2, a5, hlt, hx, tp_cells, tp_fold, ru_cells, ruPort_fold, ho1, ho2, w1]) | (refine guarded_split ?_ ?_ <;> (intro hg; simp only [hg]; simp [rulesAV, a1, a2, a5, hlt, hx, tp_cells, tp_fold, ru_cells, ruPort_fold, ho1, ho2, w1])) | (apply awp_cond_t; focus (simp [rulesAV, a1, a2, a5, hlt, hx, tp_cells, tp_fold, ru_cells, ruPort_fold, ho1, ho2, w1]; done)) | (apply awp_cond_f; focus (simp [rulesAV, a1, a2, a5, hlt, hx, tp_cells, tp_fold, ru_cells, ruPort_fold, ho1, ho2, w1]; done)) | (refine awp_cond ?_; simp [rulesAV, a1, a2, a5, hlt, hx, tp_cells, tp_fold, ru_cells, ruPort_fold, ho1, ho2, w1]; refine ⟨?_, ?_⟩ <;> intro hc))
    refine PCalls.use hc ?_
    cases b with
    | true =>
      (try (first | (with_reducible refine dops_go ?_; simp [rulesAV, a1, a2, a5, hlt, hx, tp_cells, tp_fold, ru_cells, ruPort_fold, ho1, ho2, w1]) | (with_reducible refine OKv_go ?_; simp [rulesAV, a1, a2, a5, hlt, hx, tp_cells, tp_fold, ru_cells, ruPort_fold, ho1, ho2, w1]) | (with_reducible refine OKr_go ?_; simp [rulesAV, a1, a2, a5, hlt, hx, tp_cells, tp_fold, ru_cells, ruPort_fold, ho1, ho2, w1]))); repeat' (first | refine awp_seq ?_ | refine awp_block ?_ | (refine awp_skip ?_; try simp) | (refine awp_exit ?_; try simp) | (refine awp_ret ?_; try simp) | (refine retP_same (by simp) ?_; simp) | (refine retP_flat (by simp) (by simp) (by simp (maxDischargeDepth := 30) [rulesAV, a1, a2, a5, hlt, hx, tp_cells, tp_fold, ru_cells, ruPort_fold, ho1, ho2, w1]) ?_; simp) | (refine awp_reg ?_; simp [rulesAV, a1, a2, a5, hlt, hx, tp_cells, tp_fold, ru_cells, ruPort_fold, ho1, ho2, w1]) | (refine awp_drawT (fun _ => false) mixed (by decide +kernel) ?_; simp [rulesAV, a1, a2, a5, hlt, hx, tp_cells, tp_fold, ru_cells, ruPort_fold, ho1, ho2, w1]) | (refine guarded_split ?_ ?_ <;> (intro hg; simp only [hg]; simp [rulesAV, a1, a2, a5, hlt, hx, tp_cells, tp_fold, ru_cells, ruPort_fold, ho1, ho2, w1])) | (apply awp_cond_t; focus (simp [rulesAV, a1, a2, a5, hlt, hx, tp_cells, tp_fold, ru_cells, ruPort_fold, ho1, ho2, w1]; done)) | (apply awp_cond_f; focus (simp [rulesAV, a1, a2, a5, hlt, hx, tp_cells, tp_fold, ru_cells, ruPort_fold, ho1, ho2, w1]; done)) | (refine awp_cond ?_; simp [rulesAV, a1, a2, a5, hlt, hx, tp_cells, tp_fold, ru_cells, ruPort_fold, ho1, ho2, w1]; refine ⟨?_, ?_⟩ <;> intro hc))
      refine hI1 (l.length - (i + 1)) _ _ (by omega) ⟨by simp, by simp [a1, rulesAV], by simp [a2], i + 1, by simp [w1], by omega, rfl, fun r hr => ?_⟩
      rw [List.take_add_one, hx] at hr
      rcases List.mem_append.1 hr with hr | hr
      · exact hok r hr
      · simp at hr; subst hr; exact hb
    | false =>
      have hf : fitsB t l = false := by
        unfold fitsB
        rw [List.any_eq_true.2 ⟨l[i], List.getElem_mem _, by simp [hb]⟩]; rfl
      (try (first | (with_reducible refine dops_go ?_; simp [rulesAV, a1, a2, a5, hlt, hx, tp_cells, tp_fold, ru_cells, ruPort_fold, ho1, ho2, w1]) | (with_reducible refine OKv_go ?_; simp [rulesAV, a1, a2, a5, hlt, hx, tp_cells, tp_fold, ru_cells, ruPort_fold, ho1, ho2, w1]) | (with_reducible refine OKr_go ?_; simp [rulesAV, a1, a2, a5, hlt, hx, tp_cells, tp_fold, ru_cells, ruPort_fold, ho1, ho2, w1]))); repeat' (first | refine awp_seq ?_ | refine awp_block ?_ | (refine awp_skip ?_; try simp) | (refine awp_exit ?_; try simp) | (refine awp_ret ?_; try simp) | (refine retP_same (by simp) ?_; simp) | (refine retP_flat (by simp) (by simp) (by simp (maxDischargeDepth := 30) [rulesAV, a1, a2, a5, hlt, hx, tp_cells, tp_fold, ru_cells, ruPort_fold, ho1, ho2, w1]) ?_; simp) | (refine awp_reg ?_; simp [rulesAV, a1, a2, a5, hlt, hx, tp_cells, tp_fold, ru_cells, ruPort_fold, ho1, ho2, w1]) | (refine awp_drawT (fun _ => false) mixed (by decide +kernel) ?_; simp [rulesAV, a1, a2, a5, hlt, hx, tp_cells, tp_fold, ru_cells, ruPort_fold, ho1, ho2, w1]) | (refine guarded_split ?_ ?_ <;> (intro hg; simp only [hg]; simp [rulesAV, a1, a2, a5, hlt, hx, tp_cells, tp_fold, ru_cells, ruPort_fold, ho1, ho2, w1])) | (apply awp_cond_t; focus (simp [rulesAV, a1, a2, a5, hlt, hx, tp_cells, tp_fold, ru_cells, ruPort_fold, ho1, ho2, w1]; done)) | (apply awp_cond_f; focus (simp [rulesAV, a1, a2, a5, hlt, hx, tp_cells, tp_fold, ru_cells, ruPort_fold, ho1, ho2, w1]; done)) | (refine awp_cond ?_; simp [rulesAV, a1, a2, a5, hlt, hx, tp_cells, tp_fold, ru_cells, ruPort_fold, ho1, ho2, w1]; refine ⟨?_, ?_⟩ <;> intro hc))
      exact hf
  · have : i = l.length := by omega
    subst this
    rw [List.take_length] at hok
    have hf : fitsB t l = true := by
      unfold fitsB
      rw [List.any_eq_false.2 (fun r hr => by simp [hok r hr])]; rfl
    (try (first | (with_reducible refine dops_go ?_; simp [rulesAV, a1, a2, a5]) | (with_reducible refine OKv_go ?_; simp [rulesAV, a1, a2, a5]) | (with_reducible refine OKr_go ?_; simp [rulesAV, a1, a2, a5]))); repeat' (first | refine awp_seq ?_ | refine awp_block ?_ | (refine awp_skip ?_; try simp) | (refine awp_exit ?_; try simp) | (refine awp_ret ?_; try simp) | (refine retP_same (by simp) ?_; simp) | (refine retP_flat (by simp) (by simp) (by simp (maxDischargeDepth := 30) [rulesAV, a1, a2, a5]) ?_; simp) | (refine awp_reg ?_; simp [rulesAV, a1, a2, a5]) | (refine awp_drawT (fun _ => false) mixed (by decide +kernel) ?_; simp [rulesAV, a1, a2, a5]) | (refine guarded_split ?_ ?_ <;> (intro hg; simp only [hg]; simp [rulesAV, a1, a2, a5])) | (apply awp_cond_t; focus (simp [rulesAV, a1, a2, a5]; done)) | (apply awp_cond_f; focus (simp [rulesAV, a1, a2, a5]; done)) | (refine awp_cond ?_; simp [rulesAV, a1, a2, a5]; refine ⟨?_, ?_⟩ <;> intro hc))
    exact hf
end Go.Proofs.Ytanimmdlgmkmkaa.Av


/- Networks: the document's next port. -/
namespace Go.Proofs.Ytanimmdlgmkmkaa.Av
open Go
set_option linter.unusedSimpArgs false
set_option linter.unusedVariables false
set_option maxRecDepth 100000
set_option maxHeartbeats 2000000
set_option pp.maxSteps 2500

/-- The port to which a port is joined, as the document says it: the first link that has it. -/
def refNextL : List Lk → Pt → Option Pt
  | [], _ => none
  | l :: ls, p => if l.a = p then some l.b else if l.b = p then some l.a else refNextL ls p
end Go.Proofs.Ytanimmdlgmkmkaa.Av


/- Networks: tracks that are alike. -/
namespace Go.Proofs.Ytanimmdlgmkmkaa.Av
open Go
set_option linter.unusedSimpArgs false
set_option linter.unusedVariables false
set_option maxRecDepth 100000
set_option maxHeartbeats 2000000
set_option pp.maxSteps 600

/-- A track: the devices on the way, the end, the last port. -/
structure Tk where
  path : List Int
  out : Int
  last : Pt
deriving DecidableEq
def tkAV (t : Tk) (f : Bool) : AV := .agg [intsAV t.path f, .raw (.int .i64 t.out), .raw (.int .i64 t.last.dev), .raw (.int .i64 t.last.port)]
theorem tkSame_calls (x y : Tk) (fx fy : Bool) (hx : x.path.length < 2 ^ 60) (hy : y.path.length < 2 ^ 60) : PCalls Try.prog 40 [tkAV x fx, tkAV y fy] (.raw (.bool (decide (x = y)))) := by
  have h1 := intEqual_calls x.path y.path fx fy hx hy
  have e : decide (x = y) = (decide (x.path = y.path) && (decide (x.out = y.out) && decide (x.last = y.last))) := by
    cases x; cases y; rw [Bool.eq_iff_iff]; simp
  rw [e]
  obtain ⟨b1, q1⟩ : ∃ b, decide (x.path = y.path) = b := ⟨_, rfl⟩
  obtain ⟨b2, q2⟩ : ∃ b, decide (x.out = y.out) = b := ⟨_, rfl⟩
  obtain ⟨b3, q3⟩ : ∃ b, decide (x.last = y.last) = b := ⟨_, rfl⟩
  rw [q1] at h1 ⊢
  rw [q2, q3]
  have hbin : opBin Try.prog .eql 41 (ptAV x.last) (ptAV y.last) = some (.raw (.bool b3)) := by
    have e1 : opBin Try.prog .eql 41 (ptAV x.last) (ptAV y.last) = if Try.prog.eqGuardType Try.prog.depth 41 = false then (structEq Try.prog 4 41 (ptAV x.last) (ptAV y.last)).bind fun b => (nilBin .eql b).map .raw else none := rfl
    have := key_eq x.last y.last
    rw [e1, if_pos eqg41]
    rw [show structEq Try.prog 4 41 (ptAV x.last) (ptAV y.last) = some (decide (x.last = y.last)) from this, q3]
    rfl
  refine pbody Try.func40 rfl (N := 24) rfl rfl (by simp) (by simp [noIds]) fun σ => ?_
  have ho : ∀ z b, cellOK (intsAV z b) = true := fun _ _ => rfl
  simp only [cellOK] at ho
  have hc : ∀ t f, (tkAV t f).cells = [intsAV t.path f, .raw (.int .i64 t.out), .raw (.int .i64 t.last.dev), .raw (.int .i64 t.last.port)] := fun _ _ => rfl
  have hpf : ∀ q : Pt, AV.agg [.raw (.int .i64 q.dev), .raw (.int .i64 q.port)] = ptAV q := fun _ => rfl
  (try (first | (with_reducible refine dops_go ?_; simp [hc, ho, hpf, -opBin, hbin, opBin_raw, q2]) | (with_reducible refine OKv_go ?_; simp [hc, ho, hpf, -opBin, hbin, opBin_raw, q2]) | (with_reducible refine OKr_go ?_; simp [hc, ho, hpf, -opBin, hbin, opBin_raw, q2]))); repeat' (first | refine awp_seq ?_ | refine awp_block ?_ | (refine awp_skip ?_; try simp) | (refine awp_exit ?_; try simp) | (refine awp_ret ?_; try simp) | (refine retP_same (by simp) ?_; simp) | (refine retP_flat (by simp) (by simp) (by simp (maxDischargeDepth := 30) [hc, ho, hpf, -opBin, hbin, opBin_raw, q2]) ?_; simp) | (refine awp_reg ?_; simp [hc, ho, hpf, -opBin, hbin, opBin_raw, q2]) | (refine awp_drawT (fun _ => false) mixed (by decide +kernel) ?_; simp [hc, ho, hpf, -opBin, hbin, opBin_raw, q2]) | (refine guarded_split ?_ ?_ <;> (intro hg; simp only [hg]; simp [hc, ho, hpf, -opBin, hbin, opBin_raw, q2])) | (apply awp_cond_t; focus (simp [hc, ho, hpf, -opBin, hbin, opBin_raw, q2]; done)) | (apply awp_cond_f; focus (simp [hc, ho, hpf, -opBin, hbin, opBin_raw, q2]; done)) | (refine awp_cond ?_; simp [hc, ho, hpf, -opBin, hbin, opBin_raw, q2]; refine ⟨?_, ?_⟩ <;> intro hc))
  refine PCalls.use h1 ?_
  cases b1 <;> cases b2 <;> (try (first | (with_reducible refine dops_go ?_; simp [hc, ho, hpf, -opBin, hbin, opBin_raw, q2]) | (with_reducible refine OKv_go ?_; simp [hc, ho, hpf, -opBin, hbin, opBin_raw, q2]) | (with_reducible refine OKr_go ?_; simp [hc, ho, hpf, -opBin, hbin, opBin_raw, q2]))); repeat' (first | refine awp_seq ?_ | refine awp_block ?_ | (refine awp_skip ?_; try simp) | (refine awp_exit ?_; try simp) | (refine awp_ret ?_; try simp) | (refine retP_same (by simp) ?_; simp) | (refine retP_flat (by simp) (by simp) (by simp (maxDischargeDepth := 30) [hc, ho, hpf, -opBin, hbin, opBin_raw, q2]) ?_; simp) | (refine awp_reg ?_; simp [hc, ho, hpf, -opBin, hbin, opBin_raw, q2]) | (refine awp_drawT (fun _ => false) mixed (by decide +kernel) ?_; simp [hc, ho, hpf, -opBin, hbin, opBin_raw, q2]) | (refine guarded_split ?_ ?_ <;> (intro hg; simp only [hg]; simp [hc, ho, hpf, -opBin, hbin, opBin_raw, q2])) | (apply awp_cond_t; focus (simp [hc, ho, hpf, -opBin, hbin, opBin_raw, q2]; done)) | (apply awp_cond_f; focus (simp [hc, ho, hpf, -opBin, hbin, opBin_raw, q2]; done)) | (refine awp_cond ?_; simp [hc, ho, hpf, -opBin, hbin, opBin_raw, q2]; refine ⟨?_, ?_⟩ <;> intro hc))
end Go.Proofs.Ytanimmdlgmkmkaa.Av


/- Networks: right rules; searching lists. -/
namespace Go.Proofs.Ytanimmdlgmkmkaa.Av
open Go
set_option linter.unusedSimpArgs false
set_option linter.unusedVariables false
set_option maxRecDepth 100000
set_option maxHeartbeats 1000000
set_option pp.maxSteps 300

theorem or_calls (a b : Int) (f : Bool) : PCalls Try.prog 155 [intsAV [a, b] f] (.raw (.int .i64 (if a = 0 then b else a))) := by
  refine pbody Try.func155 rfl (N := 18) rfl rfl (by simp) (by simp [noIds]) fun σ => ?_
  (try (first | (with_reducible refine dops_go ?_; simp [intsAV, iAV]) | (with_reducible refine OKv_go ?_; simp [intsAV, iAV]) | (with_reducible refine OKr_go ?_; simp [intsAV, iAV]))); repeat' (first | refine awp_seq ?_ | refine awp_block ?_ | (refine awp_skip ?_; try simp) | (refine awp_exit ?_; try simp) | (refine awp_ret ?_; try simp) | (refine retP_same (by simp) ?_; simp) | (refine retP_flat (by simp) (by simp) (by simp (maxDischargeDepth := 30) [intsAV, iAV]) ?_; simp) | (refine awp_reg ?_; simp [intsAV, iAV]) | (refine awp_drawT (fun _ => false) mixed (by decide +kernel) ?_; simp [intsAV, iAV]) | (refine guarded_split ?_ ?_ <;> (intro hg; simp only [hg]; simp [intsAV, iAV])) | (apply awp_cond_t; focus (simp [intsAV, iAV]; done)) | (apply awp_cond_f; focus (simp [intsAV, iAV]; done)) | (refine awp_cond ?_; simp [intsAV, iAV]; refine ⟨?_, ?_⟩ <;> intro hc))
  refine awp_loopH (fun n A τ => τ = σ ∧ A 3 = .raw (.int .i64 0) ∧ A 6 = intsAV [a, b] f ∧ A 7 = .raw (.int .i64 2) ∧ ∃ i : Nat, A 8 = .raw (.int .i64 i) ∧ i ≤ 2 ∧ n = 2 - i ∧ (0 < i → a = 0) ∧ (1 < i → b = 0)) 2 ?_ ?_
  · exact ⟨by simp, by simp, by simp [intsAV, iAV], by simp, 0, by simp, by omega, by omega, fun h => by omega, fun h => by omega⟩
  rintro n A τ ⟨rfl, a3, a6, a7, i, a8, hi, rfl, h0, h1⟩ I1 hI1
  by_cases hlt : i < 2
  · rcases (show i = 0 ∨ i = 1 by omega) with rfl | rfl
    · have w1 : IntKind.i64.wrap 1 = 1 := wrap64 (by omega) (by omega)
      (try (first | (with_reducible refine dops_go ?_; simp [a3, a6, a7, a8, intsAV, iAV, w1]) | (with_reducible refine OKv_go ?_; simp [a3, a6, a7, a8, intsAV, iAV, w1]) | (with_reducible refine OKr_go ?_; simp [a3, a6, a7, a8, intsAV, iAV, w1]))); repeat' (first | refine awp_seq ?_ | refine awp_block ?_ | (refine awp_skip ?_; try simp) | (refine awp_exit ?_; try simp) | (refine awp_ret ?_; try simp) | (refine retP_same (by simp) ?_; simp) | (refine retP_flat (by simp) (by simp) (by simp (maxDischargeDepth := 30) [a3, a6, a7, a8, intsAV, iAV, w1]) ?_; simp) | (refine awp_reg ?_; simp [a3, a6, a7, a8, intsAV, iAV, w1]) | (refine awp_drawT (fun _ => false) mixed (by decide +kernel) ?_; simp [a3, a6, a7, a8, intsAV, iAV, w1]) | (refine guarded_split ?_ ?_ <;> (intro hg; simp only [hg]; simp [a3, a6, a7, a8, intsAV, iAV, w1])) | (apply awp_cond_t; focus (simp [a3, a6, a7, a8, intsAV, iAV, w1]; done)) | (apply awp_cond_f; focus (simp [a3, a6, a7, a8, intsAV, iAV, w1]; done)) | (refine awp_cond ?_; simp [a3, a6, a7, a8, intsAV, iAV, w1]; refine ⟨?_, ?_⟩ <;> intro hc))
      · simp_all
      · exact hI1 1 _ _ (by omega) ⟨by simp, by simp [a3], by simp [a6, intsAV, iAV], by simp [a7], 1, by simp, by omega, by omega, fun _ => by simpa using hc, fun h => by omega⟩
    · have ha := h0 (by omega)
      have w1 : IntKind.i64.wrap 2 = 2 := wrap64 (by omega) (by omega)
      (try (first | (with_reducible refine dops_go ?_; simp [a3, a6, a7, a8, intsAV, iAV, w1]) | (with_reducible refine OKv_go ?_; simp [a3, a6, a7, a8, intsAV, iAV, w1]) | (with_reducible refine OKr_go ?_; simp [a3, a6, a7, a8, intsAV, iAV, w1]))); repeat' (first | refine awp_seq ?_ | refine awp_block ?_ | (refine awp_skip ?_; try simp) | (refine awp_exit ?_; try simp) | (refine awp_ret ?_; try simp) | (refine retP_same (by simp) ?_; simp) | (refine retP_flat (by simp) (by simp) (by simp (maxDischargeDepth := 30) [a3, a6, a7, a8, intsAV, iAV, w1]) ?_; simp) | (refine awp_reg ?_; simp [a3, a6, a7, a8, intsAV, iAV, w1]) | (refine awp_drawT (fun _ => false) mixed (by decide +kernel) ?_; simp [a3, a6, a7, a8, intsAV, iAV, w1]) | (refine guarded_split ?_ ?_ <;> (intro hg; simp only [hg]; simp [a3, a6, a7, a8, intsAV, iAV, w1])) | (apply awp_cond_t; focus (simp [a3, a6, a7, a8, intsAV, iAV, w1]; done)) | (apply awp_cond_f; focus (simp [a3, a6, a7, a8, intsAV, iAV, w1]; done)) | (refine awp_cond ?_; simp [a3, a6, a7, a8, intsAV, iAV, w1]; refine ⟨?_, ?_⟩ <;> intro hc))
      · simp_all
      · exact hI1 0 _ _ (by omega) ⟨by simp, by simp [a3], by simp [a6, intsAV, iAV], by simp [a7], 2, by simp, by omega, by omega, fun _ => ha, fun _ => by simpa using hc⟩
  · have : i = 2 := by omega
    subst this
    have ha := h0 (by omega)
    have hb := h1 (by omega)
    subst ha; subst hb
    (try (first | (with_reducible refine dops_go ?_; simp [a3, a6, a7, a8, intsAV, iAV]) | (with_reducible refine OKv_go ?_; simp [a3, a6, a7, a8, intsAV, iAV]) | (with_reducible refine OKr_go ?_; simp [a3, a6, a7, a8, intsAV, iAV]))); repeat' (first | refine awp_seq ?_ | refine awp_block ?_ | (refine awp_skip ?_; try simp) | (refine awp_exit ?_; try simp) | (refine awp_ret ?_; try simp) | (refine retP_same (by simp) ?_; simp) | (refine retP_flat (by simp) (by simp) (by simp (maxDischargeDepth := 30) [a3, a6, a7, a8, intsAV, iAV]) ?_; simp) | (refine awp_reg ?_; simp [a3, a6, a7, a8, intsAV, iAV]) | (refine awp_drawT (fun _ => false) mixed (by decide +kernel) ?_; simp [a3, a6, a7, a8, intsAV, iAV]) | (refine guarded_split ?_ ?_ <;> (intro hg; simp only [hg]; simp [a3, a6, a7, a8, intsAV, iAV])) | (apply awp_cond_t; focus (simp [a3, a6, a7, a8, intsAV, iAV]; done)) | (apply awp_cond_f; focus (simp [a3, a6, a7, a8, intsAV, iAV]; done)) | (refine awp_cond ?_; simp [a3, a6, a7, a8, intsAV, iAV]; refine ⟨?_, ?_⟩ <;> intro hc))

def ruleB (r : Ru) : Bool := decide (1 ≤ r.id) && decide (r.id ≤ 1048576) && (decide (0 ≤ r.dev) && decide (r.dev ≤ 7)) && (decide (0 ≤ r.prio) && decide (r.prio ≤ 1024)) && (decide (0 ≤ r.kind) && decide (r.kind ≤ 3)) &&
  (decide (0 ≤ r.port) && decide (r.port ≤ 3)) && (decide (r.kind = 0) || decide (r.port = 0)) && decide (r.r.lo ≤ r.r.hi)
theorem refRuleRight_calls (r : Ru) (hr : -9223372036854775808 ≤ r.id) (hr2 : r.id < 9223372036854775808) : PCalls Try.prog 113 [ruAV r] (.raw (.bool (ruleB r))) := by
  obtain ⟨b1, h1⟩ : ∃ b, (decide (0 ≤ r.id - 1) && decide (r.id - 1 ≤ 1048575)) = b := ⟨_, rfl⟩
  obtain ⟨b2, h2⟩ : ∃ b, (decide (0 ≤ r.dev) && decide (r.dev ≤ 7)) = b := ⟨_, rfl⟩
  obtain ⟨b3, h3⟩ : ∃ b, (decide (0 ≤ r.prio) && decide (r.prio ≤ 1024)) = b := ⟨_, rfl⟩
  obtain ⟨b4, h4⟩ : ∃ b, (decide (0 ≤ r.kind) && decide (r.kind ≤ 3)) = b := ⟨_, rfl⟩
  obtain ⟨b5, h5⟩ : ∃ b, (decide (0 ≤ r.port) && decide (r.port ≤ 3)) = b := ⟨_, rfl⟩
  obtain ⟨b6, h6⟩ : ∃ b, decide (r.kind = 0) = b := ⟨_, rfl⟩
  obtain ⟨b7, h7⟩ : ∃ b, decide (r.port = 0) = b := ⟨_, rfl⟩
  obtain ⟨b8, h8⟩ : ∃ b, decide (r.r.lo ≤ r.r.hi) = b := ⟨_, rfl⟩
  obtain ⟨X, w⟩ : ∃ X, IntKind.i64.wrap (r.id - 1) = X := ⟨_, rfl⟩
  have hX : (decide (0 ≤ X) && decide (X ≤ 1048575)) = b1 := by
    by_cases q : r.id = -9223372036854775808
    · have e : X = 9223372036854775807 := by rw [← w, q]; decide
      rw [← h1, e, q]; decide
    · rw [← w, wrap64 (by omega) (by omega)]; exact h1
  have c1 := hX ▸ refWithin_calls X 1048575
  have c2 := h2 ▸ refWithin_calls r.dev 7
  have c3 := h3 ▸ refWithin_calls r.prio 1024
  have c4 := h4 ▸ refWithin_calls r.kind 3
  have c5 := h5 ▸ refWithin_calls r.port 3
  have e : ruleB r = (b1 && b2 && b3 && b4 && b5 && (b6 || b7) && b8) := by
    unfold ruleB; rw [← h1, h2, h3, h4, h5, h6, h7, h8]
    rw [show decide (0 ≤ r.id - 1) = decide (1 ≤ r.id) by (congr 1; exact propext (by omega)), show decide (r.id - 1 ≤ 1048575) = decide (r.id ≤ 1048576) by (congr 1; exact propext (by omega))]
  rw [e]
  clear e
  refine pbody Try.func113 rfl (N := 52) rfl rfl (by simp) (by simp [noIds]) fun σ => ?_
  (try (first | (with_reducible refine dops_go ?_; simp [ruAV, h6, h7, h8, w]) | (with_reducible refine OKv_go ?_; simp [ruAV, h6, h7, h8, w]) | (with_reducible refine OKr_go ?_; simp [ruAV, h6, h7, h8, w]))); repeat' (first | refine awp_seq ?_ | refine awp_block ?_ | (refine awp_skip ?_; try simp) | (refine awp_exit ?_; try simp) | (refine awp_ret ?_; try simp) | (refine retP_same (by simp) ?_; simp) | (refine retP_flat (by simp) (by simp) (by simp (maxDischargeDepth := 30) [ruAV, h6, h7, h8, w]) ?_; simp) | (refine awp_reg ?_; simp [ruAV, h6, h7, h8, w]) | (refine awp_drawT (fun _ => false) mixed (by decide +kernel) ?_; simp [ruAV, h6, h7, h8, w]) | (refine guarded_split ?_ ?_ <;> (intro hg; simp only [hg]; simp [ruAV, h6, h7, h8, w])) | (apply awp_cond_t; focus (simp [ruAV, h6, h7, h8, w]; done)) | (apply awp_cond_f; focus (simp [ruAV, h6, h7, h8, w]; done)) | (refine awp_cond ?_; simp [ruAV, h6, h7, h8, w]; refine ⟨?_, ?_⟩ <;> intro hc))
  repeat' (first | refine PCalls.use c1 ?_ | refine PCalls.use c2 ?_ | refine PCalls.use c3 ?_ | refine PCalls.use c4 ?_ | refine PCalls.use c5 ?_); all_goals (try (first | (with_reducible refine dops_go ?_; simp [ruAV, h6, h7, h8, w]) | (with_reducible refine OKv_go ?_; simp [ruAV, h6, h7, h8, w]) | (with_reducible refine OKr_go ?_; simp [ruAV, h6, h7, h8, w]))); repeat' (first | refine awp_seq ?_ | refine awp_block ?_ | (refine awp_skip ?_; try simp) | (refine awp_exit ?_; try simp) | (refine awp_ret ?_; try simp) | (refine retP_same (by simp) ?_; simp) | (refine retP_flat (by simp) (by simp) (by simp (maxDischargeDepth := 30) [ruAV, h6, h7, h8, w]) ?_; simp) | (refine awp_reg ?_; simp [ruAV, h6, h7, h8, w]) | (refine awp_drawT (fun _ => false) mixed (by decide +kernel) ?_; simp [ruAV, h6, h7, h8, w]) | (refine guarded_split ?_ ?_ <;> (intro hg; simp only [hg]; simp [ruAV, h6, h7, h8, w])) | (apply awp_cond_t; focus (simp [ruAV, h6, h7, h8, w]; done)) | (apply awp_cond_f; focus (simp [ruAV, h6, h7, h8, w]; done)) | (refine awp_cond ?_; simp [ruAV, h6, h7, h8, w]; refine ⟨?_, ?_⟩ <;> intro hc))
def aheadI (x y : Ru) : Int := if cmpI y.prio x.prio = 0 then cmpI x.id y.id else cmpI y.prio x.prio
theorem ahead_calls (x y : Ru) : PCalls Try.prog 151 [ruAV x, ruAV y] (.raw (.int .i64 (aheadI x y))) := by
  refine pbody Try.func151 rfl (N := 17) rfl rfl (by simp) (by simp [noIds]) fun σ => ?_
  (try (first | (with_reducible refine dops_go ?_; simp [ruAV]) | (with_reducible refine OKv_go ?_; simp [ruAV]) | (with_reducible refine OKr_go ?_; simp [ruAV]))); repeat' (first | refine awp_seq ?_ | refine awp_block ?_ | (refine awp_skip ?_; try simp) | (refine awp_exit ?_; try simp) | (refine awp_ret ?_; try simp) | (refine retP_same (by simp) ?_; simp) | (refine retP_flat (by simp) (by simp) (by simp (maxDischargeDepth := 30) [ruAV]) ?_; simp) | (refine awp_reg ?_; simp [ruAV]) | (refine awp_drawT (fun _ => false) mixed (by decide +kernel) ?_; simp [ruAV]) | (refine guarded_split ?_ ?_ <;> (intro hg; simp only [hg]; simp [ruAV])) | (apply awp_cond_t; focus (simp [ruAV]; done)) | (apply awp_cond_f; focus (simp [ruAV]; done)) | (refine awp_cond ?_; simp [ruAV]; refine ⟨?_, ?_⟩ <;> intro hc))
  refine awp_drawT (fun o => o.dst == some 9 || o.dst == some 14 || o.dst == some 16) mixed (by decide +kernel) ?_
  (try (first | (with_reducible refine dops_go ?_; simp [ruAV]) | (with_reducible refine OKv_go ?_; simp [ruAV]) | (with_reducible refine OKr_go ?_; simp [ruAV]))); repeat' (first | refine awp_seq ?_ | refine awp_block ?_ | (refine awp_skip ?_; try simp) | (refine awp_exit ?_; try simp) | (refine awp_ret ?_; try simp) | (refine retP_same (by simp) ?_; simp) | (refine retP_flat (by simp) (by simp) (by simp (maxDischargeDepth := 30) [ruAV]) ?_; simp) | (refine awp_reg ?_; simp [ruAV]) | (refine awp_drawT (fun _ => false) mixed (by decide +kernel) ?_; simp [ruAV]) | (refine guarded_split ?_ ?_ <;> (intro hg; simp only [hg]; simp [ruAV])) | (apply awp_cond_t; focus (simp [ruAV]; done)) | (apply awp_cond_f; focus (simp [ruAV]; done)) | (refine awp_cond ?_; simp [ruAV]; refine ⟨?_, ?_⟩ <;> intro hc))
  refine .inl ⟨_, .inl (compare_calls _ _), ?_⟩
  (try (first | (with_reducible refine dops_go ?_; simp [ruAV]) | (with_reducible refine OKv_go ?_; simp [ruAV]) | (with_reducible refine OKr_go ?_; simp [ruAV]))); repeat' (first | refine awp_seq ?_ | refine awp_block ?_ | (refine awp_skip ?_; try simp) | (refine awp_exit ?_; try simp) | (refine awp_ret ?_; try simp) | (refine retP_same (by simp) ?_; simp) | (refine retP_flat (by simp) (by simp) (by simp (maxDischargeDepth := 30) [ruAV]) ?_; simp) | (refine awp_reg ?_; simp [ruAV]) | (refine awp_drawT (fun _ => false) mixed (by decide +kernel) ?_; simp [ruAV]) | (refine guarded_split ?_ ?_ <;> (intro hg; simp only [hg]; simp [ruAV])) | (apply awp_cond_t; focus (simp [ruAV]; done)) | (apply awp_cond_f; focus (simp [ruAV]; done)) | (refine awp_cond ?_; simp [ruAV]; refine ⟨?_, ?_⟩ <;> intro hc))
  refine .inl ⟨_, .inl (compare_calls _ _), ?_⟩
  (try (first | (with_reducible refine dops_go ?_; simp [ruAV]) | (with_reducible refine OKv_go ?_; simp [ruAV]) | (with_reducible refine OKr_go ?_; simp [ruAV]))); repeat' (first | refine awp_seq ?_ | refine awp_block ?_ | (refine awp_skip ?_; try simp) | (refine awp_exit ?_; try simp) | (refine awp_ret ?_; try simp) | (refine retP_same (by simp) ?_; simp) | (refine retP_flat (by simp) (by simp) (by simp (maxDischargeDepth := 30) [ruAV]) ?_; simp) | (refine awp_reg ?_; simp [ruAV]) | (refine awp_drawT (fun _ => false) mixed (by decide +kernel) ?_; simp [ruAV]) | (refine guarded_split ?_ ?_ <;> (intro hg; simp only [hg]; simp [ruAV])) | (apply awp_cond_t; focus (simp [ruAV]; done)) | (apply awp_cond_f; focus (simp [ruAV]; done)) | (refine awp_cond ?_; simp [ruAV]; refine ⟨?_, ?_⟩ <;> intro hc))
  refine .inl ⟨_, .inr ⟨[intsAV [cmpI y.prio x.prio, cmpI x.id y.id] false], ?_, or_calls _ _ _, rfl⟩, ?_⟩
  · exact ⟨_, _, rfl, .inr ⟨[.raw (.int .i64 (cmpI y.prio x.prio)), .raw (.int .i64 (cmpI x.id y.id))], by simp [St.new], by simp, by simp [intsAV, iAV]⟩, rfl⟩
  unfold aheadI
  simp
  refine awp_ret ?_
  refine retP_flat (.inr rfl) rfl (by simp (maxDischargeDepth := 30)) ?_
  simp
end Go.Proofs.Ytanimmdlgmkmkaa.Av


/- Networks: the first of the rules that are asked. -/
namespace Go.Proofs.Ytanimmdlgmkmkaa.Av
open Go
set_option linter.unusedSimpArgs false
set_option linter.unusedVariables false
set_option maxRecDepth 100000
set_option maxHeartbeats 2000000
set_option pp.maxSteps 300

theorem acalls_nil {P : Program} {f : FuncId} {sz : Nat} {fl : Bool} {σ : St} {K : AV → St → Prop} (h : ∀ b cap, ACalls P f [.raw (.slice b 0 cap)] σ K) : ACalls P f [.sl sz [] fl] σ K := by
  refine ⟨(h none 0).1, fun S vs hS hl => ?_⟩
  simp only [LRel, VRel] at hl
  obtain ⟨v, us, rfl, ⟨base, cap, rfl, _⟩, rfl⟩ := hl
  exact (h base cap).2 S _ hS ⟨_, _, rfl, rfl, rfl⟩
theorem ok_ru : ∀ z : List Ru, cellsOK (cellsL (z.map ruAV)) = true := fun z => by
  induction z with
  | nil => rfl
  | cons r z ih => simp [cellsL, ruAV, cellsOK, cellOK] at ih ⊢; try exact ih

theorem ruClone_calls (l : List Ru) (f : Bool) {σ : St} {K : AV → St → Prop} (hl : l.length < 2932031007403) (h : ∀ v τ, OwnL σ τ 7 v (l.map ruAV) → Ext σ τ → K v τ) : ACalls Try.prog 87 [rulesAV l f] σ K := by
  cases l with
  | nil =>
    simp only [rulesAV, List.map_nil]
    refine acalls_nil fun b cap => ?_
    refine abody Try.func87 rfl (N := 8) rfl rfl (by simp) ?_
    cases b with
    | none =>
      (try (first | (with_reducible refine dops_go ?_; simp) | (with_reducible refine OKv_go ?_; simp) | (with_reducible refine OKr_go ?_; simp))); repeat' (first | refine awp_seq ?_ | refine awp_block ?_ | (refine awp_skip ?_; try simp) | (refine awp_exit ?_; try simp) | (refine awp_ret ?_; try simp) | (refine awp_reg ?_; simp) | (refine awp_drawT (fun _ => false) mixed (by decide +kernel) ?_; simp) | (refine guarded_split ?_ ?_ <;> (intro hg; simp only [hg]; simp)) | (apply awp_cond_t; focus (simp; done)) | (apply awp_cond_f; focus (simp; done)) | (refine awp_cond ?_; simp; refine ⟨?_, ?_⟩ <;> intro hc))
      exact retK_of (.inr rfl) (by simp) (h _ _ OwnL.nil (Ext.refl _))
    | some b =>
      (try (first | (with_reducible refine dops_go ?_; simp [-opAppend]) | (with_reducible refine OKv_go ?_; simp [-opAppend]) | (with_reducible refine OKr_go ?_; simp [-opAppend]))); repeat' (first | refine awp_seq ?_ | refine awp_block ?_ | (refine awp_skip ?_; try simp) | (refine awp_exit ?_; try simp) | (refine awp_ret ?_; try simp) | (refine awp_reg ?_; simp [-opAppend]) | (refine awp_drawT (fun _ => false) mixed (by decide +kernel) ?_; simp [-opAppend]) | (refine guarded_split ?_ ?_ <;> (intro hg; simp only [hg]; simp [-opAppend])) | (apply awp_cond_t; focus (simp [-opAppend]; done)) | (apply awp_cond_f; focus (simp [-opAppend]; done)) | (refine awp_cond ?_; simp [-opAppend]; refine ⟨?_, ?_⟩ <;> intro hc))
      refine okr_append slt26 (σ0 := σ) (es := []) (OwnL.of rfl (by simp) (fresh_none _ _ _) rfl) (Ext.new _ _ _ _) (ys := []) (by simp) (.inl rfl) rfl (by simp) ?_
      intro v1 τ1 hO1 hE1 _ _
      rw [List.nil_append] at hO1
      (try (first | (with_reducible refine dops_go ?_; simp [-opAppend]) | (with_reducible refine OKv_go ?_; simp [-opAppend]) | (with_reducible refine OKr_go ?_; simp [-opAppend]))); repeat' (first | refine awp_seq ?_ | refine awp_block ?_ | (refine awp_skip ?_; try simp) | (refine awp_exit ?_; try simp) | (refine awp_ret ?_; try simp) | (refine awp_reg ?_; simp [-opAppend]) | (refine awp_drawT (fun _ => false) mixed (by decide +kernel) ?_; simp [-opAppend]) | (refine guarded_split ?_ ?_ <;> (intro hg; simp only [hg]; simp [-opAppend])) | (apply awp_cond_t; focus (simp [-opAppend]; done)) | (apply awp_cond_f; focus (simp [-opAppend]; done)) | (refine awp_cond ?_; simp [-opAppend]; refine ⟨?_, ?_⟩ <;> intro hc))
      exact retK_of (.inr rfl) (by simp) (h _ _ hO1 hE1)
  | cons r l =>
    refine abody Try.func87 rfl (N := 8) rfl rfl (by simp) ?_
    (try (first | (with_reducible refine dops_go ?_; simp [rulesAV, -opAppend]) | (with_reducible refine OKv_go ?_; simp [rulesAV, -opAppend]) | (with_reducible refine OKr_go ?_; simp [rulesAV, -opAppend]))); repeat' (first | refine awp_seq ?_ | refine awp_block ?_ | (refine awp_skip ?_; try simp) | (refine awp_exit ?_; try simp) | (refine awp_ret ?_; try simp) | (refine awp_reg ?_; simp [rulesAV, -opAppend]) | (refine awp_drawT (fun _ => false) mixed (by decide +kernel) ?_; simp [rulesAV, -opAppend]) | (refine guarded_split ?_ ?_ <;> (intro hg; simp only [hg]; simp [rulesAV, -opAppend])) | (apply awp_cond_t; focus (simp [rulesAV, -opAppend]; done)) | (apply awp_cond_f; focus (simp [rulesAV, -opAppend]; done)) | (refine awp_cond ?_; simp [rulesAV, -opAppend]; refine ⟨?_, ?_⟩ <;> intro hc))
    refine okr_append slt26 (σ0 := σ) (es := []) (OwnL.of rfl (by simp) (fresh_none _ _ _) rfl) (Ext.new _ _ _ _) (ys := (r :: l).map ruAV) (by simp) (.inr rfl) (ok_ru _) (by simp at hl ⊢; omega) ?_
    intro v1 τ1 hO1 hE1 _ _
    rw [List.nil_append] at hO1
    (try (first | (with_reducible refine dops_go ?_; simp [-opAppend]) | (with_reducible refine OKv_go ?_; simp [-opAppend]) | (with_reducible refine OKr_go ?_; simp [-opAppend]))); repeat' (first | refine awp_seq ?_ | refine awp_block ?_ | (refine awp_skip ?_; try simp) | (refine awp_exit ?_; try simp) | (refine awp_ret ?_; try simp) | (refine awp_reg ?_; simp [-opAppend]) | (refine awp_drawT (fun _ => false) mixed (by decide +kernel) ?_; simp [-opAppend]) | (refine guarded_split ?_ ?_ <;> (intro hg; simp only [hg]; simp [-opAppend])) | (apply awp_cond_t; focus (simp [-opAppend]; done)) | (apply awp_cond_f; focus (simp [-opAppend]; done)) | (refine awp_cond ?_; simp [-opAppend]; refine ⟨?_, ?_⟩ <;> intro hc))
    exact retK_of (.inr rfl) (by simp) (h _ _ hO1 hE1)

/-- The first of rules. -/
def minR : List Ru → Ru
  | [] => ⟨0, 0, 0, 0, ⟨0, 0⟩, 0⟩
  | r :: l => l.foldl (fun m x => if aheadI x m < 0 then x else m) r
theorem minR_step {z : List Ru} {k : Nat} {x : Ru} (h1 : 1 ≤ k) (hx : z[k]? = some x) : minR (z.take (k + 1)) = if aheadI x (minR (z.take k)) < 0 then x else minR (z.take k) := by
  rw [List.take_add_one, hx]
  cases z with
  | nil => simp at hx
  | cons r l =>
    obtain ⟨j, rfl⟩ : ∃ j, k = j + 1 := ⟨k - 1, by omega⟩
    simp [minR, List.foldl_append]
    rfl
theorem ru_fold (x : Ru) : AV.agg [.raw (.int .i64 x.id), .raw (.int .i64 x.dev), .raw (.int .i64 x.prio), .raw (.int .i64 x.kind), .raw (.int .u32 x.r.lo), .raw (.int .u32 x.r.hi), .raw (.int .i64 x.port)] = ruAV x := rfl
theorem ru_part (a b : Ru) : setPart (ruAV a) 0 [.raw (.int .i64 b.id), .raw (.int .i64 b.dev), .raw (.int .i64 b.prio), .raw (.int .i64 b.kind), .raw (.int .u32 b.r.lo), .raw (.int .u32 b.r.hi), .raw (.int .i64 b.port)] = ruAV b := rfl
theorem ru_ok (a : Ru) : cellsOK (ruAV a).cells = true := rfl
theorem minFunc_calls (z : List Ru) (hne : z ≠ []) (f : Bool) (hl : z.length < 2932031007403) : PCalls Try.prog 150 [rulesAV z f, .fn (.func 151) [] []] (ruAV (minR z)) := by
  refine pbody Try.func150 rfl (N := 33) rfl rfl (by simp) (by simp [noIds, ruAV]) fun σ => ?_
  have hpos : 0 < z.length := List.length_pos_iff.2 hne
  have hx0 : z[0]? = some z[0] := List.getElem?_eq_getElem hpos
  have hlt1 : ¬ ((z.length : Int) < 1) := by omega
  (try (first | (with_reducible refine dops_go ?_; simp [rulesAV, ru_cells, hx0, hlt1, hpos]) | (with_reducible refine OKv_go ?_; simp [rulesAV, ru_cells, hx0, hlt1, hpos]) | (with_reducible refine OKr_go ?_; simp [rulesAV, ru_cells, hx0, hlt1, hpos]))); repeat' (first | refine awp_seq ?_ | refine awp_block ?_ | (refine awp_skip ?_; try simp) | (refine awp_exit ?_; try simp) | (refine awp_ret ?_; try simp) | (refine retP_same (by simp) ?_; simp) | (refine retP_flat (by simp) (by simp) (by simp (maxDischargeDepth := 30) [rulesAV, ru_cells, hx0, hlt1, hpos]) ?_; simp) | (refine awp_reg ?_; simp [rulesAV, ru_cells, hx0, hlt1, hpos]) | (refine awp_drawT (fun _ => false) mixed (by decide +kernel) ?_; simp [rulesAV, ru_cells, hx0, hlt1, hpos]) | (refine guarded_split ?_ ?_ <;> (intro hg; simp only [hg]; simp [rulesAV, ru_cells, hx0, hlt1, hpos])) | (apply awp_cond_t; focus (simp [rulesAV, ru_cells, hx0, hlt1, hpos]; done)) | (apply awp_cond_f; focus (simp [rulesAV, ru_cells, hx0, hlt1, hpos]; done)) | (refine awp_cond ?_; simp [rulesAV, ru_cells, hx0, hlt1, hpos]; refine ⟨?_, ?_⟩ <;> intro hc))
  refine awp_loopH (fun n A τ => A 0 = rulesAV z f ∧ A 1 = .fn (.func 151) [] [] ∧ A 4 = .rp ⟨4, σ.nx 4, 7⟩ 0 0 ∧ A 5 = .rp ⟨5, σ.nx 5, 7⟩ 0 0 ∧ (∃ y, τ.m ⟨4, σ.nx 4, 7⟩ = some (.buf [ruAV y])) ∧ Ext σ τ ∧
    ∃ (k : Nat), A 6 = .raw (.int .i64 k) ∧ 1 ≤ k ∧ k ≤ z.length ∧ τ.m ⟨5, σ.nx 5, 7⟩ = some (.buf [ruAV (minR (z.take k))]) ∧ n = z.length - k) (z.length - 1) ?_ ?_
  · refine ⟨by simp [rulesAV], by simp, by simp, by simp [St.new], ⟨⟨0, 0, 0, 0, ⟨0, 0⟩, 0⟩, ?_⟩, ?_, 1, by simp, by omega, by omega, ?_, ?_⟩
    · simp [St.new, St.set, ruAV]
    · refine Ext.setF (by simp (maxDischargeDepth := 30)) ?_
      have := fresh_none σ 5 7
      simpa [St.new] using this
    · have e : z.take 1 = [z[0]] := by
        cases z with
        | nil => exact absurd rfl hne
        | cons r l => rfl
      rw [e]
      simp [St.new, St.set, minR, ruAV]
    · rfl
  rintro n A τ ⟨a0, a1, a4, a5, ⟨y, m4⟩, hE, k, a6, h1, hk, m5, rfl⟩ I1 hI1
  have f4 : σ.m ⟨4, σ.nx 4, 7⟩ = none := fresh_none _ _ _
  have f5 : σ.m ⟨5, σ.nx 5, 7⟩ = none := fresh_none _ _ _
  by_cases hlt : k < z.length
  · have hx : z[k]? = some z[k] := List.getElem?_eq_getElem hlt
    have w1 : IntKind.i64.wrap ((k : Int) + 1) = ((k + 1 : Nat) : Int) := by rw [wrap64 (by omega) (by omega)]; omega
    (try (first | (with_reducible refine dops_go ?_; simp [rulesAV, a0, a1, a4, a5, a6, hlt, hx, m4, m5, ru_cells, ru_fold]) | (with_reducible refine OKv_go ?_; simp [rulesAV, a0, a1, a4, a5, a6, hlt, hx, m4, m5, ru_cells, ru_fold]) | (with_reducible refine OKr_go ?_; simp [rulesAV, a0, a1, a4, a5, a6, hlt, hx, m4, m5, ru_cells, ru_fold]))); repeat' (first | refine awp_seq ?_ | refine awp_block ?_ | (refine awp_skip ?_; try simp) | (refine awp_exit ?_; try simp) | (refine awp_ret ?_; try simp) | (refine retP_same (by simp) ?_; simp) | (refine retP_flat (by simp) (by simp) (by simp (maxDischargeDepth := 30) [rulesAV, a0, a1, a4, a5, a6, hlt, hx, m4, m5, ru_cells, ru_fold]) ?_; simp) | (refine awp_reg ?_; simp [rulesAV, a0, a1, a4, a5, a6, hlt, hx, m4, m5, ru_cells, ru_fold]) | (refine awp_drawT (fun _ => false) mixed (by decide +kernel) ?_; simp [rulesAV, a0, a1, a4, a5, a6, hlt, hx, m4, m5, ru_cells, ru_fold]) | (refine guarded_split ?_ ?_ <;> (intro hg; simp only [hg]; simp [rulesAV, a0, a1, a4, a5, a6, hlt, hx, m4, m5, ru_cells, ru_fold])) | (apply awp_cond_t; focus (simp [rulesAV, a0, a1, a4, a5, a6, hlt, hx, m4, m5, ru_cells, ru_fold]; done)) | (apply awp_cond_f; focus (simp [rulesAV, a0, a1, a4, a5, a6, hlt, hx, m4, m5, ru_cells, ru_fold]; done)) | (refine awp_cond ?_; simp [rulesAV, a0, a1, a4, a5, a6, hlt, hx, m4, m5, ru_cells, ru_fold]; refine ⟨?_, ?_⟩ <;> intro hc))
    refine PCalls.use (ahead_calls _ _) ?_
    by_cases hs : aheadI z[k] (minR (z.take k)) < 0
    · (try (first | (with_reducible refine dops_go ?_; simp [rulesAV, a0, a1, a4, a5, a6, hlt, hx, m4, m5, ru_cells, ru_fold, ru_part, hs, w1]) | (with_reducible refine OKv_go ?_; simp [rulesAV, a0, a1, a4, a5, a6, hlt, hx, m4, m5, ru_cells, ru_fold, ru_part, hs, w1]) | (with_reducible refine OKr_go ?_; simp [rulesAV, a0, a1, a4, a5, a6, hlt, hx, m4, m5, ru_cells, ru_fold, ru_part, hs, w1]))); repeat' (first | refine awp_seq ?_ | refine awp_block ?_ | (refine awp_skip ?_; try simp) | (refine awp_exit ?_; try simp) | (refine awp_ret ?_; try simp) | (refine retP_same (by simp) ?_; simp) | (refine retP_flat (by simp) (by simp) (by simp (maxDischargeDepth := 30) [rulesAV, a0, a1, a4, a5, a6, hlt, hx, m4, m5, ru_cells, ru_fold, ru_part, hs, w1]) ?_; simp) | (refine awp_reg ?_; simp [rulesAV, a0, a1, a4, a5, a6, hlt, hx, m4, m5, ru_cells, ru_fold, ru_part, hs, w1]) | (refine awp_drawT (fun _ => false) mixed (by decide +kernel) ?_; simp [rulesAV, a0, a1, a4, a5, a6, hlt, hx, m4, m5, ru_cells, ru_fold, ru_part, hs, w1]) | (refine guarded_split ?_ ?_ <;> (intro hg; simp only [hg]; simp [rulesAV, a0, a1, a4, a5, a6, hlt, hx, m4, m5, ru_cells, ru_fold, ru_part, hs, w1])) | (apply awp_cond_t; focus (simp [rulesAV, a0, a1, a4, a5, a6, hlt, hx, m4, m5, ru_cells, ru_fold, ru_part, hs, w1]; done)) | (apply awp_cond_f; focus (simp [rulesAV, a0, a1, a4, a5, a6, hlt, hx, m4, m5, ru_cells, ru_fold, ru_part, hs, w1]; done)) | (refine awp_cond ?_; simp [rulesAV, a0, a1, a4, a5, a6, hlt, hx, m4, m5, ru_cells, ru_fold, ru_part, hs, w1]; refine ⟨?_, ?_⟩ <;> intro hc))
      exact hI1 (z.length - (k + 1)) _ _ (by omega) ⟨by simp [a0], by simp [a1], by simp [a4], by simp [a5], ⟨y, by rw [set_ne (by simp)]; exact m4⟩, hE.setF f5, k + 1, by simp, by omega, by omega, by rw [set_hit m5, minR_step h1 hx, if_pos hs], rfl⟩
    · (try (first | (with_reducible refine dops_go ?_; simp [rulesAV, a0, a1, a4, a5, a6, hlt, hx, m4, m5, ru_cells, ru_fold, ru_part, hs, w1]) | (with_reducible refine OKv_go ?_; simp [rulesAV, a0, a1, a4, a5, a6, hlt, hx, m4, m5, ru_cells, ru_fold, ru_part, hs, w1]) | (with_reducible refine OKr_go ?_; simp [rulesAV, a0, a1, a4, a5, a6, hlt, hx, m4, m5, ru_cells, ru_fold, ru_part, hs, w1]))); repeat' (first | refine awp_seq ?_ | refine awp_block ?_ | (refine awp_skip ?_; try simp) | (refine awp_exit ?_; try simp) | (refine awp_ret ?_; try simp) | (refine retP_same (by simp) ?_; simp) | (refine retP_flat (by simp) (by simp) (by simp (maxDischargeDepth := 30) [rulesAV, a0, a1, a4, a5, a6, hlt, hx, m4, m5, ru_cells, ru_fold, ru_part, hs, w1]) ?_; simp) | (refine awp_reg ?_; simp [rulesAV, a0, a1, a4, a5, a6, hlt, hx, m4, m5, ru_cells, ru_fold, ru_part, hs, w1]) | (refine awp_drawT (fun _ => false) mixed (by decide +kernel) ?_; simp [rulesAV, a0, a1, a4, a5, a6, hlt, hx, m4, m5, ru_cells, ru_fold, ru_part, hs, w1]) | (refine guarded_split ?_ ?_ <;> (intro hg; simp only [hg]; simp [rulesAV, a0, a1, a4, a5, a6, hlt, hx, m4, m5, ru_cells, ru_fold, ru_part, hs, w1])) | (apply awp_cond_t; focus (simp [rulesAV, a0, a1, a4, a5, a6, hlt, hx, m4, m5, ru_cells, ru_fold, ru_part, hs, w1]; done)) | (apply awp_cond_f; focus (simp [rulesAV, a0, a1, a4, a5, a6, hlt, hx, m4, m5, ru_cells, ru_fold, ru_part, hs, w1]; done)) | (refine awp_cond ?_; simp [rulesAV, a0, a1, a4, a5, a6, hlt, hx, m4, m5, ru_cells, ru_fold, ru_part, hs, w1]; refine ⟨?_, ?_⟩ <;> intro hc))
      exact hI1 (z.length - (k + 1)) _ _ (by omega) ⟨by simp [a0], by simp [a1], by simp [a4], by simp [a5], ⟨y, m4⟩, hE, k + 1, by simp, by omega, by omega, by rw [m5, minR_step h1 hx, if_neg hs], rfl⟩
  · have : k = z.length := by omega
    subst this
    rw [List.take_length] at m5
    (try (first | (with_reducible refine dops_go ?_; simp [rulesAV, a0, a1, a4, a5, a6, m4, m5, ru_cells, ru_fold, ru_part]) | (with_reducible refine OKv_go ?_; simp [rulesAV, a0, a1, a4, a5, a6, m4, m5, ru_cells, ru_fold, ru_part]) | (with_reducible refine OKr_go ?_; simp [rulesAV, a0, a1, a4, a5, a6, m4, m5, ru_cells, ru_fold, ru_part]))); repeat' (first | refine awp_seq ?_ | refine awp_block ?_ | (refine awp_skip ?_; try simp) | (refine awp_exit ?_; try simp) | (refine awp_ret ?_; try simp) | (refine awp_reg ?_; simp [rulesAV, a0, a1, a4, a5, a6, m4, m5, ru_cells, ru_fold, ru_part]) | (refine awp_drawT (fun _ => false) mixed (by decide +kernel) ?_; simp [rulesAV, a0, a1, a4, a5, a6, m4, m5, ru_cells, ru_fold, ru_part]) | (refine guarded_split ?_ ?_ <;> (intro hg; simp only [hg]; simp [rulesAV, a0, a1, a4, a5, a6, m4, m5, ru_cells, ru_fold, ru_part])) | (apply awp_cond_t; focus (simp [rulesAV, a0, a1, a4, a5, a6, m4, m5, ru_cells, ru_fold, ru_part]; done)) | (apply awp_cond_f; focus (simp [rulesAV, a0, a1, a4, a5, a6, m4, m5, ru_cells, ru_fold, ru_part]; done)) | (refine awp_cond ?_; simp [rulesAV, a0, a1, a4, a5, a6, m4, m5, ru_cells, ru_fold, ru_part]; refine ⟨?_, ?_⟩ <;> intro hc))
    refine retP_flat (.inr rfl) rfl (hE.setF f4) ?_
    simp [a4, m4, St.set, ru_cells]
    exact ru_fold _

theorem ACalls.args {P : Program} {f : FuncId} {as_ bs : List AV} {σ : St} {K : AV → St → Prop} (hw : ∀ S vs, LRel S as_ vs → LRel S bs vs) (h : ACalls P f bs σ K) : ACalls P f as_ σ K :=
  ⟨h.1, fun S vs hS hl => h.2 S vs hS (hw S vs hl)⟩
/-- A made list of which a head counts. -/
def OwnP (σ0 τ : St) (n : Nat) (v : AV) (es : List AV) : Prop :=
  (es = [] ∧ v = .sl 0 [] true) ∨ ∃ j rest, v = .rs j 0 es.length ∧ j.sz = n ∧ τ.m j = some (.buf (es ++ rest)) ∧ σ0.m j = none
theorem OwnL.toP {σ0 τ : St} {n : Nat} {v : AV} {es : List AV} (h : OwnL σ0 τ n v es) : OwnP σ0 τ n v es := by
  rcases h with h | ⟨j, h1, h2, h3, h4⟩
  · exact .inl h
  · exact .inr ⟨j, [], h1, h2, by rw [List.append_nil]; exact h3, h4⟩
theorem OwnP.ext {σ0 τ ρ : St} {n : Nat} {v : AV} {es : List AV} (h : OwnP σ0 τ n v es) (k : Ext τ ρ) : OwnP σ0 ρ n v es := by
  rcases h with h | ⟨j, r, h1, h2, h3, h4⟩
  · exact .inl h
  · exact .inr ⟨j, r, h1, h2, k.m _ _ h3, h4⟩
theorem PCalls.useP {P : Program} {f : FuncId} {σ0 σ : St} {n : Nat} {a v r : AV} {es : List AV} {K : AV → St → Prop} (h : PCalls P f [.sl n es false, a] r) (hr : r.plain = true) (hO : OwnP σ0 σ n v es) (k : K r σ) : ACalls P f [v, a] σ K := by
  rcases hO with ⟨rfl, rfl⟩ | ⟨j, rest, rfl, hj, hm, hn⟩
  · refine ACalls.args (bs := [.sl n [] false, a]) (fun S vs hl => ?_) (h.use k)
    simp only [LRel] at hl ⊢
    obtain ⟨w, ws, e2, h2, v, us, e, h1, h3⟩ := hl
    exact ⟨w, ws, e2, weaker_sl _ _ h2, v, us, e, h1, h3⟩
  · refine RCalls.use (.inr ⟨[.sl n es false, a], ?_, h, hr⟩) k
    simp only [lentL]
    exact ⟨_, _, rfl, .inr ⟨es ++ rest, hm, by simp, by simp [hj]⟩, _, _, rfl, .inl rfl, rfl⟩

theorem delete_calls {g : FuncId} {caps : List AV} {p : Ru → Bool} (l : List Ru) {σ0 σ : St} {v : AV} {K : AV → St → Prop} (hO : OwnL σ0 σ 7 v (l.map ruAV)) (hE : Ext σ0 σ) (hl : l.length < 2932031007403)
    (hg : ∀ r ∈ l, PCalls Try.prog g (ruAV r :: caps) (.raw (.bool (p r)))) (h : ∀ v' τ, OwnP σ0 τ 7 v' ((l.filter fun r => !p r).map ruAV) → Ext σ0 τ → K v' τ) : ACalls Try.prog 148 [v, .fn (.func g) [] caps] σ K := by
  refine abody Try.func148 rfl (N := 42) rfl rfl (by simp) ?_
  (try (first | (with_reducible refine dops_go ?_; simp) | (with_reducible refine OKv_go ?_; simp) | (with_reducible refine OKr_go ?_; simp))); repeat' (first | refine awp_seq ?_ | refine awp_block ?_ | (refine awp_skip ?_; try simp) | (refine awp_exit ?_; try simp) | (refine awp_ret ?_; try simp) | (refine retP_same (by simp) ?_; simp) | (refine retP_flat (by simp) (by simp) (by simp (maxDischargeDepth := 30)) ?_; simp) | (refine awp_reg ?_; simp) | (refine awp_drawT (fun _ => false) mixed (by decide +kernel) ?_; simp) | (refine guarded_split ?_ ?_ <;> (intro hg; simp only [hg]; simp)) | (apply awp_cond_t; focus (simp; done)) | (apply awp_cond_f; focus (simp; done)) | (refine awp_cond ?_; simp; refine ⟨?_, ?_⟩ <;> intro hc))
  refine PCalls.useP (ruIndex_calls l false (by omega) hg) rfl hO.toP ?_
  cases ha : l.any p with
  | false =>
    have hi : idxOf p l = -1 := by unfold idxOf; rw [ha]; rfl
    have hfl : (l.filter fun r => !p r) = l := by
      rw [List.filter_eq_self]
      intro r hr
      rw [List.any_eq_false] at ha
      simpa using ha r hr
    have w1 : IntKind.i64.wrap (-1) = -1 := wrap64 (by omega) (by omega)
    rw [hfl] at h
    (try (first | (with_reducible refine dops_go ?_; simp [hi, w1]) | (with_reducible refine OKv_go ?_; simp [hi, w1]) | (with_reducible refine OKr_go ?_; simp [hi, w1]))); repeat' (first | refine awp_seq ?_ | refine awp_block ?_ | (refine awp_skip ?_; try simp) | (refine awp_exit ?_; try simp) | (refine awp_ret ?_; try simp) | (refine awp_reg ?_; simp [hi, w1]) | (refine awp_drawT (fun _ => false) mixed (by decide +kernel) ?_; simp [hi, w1]) | (refine guarded_split ?_ ?_ <;> (intro hg; simp only [hg]; simp [hi, w1])) | (apply awp_cond_t; focus (simp [hi, w1]; done)) | (apply awp_cond_f; focus (simp [hi, w1]; done)) | (refine awp_cond ?_; simp [hi, w1]; refine ⟨?_, ?_⟩ <;> intro hc))
    exact retK_of (.inr rfl) (by simp) (h _ _ hO.toP hE)
  | true =>
    have hi : idxOf p l = (l.findIdx p : Nat) := by unfold idxOf; rw [ha]; rfl
    have hlt0 : l.findIdx p < l.length := List.findIdx_lt_length.2 (by simpa using ha)
    obtain ⟨i0, hi0⟩ : ∃ i0, l.findIdx p = i0 := ⟨_, rfl⟩
    rw [hi0] at hi hlt0
    have hne : ¬ ((i0 : Int) = -1) := by omega
    have w0 : IntKind.i64.wrap ((i0 : Int) + 1) = ((i0 + 1 : Nat) : Int) := by rw [wrap64 (by omega) (by omega)]; omega
    have w1 : IntKind.i64.wrap (-1) = -1 := wrap64 (by omega) (by omega)
    rcases hO with ⟨he, _⟩ | ⟨j, hv, hj, hm, hn⟩
    · have : l = [] := by simpa using he
      subst this
      simp at ha
    rw [List.length_map] at hv
    subst hv
    (try (first | (with_reducible refine dops_go ?_; simp [hi, w1, hne, w0]) | (with_reducible refine OKv_go ?_; simp [hi, w1, hne, w0]) | (with_reducible refine OKr_go ?_; simp [hi, w1, hne, w0]))); repeat' (first | refine awp_seq ?_ | refine awp_block ?_ | (refine awp_skip ?_; try simp) | (refine awp_exit ?_; try simp) | (refine awp_ret ?_; try simp) | (refine retP_same (by simp) ?_; simp) | (refine retP_flat (by simp) (by simp) (by simp (maxDischargeDepth := 30) [hi, w1, hne, w0]) ?_; simp) | (refine awp_reg ?_; simp [hi, w1, hne, w0]) | (refine awp_drawT (fun _ => false) mixed (by decide +kernel) ?_; simp [hi, w1, hne, w0]) | (refine guarded_split ?_ ?_ <;> (intro hg; simp only [hg]; simp [hi, w1, hne, w0])) | (apply awp_cond_t; focus (simp [hi, w1, hne, w0]; done)) | (apply awp_cond_f; focus (simp [hi, w1, hne, w0]; done)) | (refine awp_cond ?_; simp [hi, w1, hne, w0]; refine ⟨?_, ?_⟩ <;> intro hc))
    have hfirst : ∀ r ∈ l.take i0, p r = false := fun r hr => by
      obtain ⟨q, hq⟩ := List.getElem?_of_mem hr
      obtain ⟨hq1, hq2⟩ := List.getElem?_eq_some_iff.1 hq
      rw [List.length_take] at hq1
      rw [List.getElem_take] at hq2
      have := List.not_of_lt_findIdx (p := p) (xs := l) (i := q) (by omega)
      rw [hq2] at this
      simpa using this
    have hp0 : p l[i0] = true := by
      have := List.findIdx_getElem (p := p) (xs := l) (w := by omega)
      simpa only [hi0] using this
    have htk : ∀ k, (hk : k < l.length) → (l.take (k + 1)).filter (fun r => !p r) = (l.take k).filter (fun r => !p r) ++ if p l[k] = true then [] else [l[k]] := fun k hk => by
      rw [List.take_add_one, List.getElem?_eq_getElem hk, List.filter_append]
      congr 1
      cases hb : p l[k] <;> simp [hb]
    refine awp_loopH (fun n A τ => A 0 = .rs j 0 l.length ∧ A 1 = .fn (.func g) [] caps ∧ Ext σ0 τ ∧ ∃ (k : Nat) (q : List Ru), A 6 = .raw (.int .i64 k) ∧ A 5 = .raw (.int .i64 (((l.take k).filter fun r => !p r).length : Nat)) ∧ k ≤ l.length ∧
      ((l.take k).filter fun r => !p r).length < k ∧ q.length = l.length ∧ q.take ((l.take k).filter fun r => !p r).length = (l.take k).filter (fun r => !p r) ∧ q.drop k = l.drop k ∧ τ.m j = some (.buf (q.map ruAV)) ∧ n = l.length - k) (l.length - (i0 + 1)) ?_ ?_
    · have e1 : (l.take (i0 + 1)).filter (fun r => !p r) = l.take i0 := by
        rw [htk i0 hlt0, if_pos hp0, List.append_nil, List.filter_eq_self]
        intro r hr; simp [hfirst r hr]
      refine ⟨by simp, by simp, hE, i0 + 1, l, by simp, ?_, by omega, ?_, rfl, ?_, rfl, hm, rfl⟩
      · rw [e1, List.length_take, Nat.min_eq_left (by omega)]; simp
      · rw [e1, List.length_take, Nat.min_eq_left (by omega)]; omega
      · rw [e1, List.length_take, Nat.min_eq_left (by omega)]
    rintro n A τ ⟨a0, a1, hE, k, q, a6, a5, hk, hik, hq, hq1, hq2, hmq, rfl⟩ I1 hI1
    obtain ⟨i, hii⟩ : ∃ i, ((l.take k).filter fun r => !p r).length = i := ⟨_, rfl⟩
    rw [hii] at a5 hik hq1
    by_cases hlt : k < l.length
    · have hx : q[k]? = some l[k] := by
        have := congrArg (·[0]?) hq2
        simpa [List.getElem?_drop, List.getElem?_eq_getElem hlt] using this
      have hxi : q[i]? = some q[i] := List.getElem?_eq_getElem (by omega)
      have w2 : IntKind.i64.wrap ((k : Int) + 1) = ((k + 1 : Nat) : Int) := by rw [wrap64 (by omega) (by omega)]; omega
      have w3 : IntKind.i64.wrap ((i : Int) + 1) = ((i + 1 : Nat) : Int) := by rw [wrap64 (by omega) (by omega)]; omega
      have hjf : j ≠ ⟨7, τ.nx 7, 7⟩ := fun e => by rw [e, fresh_none] at hmq; cases hmq
      have hil : i < l.length := by omega
      (try (first | (with_reducible refine dops_go ?_; simp [a0, a1, a6, a5, hlt, hx, hmq, hj, hjf, ru_cells, ru_fold, w2, w3]) | (with_reducible refine OKv_go ?_; simp [a0, a1, a6, a5, hlt, hx, hmq, hj, hjf, ru_cells, ru_fold, w2, w3]) | (with_reducible refine OKr_go ?_; simp [a0, a1, a6, a5, hlt, hx, hmq, hj, hjf, ru_cells, ru_fold, w2, w3]))); repeat' (first | refine awp_seq ?_ | refine awp_block ?_ | (refine awp_skip ?_; try simp) | (refine awp_exit ?_; try simp) | (refine awp_ret ?_; try simp) | (refine retP_same (by simp) ?_; simp) | (refine retP_flat (by simp) (by simp) (by simp (maxDischargeDepth := 30) [a0, a1, a6, a5, hlt, hx, hmq, hj, hjf, ru_cells, ru_fold, w2, w3]) ?_; simp) | (refine awp_reg ?_; simp [a0, a1, a6, a5, hlt, hx, hmq, hj, hjf, ru_cells, ru_fold, w2, w3]) | (refine awp_drawT (fun _ => false) mixed (by decide +kernel) ?_; simp [a0, a1, a6, a5, hlt, hx, hmq, hj, hjf, ru_cells, ru_fold, w2, w3]) | (refine guarded_split ?_ ?_ <;> (intro hg; simp only [hg]; simp [a0, a1, a6, a5, hlt, hx, hmq, hj, hjf, ru_cells, ru_fold, w2, w3])) | (apply awp_cond_t; focus (simp [a0, a1, a6, a5, hlt, hx, hmq, hj, hjf, ru_cells, ru_fold, w2, w3]; done)) | (apply awp_cond_f; focus (simp [a0, a1, a6, a5, hlt, hx, hmq, hj, hjf, ru_cells, ru_fold, w2, w3]; done)) | (refine awp_cond ?_; simp [a0, a1, a6, a5, hlt, hx, hmq, hj, hjf, ru_cells, ru_fold, w2, w3]; refine ⟨?_, ?_⟩ <;> intro hc))
      refine PCalls.use (hg l[k] (List.getElem_mem _)) ?_
      cases hpk : p l[k] with
      | true =>
        (try (first | (with_reducible refine dops_go ?_; simp [a0, a1, a6, a5, hlt, hx, hmq, hj, hjf, ru_cells, ru_fold, w2, w3]) | (with_reducible refine OKv_go ?_; simp [a0, a1, a6, a5, hlt, hx, hmq, hj, hjf, ru_cells, ru_fold, w2, w3]) | (with_reducible refine OKr_go ?_; simp [a0, a1, a6, a5, hlt, hx, hmq, hj, hjf, ru_cells, ru_fold, w2, w3]))); repeat' (first | refine awp_seq ?_ | refine awp_block ?_ | (refine awp_skip ?_; try simp) | (refine awp_exit ?_; try simp) | (refine awp_ret ?_; try simp) | (refine retP_same (by simp) ?_; simp) | (refine retP_flat (by simp) (by simp) (by simp (maxDischargeDepth := 30) [a0, a1, a6, a5, hlt, hx, hmq, hj, hjf, ru_cells, ru_fold, w2, w3]) ?_; simp) | (refine awp_reg ?_; simp [a0, a1, a6, a5, hlt, hx, hmq, hj, hjf, ru_cells, ru_fold, w2, w3]) | (refine awp_drawT (fun _ => false) mixed (by decide +kernel) ?_; simp [a0, a1, a6, a5, hlt, hx, hmq, hj, hjf, ru_cells, ru_fold, w2, w3]) | (refine guarded_split ?_ ?_ <;> (intro hg; simp only [hg]; simp [a0, a1, a6, a5, hlt, hx, hmq, hj, hjf, ru_cells, ru_fold, w2, w3])) | (apply awp_cond_t; focus (simp [a0, a1, a6, a5, hlt, hx, hmq, hj, hjf, ru_cells, ru_fold, w2, w3]; done)) | (apply awp_cond_f; focus (simp [a0, a1, a6, a5, hlt, hx, hmq, hj, hjf, ru_cells, ru_fold, w2, w3]; done)) | (refine awp_cond ?_; simp [a0, a1, a6, a5, hlt, hx, hmq, hj, hjf, ru_cells, ru_fold, w2, w3]; refine ⟨?_, ?_⟩ <;> intro hc))
        have e := htk k hlt
        rw [if_pos hpk, List.append_nil] at e
        refine hI1 (l.length - (k + 1)) _ _ (by omega) ⟨by simp [a0], by simp [a1], by simp [hE], k + 1, q, by simp, by rw [e, hii]; simp [a5], by omega, by rw [e, hii]; omega, hq, by rw [e, hii]; exact hq1, ?_, by simp [St.set, St.new, hjf, hmq], rfl⟩
        have := congrArg (List.drop 1) hq2
        simpa [List.drop_drop, Nat.add_comm] using this
      | false =>
        have hsp : setPart (ruAV q[i]) 0 (ruAV l[k]).cells = ruAV l[k] := rfl
        rw [ru_cells] at hsp
        (try (first | (with_reducible refine dops_go ?_; simp [a0, a1, a6, a5, hlt, hil, hx, hxi, hmq, hj, hjf, ru_cells, ru_fold, hsp, w2, w3]) | (with_reducible refine OKv_go ?_; simp [a0, a1, a6, a5, hlt, hil, hx, hxi, hmq, hj, hjf, ru_cells, ru_fold, hsp, w2, w3]) | (with_reducible refine OKr_go ?_; simp [a0, a1, a6, a5, hlt, hil, hx, hxi, hmq, hj, hjf, ru_cells, ru_fold, hsp, w2, w3]))); repeat' (first | refine awp_seq ?_ | refine awp_block ?_ | (refine awp_skip ?_; try simp) | (refine awp_exit ?_; try simp) | (refine awp_ret ?_; try simp) | (refine retP_same (by simp) ?_; simp) | (refine retP_flat (by simp) (by simp) (by simp (maxDischargeDepth := 30) [a0, a1, a6, a5, hlt, hil, hx, hxi, hmq, hj, hjf, ru_cells, ru_fold, hsp, w2, w3]) ?_; simp) | (refine awp_reg ?_; simp [a0, a1, a6, a5, hlt, hil, hx, hxi, hmq, hj, hjf, ru_cells, ru_fold, hsp, w2, w3]) | (refine awp_drawT (fun _ => false) mixed (by decide +kernel) ?_; simp [a0, a1, a6, a5, hlt, hil, hx, hxi, hmq, hj, hjf, ru_cells, ru_fold, hsp, w2, w3]) | (refine guarded_split ?_ ?_ <;> (intro hg; simp only [hg]; simp [a0, a1, a6, a5, hlt, hil, hx, hxi, hmq, hj, hjf, ru_cells, ru_fold, hsp, w2, w3])) | (apply awp_cond_t; focus (simp [a0, a1, a6, a5, hlt, hil, hx, hxi, hmq, hj, hjf, ru_cells, ru_fold, hsp, w2, w3]; done)) | (apply awp_cond_f; focus (simp [a0, a1, a6, a5, hlt, hil, hx, hxi, hmq, hj, hjf, ru_cells, ru_fold, hsp, w2, w3]; done)) | (refine awp_cond ?_; simp [a0, a1, a6, a5, hlt, hil, hx, hxi, hmq, hj, hjf, ru_cells, ru_fold, hsp, w2, w3]; refine ⟨?_, ?_⟩ <;> intro hc))
        have e := htk k hlt
        rw [if_neg (by simp [hpk])] at e
        have el : (((l.take k).filter fun r => !p r) ++ [l[k]]).length = i + 1 := by rw [List.length_append, hii]; rfl
        refine hI1 (l.length - (k + 1)) _ _ (by omega) ⟨by simp [a0], by simp [a1], Ext.setF (by simp [hE]) hn, k + 1, q.set i l[k], by simp, by rw [e, el]; simp, by omega, by rw [e, el]; omega, by simpa using hq, ?_, ?_, by simp [St.set, St.new, hjf, hmq, List.map_set], rfl⟩
        · rw [e, el, ← hq1, List.take_succ_eq_append_getElem (by simp; omega)]
          simp
          rw [List.take_set, List.set_eq_of_length_le (by simp; omega)]
        · have := congrArg (List.drop 1) hq2
          rw [List.drop_set_of_lt (by omega)]
          simpa [List.drop_drop, Nat.add_comm] using this
    · have : k = l.length := by omega
      subst this
      rw [List.take_length] at *
      have hil : i ≤ l.length := by omega
      obtain ⟨m, hm'⟩ : ∃ m, l.length - i = m + 1 := ⟨l.length - i - 1, by omega⟩
      have ecut : cutRs j 0 i l.length = .rs j i (m + 1) := by unfold cutRs; rw [if_pos (.inr (by omega)), hm', Nat.zero_add]
      obtain ⟨rest, hcl⟩ : ∃ rest, opClear Try.prog τ.m 26 (.rs j i (m + 1)) = some (.wrv j ((l.filter fun r => !p r).map ruAV ++ rest) (.tup [])) := by
        have hle : i + (m + 1) ≤ q.length := by omega
        refine ⟨List.replicate (m + 1) (ruAV ⟨0, 0, 0, 0, ⟨0, 0⟩, 0⟩) ++ (q.map ruAV).drop (i + (m + 1)), ?_⟩
        rw [← hq1, List.map_take]
        simp [opClear, hmq, hj, cellsOK, cellOK, hle, ruAV]
      (try (first | (with_reducible refine dops_go ?_; simp [a0, a1, a6, a5, hj, hil, ecut, hcl]) | (with_reducible refine OKv_go ?_; simp [a0, a1, a6, a5, hj, hil, ecut, hcl]) | (with_reducible refine OKr_go ?_; simp [a0, a1, a6, a5, hj, hil, ecut, hcl]))); repeat' (first | refine awp_seq ?_ | refine awp_block ?_ | (refine awp_skip ?_; try simp) | (refine awp_exit ?_; try simp) | (refine awp_ret ?_; try simp) | (refine awp_reg ?_; simp [a0, a1, a6, a5, hj, hil, ecut, hcl]) | (refine awp_drawT (fun _ => false) mixed (by decide +kernel) ?_; simp [a0, a1, a6, a5, hj, hil, ecut, hcl]) | (refine guarded_split ?_ ?_ <;> (intro hg; simp only [hg]; simp [a0, a1, a6, a5, hj, hil, ecut, hcl])) | (apply awp_cond_t; focus (simp [a0, a1, a6, a5, hj, hil, ecut, hcl]; done)) | (apply awp_cond_f; focus (simp [a0, a1, a6, a5, hj, hil, ecut, hcl]; done)) | (refine awp_cond ?_; simp [a0, a1, a6, a5, hj, hil, ecut, hcl]; refine ⟨?_, ?_⟩ <;> intro hc))
      have ec0 : cutRs j 0 0 i = .rs j 0 ((l.filter fun r => !p r).map ruAV).length := by
        unfold cutRs; rw [if_pos (.inl rfl), List.length_map, hii]; simp
      exact retK_of (.inr rfl) (x := cutRs j 0 0 i) (by simp) (by
        rw [ec0]
        exact h _ _ (.inr ⟨j, rest, rfl, hj, set_hit hmq, hn⟩) (Ext.setF hE hn))
end Go.Proofs.Ytanimmdlgmkmkaa.Av


/- Networks: which rule a device goes by. -/
namespace Go.Proofs.Ytanimmdlgmkmkaa.Av
open Go
set_option linter.unusedSimpArgs false
set_option linter.unusedVariables false
set_option maxRecDepth 100000
set_option maxHeartbeats 2000000
set_option pp.maxSteps 300

theorem firstNot_calls {g : FuncId} {caps : List AV} {p : Ru → Bool} (r : Ru) (hg : PCalls Try.prog g (ruAV r :: caps) (.raw (.bool (p r)))) : PCalls Try.prog 149 [ruAV r, .pp [.fn (.func g) [] caps] 0] (.raw (.bool (!p r))) := by
  refine pbody Try.func149 rfl (N := 8) rfl rfl (by simp) (by simp [noIds]) fun σ => ?_
  (try (first | (with_reducible refine dops_go ?_; simp [ru_cells, ru_ok]) | (with_reducible refine OKv_go ?_; simp [ru_cells, ru_ok]) | (with_reducible refine OKr_go ?_; simp [ru_cells, ru_ok]))); repeat' (first | refine awp_seq ?_ | refine awp_block ?_ | (refine awp_skip ?_; try simp) | (refine awp_exit ?_; try simp) | (refine awp_ret ?_; try simp) | (refine retP_same (by simp) ?_; simp) | (refine retP_flat (by simp) (by simp) (by simp (maxDischargeDepth := 30) [ru_cells, ru_ok]) ?_; simp) | (refine awp_reg ?_; simp [ru_cells, ru_ok]) | (refine awp_drawT (fun _ => false) mixed (by decide +kernel) ?_; simp [ru_cells, ru_ok]) | (refine guarded_split ?_ ?_ <;> (intro hg; simp only [hg]; simp [ru_cells, ru_ok])) | (apply awp_cond_t; focus (simp [ru_cells, ru_ok]; done)) | (apply awp_cond_f; focus (simp [ru_cells, ru_ok]; done)) | (refine awp_cond ?_; simp [ru_cells, ru_ok]; refine ⟨?_, ?_⟩ <;> intro hc))
  rw [ru_fold]
  refine PCalls.use hg ?_
  (try (first | (with_reducible refine dops_go ?_; simp) | (with_reducible refine OKv_go ?_; simp) | (with_reducible refine OKr_go ?_; simp))); repeat' (first | refine awp_seq ?_ | refine awp_block ?_ | (refine awp_skip ?_; try simp) | (refine awp_exit ?_; try simp) | (refine awp_ret ?_; try simp) | (refine retP_same (by simp) ?_; simp) | (refine retP_flat (by simp) (by simp) (by simp (maxDischargeDepth := 30)) ?_; simp) | (refine awp_reg ?_; simp) | (refine awp_drawT (fun _ => false) mixed (by decide +kernel) ?_; simp) | (refine guarded_split ?_ ?_ <;> (intro hg; simp only [hg]; simp)) | (apply awp_cond_t; focus (simp; done)) | (apply awp_cond_f; focus (simp; done)) | (refine awp_cond ?_; simp; refine ⟨?_, ?_⟩ <;> intro hc))

theorem first_calls {g : FuncId} {caps : List AV} {p : Ru → Bool} (l : List Ru) (f : Bool) (hl : l.length < 2932031007403) (hg : ∀ r ∈ l, PCalls Try.prog g (ruAV r :: caps) (.raw (.bool (p r)))) :
    PCalls Try.prog 135 [rulesAV l f, .fn (.func g) [] caps] (.tup [ruAV (minR (l.filter p)), .raw (.bool (l.any p))]) := by
  refine pbody Try.func135 rfl (N := 16) rfl rfl (by simp) (by simp [noIds, ruAV]) fun σ => ?_
  repeat (refine awp_seq ?_)
  refine awp_reg ?_
  simp
  refine awp_freeze ⟨3, σ.nx 3, 1⟩ ?_
  generalize hτ : St.del _ _ = τ
  generalize hA : (fun t => giveUp _ _ _) = A
  have a0 : A 0 = rulesAV l f := by rw [← hA]; simp [rulesAV]
  have a3 : A 3 = .pp [.fn (.func g) [] caps] 0 := by rw [← hA, ← hτ]; simp [giveUp, St.new, St.del]
  have a4 : A 4 = .rp ⟨4, σ.nx 4, 7⟩ 0 0 := by rw [← hA, ← hτ]; simp [giveUp, St.new, St.del]
  have m4 : τ.m ⟨4, σ.nx 4, 7⟩ = some (.buf [ruAV ⟨0, 0, 0, 0, ⟨0, 0⟩, 0⟩]) := by rw [← hτ]; simp [St.new, St.del, ruAV]
  have hE : Ext σ τ := by
    rw [← hτ]
    refine ⟨fun i o h => ?_, fun s => ?_⟩
    · rw [del_other (fun e => by rw [e, fresh_none] at h; cases h)]
      exact new_up _ _ (new_up _ _ h)
    · exact Nat.le_trans (St.new_le σ 3 1 (.buf [.fn (.func g) [] caps]) s) (St.new_le (σ.new 3 1 (.buf [.fn (.func g) [] caps])) 4 7 (.buf [ruAV ⟨0, 0, 0, 0, ⟨0, 0⟩, 0⟩]) s)
  clear hτ hA
  have f4 : σ.m ⟨4, σ.nx 4, 7⟩ = none := fresh_none _ _ _
  (try (first | (with_reducible refine dops_go ?_; simp [a0, a3, a4, m4]) | (with_reducible refine OKv_go ?_; simp [a0, a3, a4, m4]) | (with_reducible refine OKr_go ?_; simp [a0, a3, a4, m4]))); repeat' (first | refine awp_seq ?_ | refine awp_block ?_ | (refine awp_skip ?_; try simp) | (refine awp_exit ?_; try simp) | (refine awp_ret ?_; try simp) | (refine retP_same (by simp) ?_; simp) | (refine retP_flat (by simp) (by simp) (by simp (maxDischargeDepth := 30) [a0, a3, a4, m4]) ?_; simp) | (refine awp_reg ?_; simp [a0, a3, a4, m4]) | (refine awp_drawT (fun _ => false) mixed (by decide +kernel) ?_; simp [a0, a3, a4, m4]) | (refine guarded_split ?_ ?_ <;> (intro hg; simp only [hg]; simp [a0, a3, a4, m4])) | (apply awp_cond_t; focus (simp [a0, a3, a4, m4]; done)) | (apply awp_cond_f; focus (simp [a0, a3, a4, m4]; done)) | (refine awp_cond ?_; simp [a0, a3, a4, m4]; refine ⟨?_, ?_⟩ <;> intro hc))
  refine ruClone_calls l f hl fun v τ1 hO hE1 => ?_
  (try (first | (with_reducible refine dops_go ?_; simp [a0, a3, a4]) | (with_reducible refine OKv_go ?_; simp [a0, a3, a4]) | (with_reducible refine OKr_go ?_; simp [a0, a3, a4]))); repeat' (first | refine awp_seq ?_ | refine awp_block ?_ | (refine awp_skip ?_; try simp) | (refine awp_exit ?_; try simp) | (refine awp_ret ?_; try simp) | (refine retP_same (by simp) ?_; simp) | (refine retP_flat (by simp) (by simp) (by simp (maxDischargeDepth := 30) [a0, a3, a4]) ?_; simp) | (refine awp_reg ?_; simp [a0, a3, a4]) | (refine awp_drawT (fun _ => false) mixed (by decide +kernel) ?_; simp [a0, a3, a4]) | (refine guarded_split ?_ ?_ <;> (intro hg; simp only [hg]; simp [a0, a3, a4])) | (apply awp_cond_t; focus (simp [a0, a3, a4]; done)) | (apply awp_cond_f; focus (simp [a0, a3, a4]; done)) | (refine awp_cond ?_; simp [a0, a3, a4]; refine ⟨?_, ?_⟩ <;> intro hc))
  refine delete_calls (σ0 := τ) l hO hE1 hl (fun r hr => firstNot_calls r (hg r hr)) fun v' τ2 hP hE2 => ?_
  have hfl : (l.filter fun r => !(!p r)) = l.filter p := by simp
  rw [hfl] at hP
  have m4' : τ2.m ⟨4, σ.nx 4, 7⟩ = some (.buf [ruAV ⟨0, 0, 0, 0, ⟨0, 0⟩, 0⟩]) := hE2.m _ _ m4
  have hE3 : Ext σ τ2 := hE.trans hE2
  cases ha : l.any p with
  | false =>
    have hnil : l.filter p = [] := by
      rw [List.filter_eq_nil_iff]
      intro r hr
      rw [List.any_eq_false] at ha
      exact ha r hr
    rw [hnil] at hP ⊢
    have hlen : ∃ z, (v' = .sl 0 [] true ∨ v' = .rs z 0 0) := by
      rcases hP with ⟨_, h⟩ | ⟨z, rest, h, _⟩
      · exact ⟨⟨0, 0, 0⟩, .inl h⟩
      · exact ⟨z, .inr h⟩
    have hz : setPart (ruAV ⟨0, 0, 0, 0, ⟨0, 0⟩, 0⟩) 0 [.raw (.int .i64 0), .raw (.int .i64 0), .raw (.int .i64 0), .raw (.int .i64 0), .raw (.int .u32 0), .raw (.int .u32 0), .raw (.int .i64 0)] = ruAV ⟨0, 0, 0, 0, ⟨0, 0⟩, 0⟩ := rfl
    obtain ⟨z, rfl | rfl⟩ := hlen
    · (try (first | (with_reducible refine dops_go ?_; simp [a0, a3, a4, m4']) | (with_reducible refine OKv_go ?_; simp [a0, a3, a4, m4']) | (with_reducible refine OKr_go ?_; simp [a0, a3, a4, m4']))); repeat' (first | refine awp_seq ?_ | refine awp_block ?_ | (refine awp_skip ?_; try simp) | (refine awp_exit ?_; try simp) | (refine awp_ret ?_; try simp) | (refine awp_reg ?_; simp [a0, a3, a4, m4']) | (refine awp_drawT (fun _ => false) mixed (by decide +kernel) ?_; simp [a0, a3, a4, m4']) | (refine guarded_split ?_ ?_ <;> (intro hg; simp only [hg]; simp [a0, a3, a4, m4'])) | (apply awp_cond_t; focus (simp [a0, a3, a4, m4']; done)) | (apply awp_cond_f; focus (simp [a0, a3, a4, m4']; done)) | (refine awp_cond ?_; simp [a0, a3, a4, m4']; refine ⟨?_, ?_⟩ <;> intro hc))
      exact retP_flat (.inr rfl) rfl (hE3.setF f4) (by simp [a4, m4', St.set, minR, hz, ru_cells]; rfl)
    · (try (first | (with_reducible refine dops_go ?_; simp [a0, a3, a4, m4']) | (with_reducible refine OKv_go ?_; simp [a0, a3, a4, m4']) | (with_reducible refine OKr_go ?_; simp [a0, a3, a4, m4']))); repeat' (first | refine awp_seq ?_ | refine awp_block ?_ | (refine awp_skip ?_; try simp) | (refine awp_exit ?_; try simp) | (refine awp_ret ?_; try simp) | (refine awp_reg ?_; simp [a0, a3, a4, m4']) | (refine awp_drawT (fun _ => false) mixed (by decide +kernel) ?_; simp [a0, a3, a4, m4']) | (refine guarded_split ?_ ?_ <;> (intro hg; simp only [hg]; simp [a0, a3, a4, m4'])) | (apply awp_cond_t; focus (simp [a0, a3, a4, m4']; done)) | (apply awp_cond_f; focus (simp [a0, a3, a4, m4']; done)) | (refine awp_cond ?_; simp [a0, a3, a4, m4']; refine ⟨?_, ?_⟩ <;> intro hc))
      exact retP_flat (.inr rfl) rfl (hE3.setF f4) (by simp [a4, m4', St.set, minR, hz, ru_cells]; rfl)
  | true =>
    have hne : l.filter p ≠ [] := by
      intro e
      rw [List.filter_eq_nil_iff] at e
      obtain ⟨r, hr, h⟩ := List.any_eq_true.1 ha
      exact e r hr h
    have hlf : (l.filter p).length ≤ l.length := List.length_filter_le _ _
    have hmin := minFunc_calls (l.filter p) hne false (by omega)
    have hpos : 0 < (l.filter p).length := List.length_pos_iff.2 hne
    have hP' := hP
    rcases hP with ⟨h, _⟩ | ⟨z, rest, rfl, hz7, hz, hzn⟩
    · exact absurd (by simpa using h) hne
    rw [List.length_map] at hP' ⊢
    have hl0 : ¬ ((l.filter p).length = 0) := by omega
    (try (first | (with_reducible refine dops_go ?_; simp [a0, a3, a4, m4', hl0]) | (with_reducible refine OKv_go ?_; simp [a0, a3, a4, m4', hl0]) | (with_reducible refine OKr_go ?_; simp [a0, a3, a4, m4', hl0]))); repeat' (first | refine awp_seq ?_ | refine awp_block ?_ | (refine awp_skip ?_; try simp) | (refine awp_exit ?_; try simp) | (refine awp_ret ?_; try simp) | (refine retP_same (by simp) ?_; simp) | (refine retP_flat (by simp) (by simp) (by simp (maxDischargeDepth := 30) [a0, a3, a4, m4', hl0]) ?_; simp) | (refine awp_reg ?_; simp [a0, a3, a4, m4', hl0]) | (refine awp_drawT (fun _ => false) mixed (by decide +kernel) ?_; simp [a0, a3, a4, m4', hl0]) | (refine guarded_split ?_ ?_ <;> (intro hg; simp only [hg]; simp [a0, a3, a4, m4', hl0])) | (apply awp_cond_t; focus (simp [a0, a3, a4, m4', hl0]; done)) | (apply awp_cond_f; focus (simp [a0, a3, a4, m4', hl0]; done)) | (refine awp_cond ?_; simp [a0, a3, a4, m4', hl0]; refine ⟨?_, ?_⟩ <;> intro hc))
    refine PCalls.useP hmin rfl hP' ?_
    (try (first | (with_reducible refine dops_go ?_; simp [a0, a3, a4, m4', ru_cells, ru_part]) | (with_reducible refine OKv_go ?_; simp [a0, a3, a4, m4', ru_cells, ru_part]) | (with_reducible refine OKr_go ?_; simp [a0, a3, a4, m4', ru_cells, ru_part]))); repeat' (first | refine awp_seq ?_ | refine awp_block ?_ | (refine awp_skip ?_; try simp) | (refine awp_exit ?_; try simp) | (refine awp_ret ?_; try simp) | (refine awp_reg ?_; simp [a0, a3, a4, m4', ru_cells, ru_part]) | (refine awp_drawT (fun _ => false) mixed (by decide +kernel) ?_; simp [a0, a3, a4, m4', ru_cells, ru_part]) | (refine guarded_split ?_ ?_ <;> (intro hg; simp only [hg]; simp [a0, a3, a4, m4', ru_cells, ru_part])) | (apply awp_cond_t; focus (simp [a0, a3, a4, m4', ru_cells, ru_part]; done)) | (apply awp_cond_f; focus (simp [a0, a3, a4, m4', ru_cells, ru_part]; done)) | (refine awp_cond ?_; simp [a0, a3, a4, m4', ru_cells, ru_part]; refine ⟨?_, ?_⟩ <;> intro hc))
    exact retP_flat (.inr rfl) rfl (hE3.setF f4) (by simp [a4, m4', St.set, ru_cells]; exact ru_fold _)

def aclP (d a : Int) (r : Ru) : Bool := decide (1 < r.kind) && takesB r d a
def fwdP (d a : Int) (r : Ru) : Bool := decide (r.kind ≤ 1) && takesB r d a
theorem aclP_calls (r : Ru) (d a : Int) : PCalls Try.prog 136 [ruAV r, .pp [.raw (.int .i64 d)] 0, .pp [.raw (.int .u32 a)] 0] (.raw (.bool (aclP d a r))) := by
  refine pbody Try.func136 rfl (N := 14) rfl rfl (by simp) (by simp [noIds]) fun σ => ?_
  obtain ⟨b, hb⟩ : ∃ b, decide (1 < r.kind) = b := ⟨_, rfl⟩
  unfold aclP
  rw [hb]
  (try (first | (with_reducible refine dops_go ?_; simp [ru_cells, ru_ok, hb, ru_fold]) | (with_reducible refine OKv_go ?_; simp [ru_cells, ru_ok, hb, ru_fold]) | (with_reducible refine OKr_go ?_; simp [ru_cells, ru_ok, hb, ru_fold]))); repeat' (first | refine awp_seq ?_ | refine awp_block ?_ | (refine awp_skip ?_; try simp) | (refine awp_exit ?_; try simp) | (refine awp_ret ?_; try simp) | (refine retP_same (by simp) ?_; simp) | (refine retP_flat (by simp) (by simp) (by simp (maxDischargeDepth := 30) [ru_cells, ru_ok, hb, ru_fold]) ?_; simp) | (refine awp_reg ?_; simp [ru_cells, ru_ok, hb, ru_fold]) | (refine awp_drawT (fun _ => false) mixed (by decide +kernel) ?_; simp [ru_cells, ru_ok, hb, ru_fold]) | (refine guarded_split ?_ ?_ <;> (intro hg; simp only [hg]; simp [ru_cells, ru_ok, hb, ru_fold])) | (apply awp_cond_t; focus (simp [ru_cells, ru_ok, hb, ru_fold]; done)) | (apply awp_cond_f; focus (simp [ru_cells, ru_ok, hb, ru_fold]; done)) | (refine awp_cond ?_; simp [ru_cells, ru_ok, hb, ru_fold]; refine ⟨?_, ?_⟩ <;> intro hc))
  refine PCalls.use (takes_calls r d a) ?_
  (try (first | (with_reducible refine dops_go ?_; simp) | (with_reducible refine OKv_go ?_; simp) | (with_reducible refine OKr_go ?_; simp))); repeat' (first | refine awp_seq ?_ | refine awp_block ?_ | (refine awp_skip ?_; try simp) | (refine awp_exit ?_; try simp) | (refine awp_ret ?_; try simp) | (refine retP_same (by simp) ?_; simp) | (refine retP_flat (by simp) (by simp) (by simp (maxDischargeDepth := 30)) ?_; simp) | (refine awp_reg ?_; simp) | (refine awp_drawT (fun _ => false) mixed (by decide +kernel) ?_; simp) | (refine guarded_split ?_ ?_ <;> (intro hg; simp only [hg]; simp)) | (apply awp_cond_t; focus (simp; done)) | (apply awp_cond_f; focus (simp; done)) | (refine awp_cond ?_; simp; refine ⟨?_, ?_⟩ <;> intro hc))
theorem fwdP_calls (r : Ru) (d a : Int) : PCalls Try.prog 138 [ruAV r, .pp [.raw (.int .i64 d)] 0, .pp [.raw (.int .u32 a)] 0] (.raw (.bool (fwdP d a r))) := by
  refine pbody Try.func138 rfl (N := 14) rfl rfl (by simp) (by simp [noIds]) fun σ => ?_
  obtain ⟨b, hb⟩ : ∃ b, decide (r.kind ≤ 1) = b := ⟨_, rfl⟩
  unfold fwdP
  rw [hb]
  (try (first | (with_reducible refine dops_go ?_; simp [ru_cells, ru_ok, hb, ru_fold]) | (with_reducible refine OKv_go ?_; simp [ru_cells, ru_ok, hb, ru_fold]) | (with_reducible refine OKr_go ?_; simp [ru_cells, ru_ok, hb, ru_fold]))); repeat' (first | refine awp_seq ?_ | refine awp_block ?_ | (refine awp_skip ?_; try simp) | (refine awp_exit ?_; try simp) | (refine awp_ret ?_; try simp) | (refine retP_same (by simp) ?_; simp) | (refine retP_flat (by simp) (by simp) (by simp (maxDischargeDepth := 30) [ru_cells, ru_ok, hb, ru_fold]) ?_; simp) | (refine awp_reg ?_; simp [ru_cells, ru_ok, hb, ru_fold]) | (refine awp_drawT (fun _ => false) mixed (by decide +kernel) ?_; simp [ru_cells, ru_ok, hb, ru_fold]) | (refine guarded_split ?_ ?_ <;> (intro hg; simp only [hg]; simp [ru_cells, ru_ok, hb, ru_fold])) | (apply awp_cond_t; focus (simp [ru_cells, ru_ok, hb, ru_fold]; done)) | (apply awp_cond_f; focus (simp [ru_cells, ru_ok, hb, ru_fold]; done)) | (refine awp_cond ?_; simp [ru_cells, ru_ok, hb, ru_fold]; refine ⟨?_, ?_⟩ <;> intro hc))
  refine PCalls.use (takes_calls r d a) ?_
  (try (first | (with_reducible refine dops_go ?_; simp) | (with_reducible refine OKv_go ?_; simp) | (with_reducible refine OKr_go ?_; simp))); repeat' (first | refine awp_seq ?_ | refine awp_block ?_ | (refine awp_skip ?_; try simp) | (refine awp_exit ?_; try simp) | (refine awp_ret ?_; try simp) | (refine retP_same (by simp) ?_; simp) | (refine retP_flat (by simp) (by simp) (by simp (maxDischargeDepth := 30)) ?_; simp) | (refine awp_reg ?_; simp) | (refine awp_drawT (fun _ => false) mixed (by decide +kernel) ?_; simp) | (refine guarded_split ?_ ?_ <;> (intro hg; simp only [hg]; simp)) | (apply awp_cond_t; focus (simp; done)) | (apply awp_cond_f; focus (simp; done)) | (refine awp_cond ?_; simp; refine ⟨?_, ?_⟩ <;> intro hc))
end Go.Proofs.Ytanimmdlgmkmkaa.Av


/- Networks: rules as the document goes by them. -/
namespace Go.Proofs.Ytanimmdlgmkmkaa.Av
open Go
set_option linter.unusedSimpArgs false
set_option linter.unusedVariables false
set_option maxRecDepth 100000
set_option maxHeartbeats 4000000
set_option pp.maxSteps 300

def refP (d a : Int) (acl : Bool) (r : Ru) : Bool := decide (r.dev = d) && (!decide (a < r.r.lo) && (!decide (r.r.hi < a) && ((decide (r.kind = 2) || decide (r.kind = 3)) == acl)))
def betterB (x m : Ru) : Bool := decide (m.prio < x.prio) || (decide (x.prio = m.prio) && decide (x.id < m.id))
end Go.Proofs.Ytanimmdlgmkmkaa.Av


/- Networks: rules as the document goes by them, part 2; searching numbers. -/
namespace Go.Proofs.Ytanimmdlgmkmkaa.Av
open Go
set_option linter.unusedSimpArgs false
set_option linter.unusedVariables false
set_option maxRecDepth 100000
set_option maxHeartbeats 2000000
set_option pp.maxSteps 300

def refDeniesB (l : List Ru) (d a : Int) : Bool := l.any (refP d a true) && decide ((minR (l.filter (refP d a true))).kind = 3)
theorem index_calls (z : List Int) (fz : Bool) (v : Int) (hl : z.length < 2 ^ 60) : PCalls Try.prog 72 [intsAV z fz, .raw (.int .i64 v)] (.raw (.int .i64 (idxOf (fun x => decide (v = x)) z))) := by
  refine pbody Try.func72 rfl (N := 19) rfl rfl (by simp) (by simp [noIds]) fun σ => ?_
  (try (first | (with_reducible refine dops_go ?_; simp [intsAV]) | (with_reducible refine OKv_go ?_; simp [intsAV]) | (with_reducible refine OKr_go ?_; simp [intsAV]))); repeat' (first | refine awp_seq ?_ | refine awp_block ?_ | (refine awp_skip ?_; try simp) | (refine awp_exit ?_; try simp) | (refine awp_ret ?_; try simp) | (refine retP_same (by simp) ?_; simp) | (refine retP_flat (by simp) (by simp) (by simp (maxDischargeDepth := 30) [intsAV]) ?_; simp) | (refine awp_reg ?_; simp [intsAV]) | (refine awp_drawT (fun _ => false) mixed (by decide +kernel) ?_; simp [intsAV]) | (refine guarded_split ?_ ?_ <;> (intro hg; simp only [hg]; simp [intsAV])) | (apply awp_cond_t; focus (simp [intsAV]; done)) | (apply awp_cond_f; focus (simp [intsAV]; done)) | (refine awp_cond ?_; simp [intsAV]; refine ⟨?_, ?_⟩ <;> intro hc))
  refine awp_loopH (fun n A τ => τ = σ ∧ A 0 = intsAV z fz ∧ A 1 = .raw (.int .i64 v) ∧ A 7 = .raw (.int .i64 z.length) ∧ ∃ i : Nat, A 8 = .raw (.int .i64 i) ∧ i ≤ z.length ∧ n = z.length - i ∧ ∀ j, j < i → ∀ y, z[j]? = some y → decide (v = y) = false) z.length ?_ ?_
  · exact ⟨rfl, by simp [intsAV], by simp, by simp, 0, by simp, by omega, by omega, fun j h => by omega⟩
  rintro n A τ ⟨rfl, a0, a1, a7, i, a8, hi, rfl, hn⟩ I1 hI1
  by_cases hlt : i < z.length
  · have hx : z[i]? = some z[i] := List.getElem?_eq_getElem hlt
    have w1 : IntKind.i64.wrap ((i : Int) + 1) = ((i + 1 : Nat) : Int) := by rw [wrap64 (by omega) (by omega)]; omega
    by_cases hp : v = z[i]
    · (try (first | (with_reducible refine dops_go ?_; simp [intsAV, iAV, a0, a1, a7, a8, hlt, hx, hp]) | (with_reducible refine OKv_go ?_; simp [intsAV, iAV, a0, a1, a7, a8, hlt, hx, hp]) | (with_reducible refine OKr_go ?_; simp [intsAV, iAV, a0, a1, a7, a8, hlt, hx, hp]))); repeat' (first | refine awp_seq ?_ | refine awp_block ?_ | (refine awp_skip ?_; try simp) | (refine awp_exit ?_; try simp) | (refine awp_ret ?_; try simp) | (refine retP_same (by simp) ?_; simp) | (refine retP_flat (by simp) (by simp) (by simp (maxDischargeDepth := 30) [intsAV, iAV, a0, a1, a7, a8, hlt, hx, hp]) ?_; simp) | (refine awp_reg ?_; simp [intsAV, iAV, a0, a1, a7, a8, hlt, hx, hp]) | (refine awp_drawT (fun _ => false) mixed (by decide +kernel) ?_; simp [intsAV, iAV, a0, a1, a7, a8, hlt, hx, hp]) | (refine guarded_split ?_ ?_ <;> (intro hg; simp only [hg]; simp [intsAV, iAV, a0, a1, a7, a8, hlt, hx, hp])) | (apply awp_cond_t; focus (simp [intsAV, iAV, a0, a1, a7, a8, hlt, hx, hp]; done)) | (apply awp_cond_f; focus (simp [intsAV, iAV, a0, a1, a7, a8, hlt, hx, hp]; done)) | (refine awp_cond ?_; simp [intsAV, iAV, a0, a1, a7, a8, hlt, hx, hp]; refine ⟨?_, ?_⟩ <;> intro hc))
      exact (idxOf_here hx (by simpa using hp) hn).symm
    · (try (first | (with_reducible refine dops_go ?_; simp [intsAV, iAV, a0, a1, a7, a8, hlt, hx, hp]) | (with_reducible refine OKv_go ?_; simp [intsAV, iAV, a0, a1, a7, a8, hlt, hx, hp]) | (with_reducible refine OKr_go ?_; simp [intsAV, iAV, a0, a1, a7, a8, hlt, hx, hp]))); repeat' (first | refine awp_seq ?_ | refine awp_block ?_ | (refine awp_skip ?_; try simp) | (refine awp_exit ?_; try simp) | (refine awp_ret ?_; try simp) | (refine retP_same (by simp) ?_; simp) | (refine retP_flat (by simp) (by simp) (by simp (maxDischargeDepth := 30) [intsAV, iAV, a0, a1, a7, a8, hlt, hx, hp]) ?_; simp) | (refine awp_reg ?_; simp [intsAV, iAV, a0, a1, a7, a8, hlt, hx, hp]) | (refine awp_drawT (fun _ => false) mixed (by decide +kernel) ?_; simp [intsAV, iAV, a0, a1, a7, a8, hlt, hx, hp]) | (refine guarded_split ?_ ?_ <;> (intro hg; simp only [hg]; simp [intsAV, iAV, a0, a1, a7, a8, hlt, hx, hp])) | (apply awp_cond_t; focus (simp [intsAV, iAV, a0, a1, a7, a8, hlt, hx, hp]; done)) | (apply awp_cond_f; focus (simp [intsAV, iAV, a0, a1, a7, a8, hlt, hx, hp]; done)) | (refine awp_cond ?_; simp [intsAV, iAV, a0, a1, a7, a8, hlt, hx, hp]; refine ⟨?_, ?_⟩ <;> intro hc))
      refine hI1 (z.length - (i + 1)) _ _ (by omega) ⟨rfl, by simp [a0, intsAV], by simp [a1], by simp [a7], i + 1, by simp [w1], by omega, rfl, fun j hj y hy => ?_⟩
      by_cases e : j = i
      · subst e; rw [hx] at hy; injection hy with hy; subst hy; simpa using hp
      · exact hn j (by omega) y hy
  · have hi' : i = z.length := by omega
    subst hi'
    have w1 : IntKind.i64.wrap (-1) = -1 := wrap64 (by omega) (by omega)
    (try (first | (with_reducible refine dops_go ?_; simp [intsAV, a0, a1, a7, a8, w1]) | (with_reducible refine OKv_go ?_; simp [intsAV, a0, a1, a7, a8, w1]) | (with_reducible refine OKr_go ?_; simp [intsAV, a0, a1, a7, a8, w1]))); repeat' (first | refine awp_seq ?_ | refine awp_block ?_ | (refine awp_skip ?_; try simp) | (refine awp_exit ?_; try simp) | (refine awp_ret ?_; try simp) | (refine retP_same (by simp) ?_; simp) | (refine retP_flat (by simp) (by simp) (by simp (maxDischargeDepth := 30) [intsAV, a0, a1, a7, a8, w1]) ?_; simp) | (refine awp_reg ?_; simp [intsAV, a0, a1, a7, a8, w1]) | (refine awp_drawT (fun _ => false) mixed (by decide +kernel) ?_; simp [intsAV, a0, a1, a7, a8, w1]) | (refine guarded_split ?_ ?_ <;> (intro hg; simp only [hg]; simp [intsAV, a0, a1, a7, a8, w1])) | (apply awp_cond_t; focus (simp [intsAV, a0, a1, a7, a8, w1]; done)) | (apply awp_cond_f; focus (simp [intsAV, a0, a1, a7, a8, w1]; done)) | (refine awp_cond ?_; simp [intsAV, a0, a1, a7, a8, w1]; refine ⟨?_, ?_⟩ <;> intro hc))
    exact (idxOf_none hn).1.symm
theorem contains_calls (z : List Int) (fz : Bool) (v : Int) (hl : z.length < 2 ^ 60) : PCalls Try.prog 42 [intsAV z fz, .raw (.int .i64 v)] (.raw (.bool (z.any fun x => decide (v = x)))) := by
  refine pbody Try.func42 rfl (N := 9) rfl rfl (by simp) (by simp [noIds]) fun σ => ?_
  (try (first | (with_reducible refine dops_go ?_; simp) | (with_reducible refine OKv_go ?_; simp) | (with_reducible refine OKr_go ?_; simp))); repeat' (first | refine awp_seq ?_ | refine awp_block ?_ | (refine awp_skip ?_; try simp) | (refine awp_exit ?_; try simp) | (refine awp_ret ?_; try simp) | (refine retP_same (by simp) ?_; simp) | (refine retP_flat (by simp) (by simp) (by simp (maxDischargeDepth := 30)) ?_; simp) | (refine awp_reg ?_; simp) | (refine awp_drawT (fun _ => false) mixed (by decide +kernel) ?_; simp) | (refine guarded_split ?_ ?_ <;> (intro hg; simp only [hg]; simp)) | (apply awp_cond_t; focus (simp; done)) | (apply awp_cond_f; focus (simp; done)) | (refine awp_cond ?_; simp; refine ⟨?_, ?_⟩ <;> intro hc))
  refine PCalls.use (index_calls z fz v hl) ?_
  have := idxOf_any (fun x => decide (v = x)) z
  (try (first | (with_reducible refine dops_go ?_; simp) | (with_reducible refine OKv_go ?_; simp) | (with_reducible refine OKr_go ?_; simp))); repeat' (first | refine awp_seq ?_ | refine awp_block ?_ | (refine awp_skip ?_; try simp) | (refine awp_exit ?_; try simp) | (refine awp_ret ?_; try simp) | (refine retP_same (by simp) ?_; simp) | (refine retP_flat (by simp) (by simp) (by simp (maxDischargeDepth := 30)) ?_; simp) | (refine awp_reg ?_; simp) | (refine awp_drawT (fun _ => false) mixed (by decide +kernel) ?_; simp) | (refine guarded_split ?_ ?_ <;> (intro hg; simp only [hg]; simp)) | (apply awp_cond_t; focus (simp; done)) | (apply awp_cond_f; focus (simp; done)) | (refine awp_cond ?_; simp; refine ⟨?_, ?_⟩ <;> intro hc))
  simpa using this
end Go.Proofs.Ytanimmdlgmkmkaa.Av


/- Trees, the plain law: what is held behind each change. -/
namespace Go.Proofs.Ytanimmdlgmkmkaa.Av
set_option linter.unusedSimpArgs false
set_option linter.unusedVariables false

inductive Tr where
  | nil
  | node (l : Tr) (k v : Int) (r : Tr)
namespace Tr
def ht : Tr → Int
  | nil => 0
  | node l _ _ r => 1 + max l.ht r.ht
def sz : Tr → Int
  | nil => 0
  | node l _ _ r => 1 + l.sz + r.sz
def toL : Tr → List (Int × Int)
  | nil => []
  | node l k v r => l.toL ++ (k, v) :: r.toL
theorem ht_nn : ∀ t : Tr, 0 ≤ t.ht
  | nil => by simp [ht]
  | node l k v r => by have := ht_nn l; have := ht_nn r; simp only [ht]; omega
theorem sz_nn : ∀ t : Tr, 0 ≤ t.sz
  | nil => by simp [sz]
  | node l k v r => by have := sz_nn l; have := sz_nn r; simp only [sz]; omega
theorem ht_le : ∀ t : Tr, t.ht ≤ t.sz
  | nil => by simp [ht, sz]
  | node l k v r => by have := ht_le l; have := ht_le r; have := sz_nn l; have := sz_nn r; simp only [ht, sz]; omega
theorem sz_toL : ∀ t : Tr, t.sz = t.toL.length
  | nil => by simp [sz, toL]
  | node l k v r => by have := sz_toL l; have := sz_toL r; simp only [sz, toL, List.length_append, List.length_cons]; omega

def left : Tr → Tr
  | nil => nil
  | node l _ _ _ => l
def right : Tr → Tr
  | nil => nil
  | node _ _ _ r => r
/-- A node of three parts, turned if one is too high. -/
def even (l : Tr) (k v : Int) (r : Tr) : Tr :=
  if r.ht + 1 < l.ht then
    match l with
    | nil => nil
    | node ll lk lv lr => if lr.ht ≤ ll.ht then node ll lk lv (node lr k v r) else match lr with
      | nil => nil
      | node a mk mv b => node (node ll lk lv a) mk mv (node b k v r)
  else if l.ht + 1 < r.ht then
    match r with
    | nil => nil
    | node rl rk rv rr => if rl.ht ≤ rr.ht then node (node l k v rl) rk rv rr else match rl with
      | nil => nil
      | node a mk mv b => node (node l k v a) mk mv (node b rk rv rr)
  else node l k v r
theorem even_toL (l : Tr) (k v : Int) (r : Tr) : (even l k v r).toL = l.toL ++ (k, v) :: r.toL := by
  unfold even
  split
  · rename_i h
    cases l with
    | nil => have := ht_nn r; simp only [ht] at h; omega
    | node ll lk lv lr =>
      simp only []
      split
      · simp [toL]
      · rename_i h2
        cases lr with
        | nil => have := ht_nn ll; simp only [ht] at h2; omega
        | node a mk mv b => simp [toL]
  · split
    · rename_i h
      cases r with
      | nil => have := ht_nn l; simp only [ht] at h; omega
      | node rl rk rv rr =>
        simp only []
        split
        · simp [toL]
        · rename_i h2
          cases rl with
          | nil => have := ht_nn rr; simp only [ht] at h2; omega
          | node a mk mv b => simp [toL]
    · simp [toL]
theorem even_sz (l : Tr) (k v : Int) (r : Tr) : (even l k v r).sz = 1 + l.sz + r.sz := by
  rw [sz_toL, even_toL, sz_toL l, sz_toL r]
  simp only [List.length_append, List.length_cons]
  omega
/-- A node with a pair. -/
def with_ : Tr → Int → Int → Tr
  | nil, k, v => node nil k v nil
  | node l k' v' r, k, v => if k < k' then even (l.with_ k v) k' v' r else if k' < k then even l k' v' (r.with_ k v) else node l k v r
/-- The value at a key. -/
def get : Tr → Int → Option Int
  | nil, _ => none
  | node l k' v' r, k => if k < k' then l.get k else if k' < k then r.get k else some v'
/-- The least pair, and what is left. -/
def least : Tr → (Int × Int) × Tr
  | nil => ((0, 0), nil)
  | node nil k v r => ((k, v), r)
  | node (node a b c d) k v r => ((node a b c d).least.1, even (node a b c d).least.2 k v r)
def without : Tr → Int → Tr
  | nil, _ => nil
  | node l k' v' r, k => if k < k' then even (l.without k) k' v' r else if k' < k then even l k' v' (r.without k) else match r with
    | nil => l
    | node a b c d => even l (node a b c d).least.1.1 (node a b c d).least.1.2 (node a b c d).least.2
/-- How many keys are below one. -/
def under : Tr → Int → Int
  | nil, _ => 0
  | node l k' _ r, k => if k' < k then 1 + l.sz + r.under k else l.under k
/-- The i-th pair. -/
def at_ : Tr → Int → Option (Int × Int)
  | nil, _ => none
  | node l k v r, i => if i < l.sz then l.at_ i else if l.sz < i then r.at_ (i - (1 + l.sz)) else some (k, v)
def join (l : Tr) (k v : Int) (r : Tr) : Tr :=
  if r.ht + 1 < l.ht then
    match l with
    | nil => nil
    | node ll lk lv lr => even ll lk lv (join lr k v r)
  else if l.ht + 1 < r.ht then
    match r with
    | nil => nil
    | node rl rk rv rr => even (join l k v rl) rk rv rr
  else node l k v r
termination_by SizeOf.sizeOf l + SizeOf.sizeOf r
def cut : Tr → Int → Tr × Tr
  | nil, _ => (nil, nil)
  | node l k v r, b => if k < b then (join l k v (r.cut b).1, (r.cut b).2) else ((l.cut b).1, join (l.cut b).2 k v r)
theorem join_toL (l : Tr) (k v : Int) (r : Tr) : (join l k v r).toL = l.toL ++ (k, v) :: r.toL := by
  fun_induction join l k v r with
  | case1 r h => have := ht_nn r; simp only [ht] at h; omega
  | case2 r ll lk lv lr h ih => rw [even_toL, ih]; simp [toL]
  | case3 l h1 h => have := ht_nn l; simp only [ht] at h; omega
  | case4 l rl rk rv rr h1 h ih => rw [even_toL, ih]; simp [toL]
  | case5 l r h1 h2 => simp [toL]

/-! ### Sorted -/
def Srt (l : List (Int × Int)) : Prop := l.Pairwise fun a b => a.1 < b.1
def Lt (b : Int) (l : List (Int × Int)) : Prop := ∀ e ∈ l, e.1 < b
def Gt (b : Int) (l : List (Int × Int)) : Prop := ∀ e ∈ l, b < e.1
theorem srt_node {l : Tr} {k v : Int} {r : Tr} : Srt (node l k v r).toL ↔ Srt l.toL ∧ Srt r.toL ∧ Lt k l.toL ∧ Gt k r.toL := by
  simp only [Srt, toL, Lt, Gt]
  rw [List.pairwise_append, List.pairwise_cons]
  constructor
  · rintro ⟨h1, ⟨h2, h3⟩, h4⟩
    exact ⟨h1, h3, fun e he => h4 e he (k, v) (by simp), fun e he => h2 e he⟩
  · rintro ⟨h1, h2, h3, h4⟩
    refine ⟨h1, ⟨fun e he => h4 e he, h2⟩, fun a ha b hb => ?_⟩
    rcases List.mem_cons.1 hb with rfl | hb
    · exact h3 a ha
    · have := h3 a ha; have := h4 b hb; omega

/-- A sorted list with a value at a key. -/
def put (l : List (Int × Int)) (k v : Int) : List (Int × Int) := l.filter (fun e => decide (e.1 < k)) ++ (k, v) :: l.filter (fun e => decide (k < e.1))
theorem filter_all {p : Int × Int → Bool} {l : List (Int × Int)} (h : ∀ e ∈ l, p e = true) : l.filter p = l := List.filter_eq_self.2 h
theorem filter_no {p : Int × Int → Bool} {l : List (Int × Int)} (h : ∀ e ∈ l, p e = false) : l.filter p = [] := List.filter_eq_nil_iff.2 fun e he => by simp [h e he]
theorem with_toL : ∀ (t : Tr) (k v : Int), Srt t.toL → (t.with_ k v).toL = put t.toL k v
  | nil, k, v, _ => by simp [with_, toL, put]
  | node l k' v' r, k, v, h => by
    obtain ⟨h1, h2, h3, h4⟩ := srt_node.1 h
    simp only [with_]
    split
    · rename_i hk
      rw [even_toL, with_toL l k v h1]
      simp only [put, toL, List.filter_append, List.filter_cons]
      have e1 : r.toL.filter (fun e => decide (e.1 < k)) = [] := filter_no fun e he => by have := h4 e he; simp; omega
      have e2 : r.toL.filter (fun e => decide (k < e.1)) = r.toL := filter_all fun e he => by have := h4 e he; simp; omega
      have e3 : ¬ k' < k := by omega
      simp [e1, e2, hk, e3]
    · split
      · rename_i hk0 hk
        rw [even_toL, with_toL r k v h2]
        simp only [put, toL, List.filter_append, List.filter_cons]
        have e1 : l.toL.filter (fun e => decide (k < e.1)) = [] := filter_no fun e he => by have := h3 e he; simp; omega
        have e2 : l.toL.filter (fun e => decide (e.1 < k)) = l.toL := filter_all fun e he => by have := h3 e he; simp; omega
        simp [e1, e2, hk, hk0]
      · have : k = k' := by omega
        subst this
        simp only [put, toL, List.filter_append, List.filter_cons]
        have e1 : l.toL.filter (fun e => decide (k < e.1)) = [] := filter_no fun e he => by have := h3 e he; simp; omega
        have e2 : l.toL.filter (fun e => decide (e.1 < k)) = l.toL := filter_all fun e he => by have := h3 e he; simp; omega
        have e3 : r.toL.filter (fun e => decide (e.1 < k)) = [] := filter_no fun e he => by have := h4 e he; simp; omega
        have e4 : r.toL.filter (fun e => decide (k < e.1)) = r.toL := filter_all fun e he => by have := h4 e he; simp; omega
        simp [e1, e2, e3, e4]
theorem put_srt {l : List (Int × Int)} (h : Srt l) (k v : Int) : Srt (put l k v) := by
  unfold Srt put
  rw [List.pairwise_append, List.pairwise_cons]
  refine ⟨h.filter _, ⟨fun e he => by simpa using (List.mem_filter.1 he).2, h.filter _⟩, fun a ha b hb => ?_⟩
  have h1 := (List.mem_filter.1 ha).2
  simp only [decide_eq_true_eq] at h1
  rcases List.mem_cons.1 hb with rfl | hb
  · exact h1
  · have h2 := (List.mem_filter.1 hb).2
    simp only [decide_eq_true_eq] at h2
    omega
theorem get_eq : ∀ (t : Tr) (k : Int), Srt t.toL → t.get k = (t.toL.find? fun e => decide (e.1 = k)).map (·.2)
  | nil, k, _ => by simp [get, toL]
  | node l k' v' r, k, h => by
    obtain ⟨h1, h2, h3, h4⟩ := srt_node.1 h
    simp only [get, toL, List.find?_append, List.find?_cons]
    split
    · rename_i hk
      have e1 : r.toL.find? (fun e => decide (e.1 = k)) = none := List.find?_eq_none.2 fun e he => by have := h4 e he; simp; omega
      have e2 : decide (k' = k) = false := by simp; omega
      rw [get_eq l k h1, e1, e2]; simp
    · split
      · rename_i hk0 hk
        have e1 : l.toL.find? (fun e => decide (e.1 = k)) = none := List.find?_eq_none.2 fun e he => by have := h3 e he; simp; omega
        have e2 : decide (k' = k) = false := by simp; omega
        rw [get_eq r k h2, e1, e2]; simp
      · have : k' = k := by omega
        subst this
        have e1 : l.toL.find? (fun e => decide (e.1 = k')) = none := List.find?_eq_none.2 fun e he => by have := h3 e he; simp; omega
        rw [e1]; simp
theorem get_none {t : Tr} (h : Srt t.toL) (k : Int) : t.get k = none ↔ k ∉ t.toL.map (·.1) := by
  rw [get_eq t k h]
  simp only [Option.map_eq_none_iff, List.find?_eq_none, decide_eq_true_eq, List.mem_map, not_exists, not_and]
theorem get_with {t : Tr} (h : Srt t.toL) (k v k2 : Int) : (t.with_ k v).get k2 = if k2 = k then some v else t.get k2 := by
  have hs : Srt (t.with_ k v).toL := by rw [with_toL t k v h]; exact put_srt h k v
  rw [get_eq _ _ hs, with_toL t k v h, get_eq _ _ h]
  simp only [put, List.find?_append, List.find?_cons]
  by_cases e : k2 = k
  · subst e
    have e1 : (t.toL.filter fun e => decide (e.1 < k2)).find? (fun e => decide (e.1 = k2)) = none := List.find?_eq_none.2 fun e he => by have := (List.mem_filter.1 he).2; simp at this ⊢; omega
    rw [e1]; simp
  · rw [if_neg e]
    have e2 : decide (k = k2) = false := by simp; omega
    rw [e2]
    simp only [Bool.false_eq_true, if_false, List.find?_filter]
    congr 1
    have : ∀ l : List (Int × Int), Srt l → (l.find? fun a => decide (a.1 < k) && decide (a.1 = k2)).or (l.find? fun a => decide (k < a.1) && decide (a.1 = k2)) = l.find? fun a => decide (a.1 = k2) := by
      intro l hl
      induction l with
      | nil => rfl
      | cons a l ih =>
        have hl' := List.pairwise_cons.1 hl
        simp only [List.find?_cons]
        by_cases q : a.1 = k2
        · by_cases q2 : a.1 < k
          · simp [q, q2]; rw [q] at q2; simp [q2]
          · have q3 : k < a.1 := by omega
            have q4 : l.find? (fun a => decide (a.1 < k) && decide (a.1 = k2)) = none := List.find?_eq_none.2 fun e he => by have := hl'.1 e he; simp; omega
            rw [q4]
            simp [q, q2]
            rw [q] at q2 q3; simp [q2, q3]
        · simp [q]; exact ih hl'.2
    simp only [Bool.decide_and, Bool.decide_eq_true]
    exact this _ h
theorem at_eq : ∀ (t : Tr) (i : Int), 0 ≤ i → t.at_ i = t.toL[i.toNat]?
  | nil, i, _ => by simp [at_, toL]
  | node l k v r, i, hi => by
    simp only [at_, toL]
    have hz := sz_toL l
    split
    · rename_i h
      rw [at_eq l i hi, List.getElem?_append_left (by omega)]
    · split
      · rename_i h0 h
        rw [at_eq r _ (by omega), List.getElem?_append_right (by omega)]
        have : i.toNat - l.toL.length = (i - (1 + l.sz)).toNat + 1 := by omega
        rw [this, List.getElem?_cons_succ]
      · have : i.toNat = l.toL.length := by omega
        rw [this, List.getElem?_append_right (by omega)]
        simp
theorem cut_toL : ∀ (t : Tr) (b : Int), Srt t.toL → (t.cut b).1.toL = t.toL.filter (fun e => decide (e.1 < b)) ∧ (t.cut b).2.toL = t.toL.filter (fun e => decide (b ≤ e.1))
  | nil, b, _ => by simp [cut, toL]
  | node l k v r, b, h => by
    obtain ⟨h1, h2, h3, h4⟩ := srt_node.1 h
    simp only [cut, toL, List.filter_append, List.filter_cons]
    split
    · rename_i hk
      obtain ⟨i1, i2⟩ := cut_toL r b h2
      simp only [join_toL, i1, i2]
      have e1 : l.toL.filter (fun e => decide (e.1 < b)) = l.toL := filter_all fun e he => by have := h3 e he; simp; omega
      have e2 : l.toL.filter (fun e => decide (b ≤ e.1)) = [] := filter_no fun e he => by have := h3 e he; simp; omega
      have e3 : ¬ b ≤ k := by omega
      simp [e1, e2, e3, hk]
    · rename_i hk
      obtain ⟨i1, i2⟩ := cut_toL l b h1
      simp only [join_toL, i1, i2]
      have e1 : r.toL.filter (fun e => decide (b ≤ e.1)) = r.toL := filter_all fun e he => by have := h4 e he; simp; omega
      have e2 : r.toL.filter (fun e => decide (e.1 < b)) = [] := filter_no fun e he => by have := h4 e he; simp; omega
      have e3 : b ≤ k := by omega
      simp [e1, e2, e3, hk]
theorem cut_len (t : Tr) (b : Int) (h : Srt t.toL) : (t.cut b).1.sz = (t.toL.countP fun e => decide (e.1 < b) : Nat) := by
  rw [sz_toL, (cut_toL t b h).1, List.countP_eq_length_filter]
theorem least_toL : ∀ (t : Tr), t ≠ nil → t.toL = t.least.1 :: t.least.2.toL
  | nil, h => absurd rfl h
  | node nil k v r, _ => by simp [least, toL]
  | node (node a b c d) k v r, _ => by
    have := least_toL (node a b c d) (by simp)
    simp only [least, even_toL]
    rw [toL, this]; simp
theorem without_toL : ∀ (t : Tr) (k : Int), Srt t.toL → (t.without k).toL = t.toL.filter fun e => !decide (e.1 = k)
  | nil, k, _ => by simp [without, toL]
  | node l k' v' r, k, h => by
    obtain ⟨h1, h2, h3, h4⟩ := srt_node.1 h
    simp only [without]
    split
    · rename_i hk
      rw [even_toL, without_toL l k h1]
      simp only [toL, List.filter_append, List.filter_cons]
      have e1 : r.toL.filter (fun e => !decide (e.1 = k)) = r.toL := filter_all fun e he => by have := h4 e he; simp; omega
      have e2 : ¬ k' = k := by omega
      simp [e1, e2]
    · split
      · rename_i hk0 hk
        rw [even_toL, without_toL r k h2]
        simp only [toL, List.filter_append, List.filter_cons]
        have e1 : l.toL.filter (fun e => !decide (e.1 = k)) = l.toL := filter_all fun e he => by have := h3 e he; simp; omega
        have e2 : ¬ k' = k := by omega
        simp [e1, e2]
      · have : k' = k := by omega
        subst this
        have e1 : l.toL.filter (fun e => !decide (e.1 = k')) = l.toL := filter_all fun e he => by have := h3 e he; simp; omega
        have e2 : r.toL.filter (fun e => !decide (e.1 = k')) = r.toL := filter_all fun e he => by have := h4 e he; simp; omega
        cases r with
        | nil =>
          simp only [toL, List.filter_append, List.filter_cons]
          simp [e1]
        | node a b c d =>
          simp only [even_toL]
          have h5 := least_toL (node a b c d) (by simp)
          rw [toL, List.filter_append, List.filter_cons, e1, e2]
          simp only [decide_true, Bool.not_true, Bool.false_eq_true, if_false]
          rw [h5]
end Tr
end Go.Proofs.Ytanimmdlgmkmkaa.Av


/- Networks: rules as the program goes by them. -/
namespace Go.Proofs.Ytanimmdlgmkmkaa.Av
open Go
set_option linter.unusedSimpArgs false
set_option linter.unusedVariables false
set_option maxRecDepth 100000
set_option maxHeartbeats 2000000
set_option pp.maxSteps 300

def deniesB (l : List Ru) (d a : Int) : Bool := l.any (aclP d a) && decide ((minR (l.filter (aclP d a))).kind = 3)
theorem denies_calls (l : List Ru) (f : Bool) (d a : Int) (hl : l.length < 2932031007403) : PCalls Try.prog 109 [rulesAV l f, .raw (.int .i64 d), .raw (.int .u32 a)] (.raw (.bool (deniesB l d a))) := by
  have hf := first_calls (g := 136) (caps := [.pp [.raw (.int .i64 d)] 0, .pp [.raw (.int .u32 a)] 0]) l f hl (fun r _ => aclP_calls r d a)
  obtain ⟨b, hb⟩ : ∃ b, l.any (aclP d a) = b := ⟨_, rfl⟩
  obtain ⟨m, hmm⟩ : ∃ m, minR (l.filter (aclP d a)) = m := ⟨_, rfl⟩
  unfold deniesB
  rw [hb, hmm] at hf ⊢
  refine pbody Try.func109 rfl (N := 21) rfl rfl (by simp) (by simp [noIds]) fun σ => ?_
  repeat (refine awp_seq ?_)
  refine awp_reg ?_
  simp
  refine awp_freeze ⟨4, σ.nx 4, 1⟩ ?_
  refine awp_freeze ⟨5, σ.nx 5, 1⟩ ?_
  generalize hτ : St.del _ _ = τ
  generalize hA : (fun t => giveUp _ _ _) = A
  have a0 : A 0 = rulesAV l f := by rw [← hA]; simp [rulesAV]
  have a4 : A 4 = .pp [.raw (.int .i64 d)] 0 := by rw [← hA, ← hτ]; simp [giveUp, St.new, St.del]
  have a5 : A 5 = .pp [.raw (.int .u32 a)] 0 := by rw [← hA, ← hτ]; simp [giveUp, St.new, St.del]
  have hE : Ext σ τ := by
    rw [← hτ]
    refine ⟨fun i o h => ?_, fun s => ?_⟩
    · rw [del_other (fun e => by rw [e, fresh_none] at h; cases h), del_other (fun e => by rw [e, fresh_none] at h; cases h)]
      exact new_up _ _ (new_up _ _ h)
    · exact Nat.le_trans (St.new_le σ 4 1 (.buf [.raw (.int .i64 d)]) s) (St.new_le (σ.new 4 1 (.buf [.raw (.int .i64 d)])) 5 1 (.buf [.raw (.int .u32 a)]) s)
  clear hτ hA
  (try (first | (with_reducible refine dops_go ?_; simp [a0, a4, a5]) | (with_reducible refine OKv_go ?_; simp [a0, a4, a5]) | (with_reducible refine OKr_go ?_; simp [a0, a4, a5]))); repeat' (first | refine awp_seq ?_ | refine awp_block ?_ | (refine awp_skip ?_; try simp) | (refine awp_exit ?_; try simp) | (refine awp_ret ?_; try simp) | (refine retP_same (by simp) ?_; simp) | (refine retP_flat (by simp) (by simp) (by simp (maxDischargeDepth := 30) [a0, a4, a5]) ?_; simp) | (refine awp_reg ?_; simp [a0, a4, a5]) | (refine awp_drawT (fun _ => false) mixed (by decide +kernel) ?_; simp [a0, a4, a5]) | (refine guarded_split ?_ ?_ <;> (intro hg; simp only [hg]; simp [a0, a4, a5])) | (apply awp_cond_t; focus (simp [a0, a4, a5]; done)) | (apply awp_cond_f; focus (simp [a0, a4, a5]; done)) | (refine awp_cond ?_; simp [a0, a4, a5]; refine ⟨?_, ?_⟩ <;> intro hc))
  refine PCalls.use hf ?_
  (try (first | (with_reducible refine dops_go ?_; simp [a0, a4, a5, ru_cells, ru_ok, hE]) | (with_reducible refine OKv_go ?_; simp [a0, a4, a5, ru_cells, ru_ok, hE]) | (with_reducible refine OKr_go ?_; simp [a0, a4, a5, ru_cells, ru_ok, hE]))); repeat' (first | refine awp_seq ?_ | refine awp_block ?_ | (refine awp_skip ?_; try simp) | (refine awp_exit ?_; try simp) | (refine awp_ret ?_; try simp) | (refine retP_same (by simp) ?_; simp) | (refine retP_flat (by simp) (by simp) (by simp (maxDischargeDepth := 30) [a0, a4, a5, ru_cells, ru_ok, hE]) ?_; simp) | (refine awp_reg ?_; simp [a0, a4, a5, ru_cells, ru_ok, hE]) | (refine awp_drawT (fun _ => false) mixed (by decide +kernel) ?_; simp [a0, a4, a5, ru_cells, ru_ok, hE]) | (refine guarded_split ?_ ?_ <;> (intro hg; simp only [hg]; simp [a0, a4, a5, ru_cells, ru_ok, hE])) | (apply awp_cond_t; focus (simp [a0, a4, a5, ru_cells, ru_ok, hE]; done)) | (apply awp_cond_f; focus (simp [a0, a4, a5, ru_cells, ru_ok, hE]; done)) | (refine awp_cond ?_; simp [a0, a4, a5, ru_cells, ru_ok, hE]; refine ⟨?_, ?_⟩ <;> intro hc))

def matchR (l : List Ru) (d a : Int) : Ru := minR (l.filter (fwdP d a))
def matchB (l : List Ru) (d a : Int) : Bool := l.any (fwdP d a)
theorem match_calls (l : List Ru) (f : Bool) (d a : Int) (hl : l.length < 2932031007403) : PCalls Try.prog 110 [rulesAV l f, .raw (.int .i64 d), .raw (.int .u32 a)] (.tup [ruAV (matchR l d a), .raw (.bool (matchB l d a))]) := by
  have hf := first_calls (g := 138) (caps := [.pp [.raw (.int .i64 d)] 0, .pp [.raw (.int .u32 a)] 0]) l f hl (fun r _ => fwdP_calls r d a)
  unfold matchR matchB
  obtain ⟨b, hb⟩ : ∃ b, l.any (fwdP d a) = b := ⟨_, rfl⟩
  obtain ⟨m, hmm⟩ : ∃ m, minR (l.filter (fwdP d a)) = m := ⟨_, rfl⟩
  rw [hb, hmm] at hf ⊢
  refine pbody Try.func110 rfl (N := 13) rfl rfl (by simp) (by simp [noIds, ruAV]) fun σ => ?_
  repeat (refine awp_seq ?_)
  refine awp_reg ?_
  simp
  refine awp_freeze ⟨4, σ.nx 4, 1⟩ ?_
  refine awp_freeze ⟨5, σ.nx 5, 1⟩ ?_
  generalize hτ : St.del _ _ = τ
  generalize hA : (fun t => giveUp _ _ _) = A
  have a0 : A 0 = rulesAV l f := by rw [← hA]; simp [rulesAV]
  have a4 : A 4 = .pp [.raw (.int .i64 d)] 0 := by rw [← hA, ← hτ]; simp [giveUp, St.new, St.del]
  have a5 : A 5 = .pp [.raw (.int .u32 a)] 0 := by rw [← hA, ← hτ]; simp [giveUp, St.new, St.del]
  have a6 : A 6 = .rp ⟨6, σ.nx 6, 7⟩ 0 0 := by rw [← hA, ← hτ]; simp [giveUp, St.new, St.del]
  have m6 : τ.m ⟨6, σ.nx 6, 7⟩ = some (.buf [ruAV ⟨0, 0, 0, 0, ⟨0, 0⟩, 0⟩]) := by rw [← hτ]; simp [St.new, St.del, ruAV]
  have hE : Ext σ τ := by
    rw [← hτ]
    refine ⟨fun i o h => ?_, fun s => ?_⟩
    · rw [del_other (fun e => by rw [e, fresh_none] at h; cases h), del_other (fun e => by rw [e, fresh_none] at h; cases h)]
      exact new_up _ _ (new_up _ _ (new_up _ _ h))
    · exact Nat.le_trans (Nat.le_trans (St.new_le σ 4 1 (.buf [.raw (.int .i64 d)]) s) (St.new_le (σ.new 4 1 (.buf [.raw (.int .i64 d)])) 5 1 (.buf [.raw (.int .u32 a)]) s)) (St.new_le ((σ.new 4 1 (.buf [.raw (.int .i64 d)])).new 5 1 (.buf [.raw (.int .u32 a)])) 6 7 (.buf [ruAV ⟨0, 0, 0, 0, ⟨0, 0⟩, 0⟩]) s)
  clear hτ hA
  have f6 : σ.m ⟨6, σ.nx 6, 7⟩ = none := fresh_none _ _ _
  (try (first | (with_reducible refine dops_go ?_; simp [a0, a4, a5, a6, m6]) | (with_reducible refine OKv_go ?_; simp [a0, a4, a5, a6, m6]) | (with_reducible refine OKr_go ?_; simp [a0, a4, a5, a6, m6]))); repeat' (first | refine awp_seq ?_ | refine awp_block ?_ | (refine awp_skip ?_; try simp) | (refine awp_exit ?_; try simp) | (refine awp_ret ?_; try simp) | (refine retP_same (by simp) ?_; simp) | (refine retP_flat (by simp) (by simp) (by simp (maxDischargeDepth := 30) [a0, a4, a5, a6, m6]) ?_; simp) | (refine awp_reg ?_; simp [a0, a4, a5, a6, m6]) | (refine awp_drawT (fun _ => false) mixed (by decide +kernel) ?_; simp [a0, a4, a5, a6, m6]) | (refine guarded_split ?_ ?_ <;> (intro hg; simp only [hg]; simp [a0, a4, a5, a6, m6])) | (apply awp_cond_t; focus (simp [a0, a4, a5, a6, m6]; done)) | (apply awp_cond_f; focus (simp [a0, a4, a5, a6, m6]; done)) | (refine awp_cond ?_; simp [a0, a4, a5, a6, m6]; refine ⟨?_, ?_⟩ <;> intro hc))
  refine PCalls.use hf ?_
  (try (first | (with_reducible refine dops_go ?_; simp [a0, a4, a5, a6, m6, ru_cells, ru_part]) | (with_reducible refine OKv_go ?_; simp [a0, a4, a5, a6, m6, ru_cells, ru_part]) | (with_reducible refine OKr_go ?_; simp [a0, a4, a5, a6, m6, ru_cells, ru_part]))); repeat' (first | refine awp_seq ?_ | refine awp_block ?_ | (refine awp_skip ?_; try simp) | (refine awp_exit ?_; try simp) | (refine awp_ret ?_; try simp) | (refine awp_reg ?_; simp [a0, a4, a5, a6, m6, ru_cells, ru_part]) | (refine awp_drawT (fun _ => false) mixed (by decide +kernel) ?_; simp [a0, a4, a5, a6, m6, ru_cells, ru_part]) | (refine guarded_split ?_ ?_ <;> (intro hg; simp only [hg]; simp [a0, a4, a5, a6, m6, ru_cells, ru_part])) | (apply awp_cond_t; focus (simp [a0, a4, a5, a6, m6, ru_cells, ru_part]; done)) | (apply awp_cond_f; focus (simp [a0, a4, a5, a6, m6, ru_cells, ru_part]; done)) | (refine awp_cond ?_; simp [a0, a4, a5, a6, m6, ru_cells, ru_part]; refine ⟨?_, ?_⟩ <;> intro hc))
  exact retP_flat (.inr rfl) rfl (hE.setF f6) (by simp [a6, m6, St.set, ru_cells]; exact ru_fold _)

/-- Rules that are right, in the order of their IDs, as the program says it: from the last ID on. -/
def allFrom (last : Int) : List Ru → Bool
  | [] => true
  | r :: l => ruleB r && decide (last < r.id) && allFrom r.id l
def allB (l : List Ru) : Bool := allFrom 0 l && decide (l.length ≤ 40)
end Go.Proofs.Ytanimmdlgmkmkaa.Av


/- Networks: one step of a packet. -/
namespace Go.Proofs.Ytanimmdlgmkmkaa.Av
open Go
set_option linter.unusedSimpArgs false
set_option linter.unusedVariables false
set_option maxRecDepth 100000
set_option maxHeartbeats 2000000
set_option pp.maxSteps 300

def stepF (n : Nw) (d a : Int) : Int × Pt :=
  if deniesB n.rules d a = true then (2, ⟨0, 0⟩) else if matchB n.rules d a = false then (0, ⟨0, 0⟩) else if (matchR n.rules d a).kind = 1 then (1, ⟨0, 0⟩)
  else if (nextM n.t ⟨d, (matchR n.rules d a).port⟩).isSome = true then (4, ⟨d, (matchR n.rules d a).port⟩) else (3, ⟨d, (matchR n.rules d a).port⟩)
theorem nw_cells (n : Nw) (f : Fl) : (nwAV n f).cells = [intsAV n.t.ports f.p, linksAV n.t.links f.l, rulesAV n.rules f.r] := rfl
theorem new_m {σ : St} {slot sz : Nat} {o : Ob} {j : Id} : (σ.new slot sz o).m j = if j = ⟨slot, σ.nx slot, sz⟩ then some o else σ.m j := rfl
theorem set_m {σ : St} {i j : Id} {o : Ob} : (σ.set i o).m j = if j = i ∧ (σ.m i).isSome = true then some o else σ.m j := rfl
theorem new_nx' {σ : St} {slot sz s : Nat} {o : Ob} : (σ.new slot sz o).nx s = if s = slot then σ.nx s + 1 else σ.nx s := rfl
theorem step_calls (n : Nw) (f : Fl) (d a : Int) (hl : n.t.links.length < 2 ^ 42) (hl2 : n.rules.length < 2932031007403) :
    PCalls Try.prog 70 [nwAV n f, .raw (.int .i64 d), .raw (.int .u32 a)] (.tup [.raw (.int .i64 (stepF n d a).1), ptAV (stepF n d a).2]) := by
  have hd := denies_calls n.rules f.r d a hl2
  have hm := match_calls n.rules f.r d a hl2
  have hn := fun p => next_calls n.t f p hl
  unfold stepF
  obtain ⟨b1, h1⟩ : ∃ b, deniesB n.rules d a = b := ⟨_, rfl⟩
  obtain ⟨b2, h2⟩ : ∃ b, matchB n.rules d a = b := ⟨_, rfl⟩
  obtain ⟨r, hr⟩ : ∃ r, matchR n.rules d a = r := ⟨_, rfl⟩
  rw [h1] at hd
  rw [h2, hr] at hm
  rw [h1, h2, hr]
  clear h1 h2 hr
  have hn := hn ⟨d, r.port⟩
  obtain ⟨b3, h3⟩ : ∃ b, (nextM n.t ⟨d, r.port⟩).isSome = b := ⟨_, rfl⟩
  obtain ⟨q, hq⟩ : ∃ q, (nextM n.t ⟨d, r.port⟩).getD ⟨0, 0⟩ = q := ⟨_, rfl⟩
  rw [h3, hq] at hn
  rw [h3]
  refine pbody Try.func70 rfl (N := 50) rfl rfl (by simp) (by simp [noIds, ptAV]) fun σ => ?_
  have ho1 : cellOK (intsAV n.t.ports f.p) = true := rfl
  have ho2 : cellOK (linksAV n.t.links f.l) = true := rfl
  have ho3 : cellOK (rulesAV n.rules f.r) = true := rfl
  simp only [cellOK] at ho1 ho2 ho3
  have hpf : ∀ x y : Int, AV.agg [.raw (.int .i64 x), .raw (.int .i64 y)] = ptAV ⟨x, y⟩ := fun _ _ => rfl
  have hpc : ∀ q : Pt, (ptAV q).cells = [.raw (.int .i64 q.dev), .raw (.int .i64 q.port)] := fun q => rfl
  have hps : ∀ (q : Pt) (x y : Int), setPart (ptAV q) 0 [.raw (.int .i64 x), .raw (.int .i64 y)] = ptAV ⟨x, y⟩ := fun _ _ _ => rfl
  have f7 : σ.m ⟨7, σ.nx 7, 2⟩ = none := fresh_none _ _ _
  have hnf : AV.agg [intsAV n.t.ports f.p, linksAV n.t.links f.l] = tpAV n.t f := rfl
  (try (first | (with_reducible refine dops_go ?_; simp [nw_cells, ho1, ho2, ho3, hpf, hpc, hps]) | (with_reducible refine OKv_go ?_; simp [nw_cells, ho1, ho2, ho3, hpf, hpc, hps]) | (with_reducible refine OKr_go ?_; simp [nw_cells, ho1, ho2, ho3, hpf, hpc, hps]))); repeat' (first | refine awp_seq ?_ | refine awp_block ?_ | (refine awp_skip ?_; try simp) | (refine awp_exit ?_; try simp) | (refine awp_ret ?_; try simp) | (refine retP_same (by simp) ?_; simp) | (refine retP_flat (by simp) (by simp) (by simp (maxDischargeDepth := 30) [nw_cells, ho1, ho2, ho3, hpf, hpc, hps]) ?_; simp) | (refine awp_reg ?_; simp [nw_cells, ho1, ho2, ho3, hpf, hpc, hps]) | (refine awp_drawT (fun _ => false) mixed (by decide +kernel) ?_; simp [nw_cells, ho1, ho2, ho3, hpf, hpc, hps]) | (refine guarded_split ?_ ?_ <;> (intro hg; simp only [hg]; simp [nw_cells, ho1, ho2, ho3, hpf, hpc, hps])) | (apply awp_cond_t; focus (simp [nw_cells, ho1, ho2, ho3, hpf, hpc, hps]; done)) | (apply awp_cond_f; focus (simp [nw_cells, ho1, ho2, ho3, hpf, hpc, hps]; done)) | (refine awp_cond ?_; simp [nw_cells, ho1, ho2, ho3, hpf, hpc, hps]; refine ⟨?_, ?_⟩ <;> intro hc))
  refine PCalls.use hd ?_
  cases b1 with
  | true =>
    (try (first | (with_reducible refine dops_go ?_; simp [nw_cells, ho1, ho2, ho3, hpf, hpc, hps]) | (with_reducible refine OKv_go ?_; simp [nw_cells, ho1, ho2, ho3, hpf, hpc, hps]) | (with_reducible refine OKr_go ?_; simp [nw_cells, ho1, ho2, ho3, hpf, hpc, hps]))); repeat' (first | refine awp_seq ?_ | refine awp_block ?_ | (refine awp_skip ?_; try simp) | (refine awp_exit ?_; try simp) | (refine awp_ret ?_; try simp) | (refine awp_reg ?_; simp [nw_cells, ho1, ho2, ho3, hpf, hpc, hps]) | (refine awp_drawT (fun _ => false) mixed (by decide +kernel) ?_; simp [nw_cells, ho1, ho2, ho3, hpf, hpc, hps]) | (refine guarded_split ?_ ?_ <;> (intro hg; simp only [hg]; simp [nw_cells, ho1, ho2, ho3, hpf, hpc, hps])) | (apply awp_cond_t; focus (simp [nw_cells, ho1, ho2, ho3, hpf, hpc, hps]; done)) | (apply awp_cond_f; focus (simp [nw_cells, ho1, ho2, ho3, hpf, hpc, hps]; done)) | (refine awp_cond ?_; simp [nw_cells, ho1, ho2, ho3, hpf, hpc, hps]; refine ⟨?_, ?_⟩ <;> intro hc))
    refine retP_flat (.inr rfl) rfl (by repeat (first | exact Ext.refl _ | refine ext_new' ?_ | refine Ext.setF ?_ (by simp [new_nx', St.set, fresh_none]))) ?_
    simp [St.set, St.new, hpc, hpf, hps]
  | false =>
    (try (first | (with_reducible refine dops_go ?_; simp [nw_cells, ho1, ho2, ho3, hpf, hpc, hps]) | (with_reducible refine OKv_go ?_; simp [nw_cells, ho1, ho2, ho3, hpf, hpc, hps]) | (with_reducible refine OKr_go ?_; simp [nw_cells, ho1, ho2, ho3, hpf, hpc, hps]))); repeat' (first | refine awp_seq ?_ | refine awp_block ?_ | (refine awp_skip ?_; try simp) | (refine awp_exit ?_; try simp) | (refine awp_ret ?_; try simp) | (refine retP_same (by simp) ?_; simp) | (refine retP_flat (by simp) (by simp) (by simp (maxDischargeDepth := 30) [nw_cells, ho1, ho2, ho3, hpf, hpc, hps]) ?_; simp) | (refine awp_reg ?_; simp [nw_cells, ho1, ho2, ho3, hpf, hpc, hps]) | (refine awp_drawT (fun _ => false) mixed (by decide +kernel) ?_; simp [nw_cells, ho1, ho2, ho3, hpf, hpc, hps]) | (refine guarded_split ?_ ?_ <;> (intro hg; simp only [hg]; simp [nw_cells, ho1, ho2, ho3, hpf, hpc, hps])) | (apply awp_cond_t; focus (simp [nw_cells, ho1, ho2, ho3, hpf, hpc, hps]; done)) | (apply awp_cond_f; focus (simp [nw_cells, ho1, ho2, ho3, hpf, hpc, hps]; done)) | (refine awp_cond ?_; simp [nw_cells, ho1, ho2, ho3, hpf, hpc, hps]; refine ⟨?_, ?_⟩ <;> intro hc))
    refine PCalls.use hm ?_
    cases b2 with
    | false =>
      (try (first | (with_reducible refine dops_go ?_; simp [nw_cells, ho1, ho2, ho3, hpf, hpc, hps, ru_cells, ru_ok, ru_fold]) | (with_reducible refine OKv_go ?_; simp [nw_cells, ho1, ho2, ho3, hpf, hpc, hps, ru_cells, ru_ok, ru_fold]) | (with_reducible refine OKr_go ?_; simp [nw_cells, ho1, ho2, ho3, hpf, hpc, hps, ru_cells, ru_ok, ru_fold]))); repeat' (first | refine awp_seq ?_ | refine awp_block ?_ | (refine awp_skip ?_; try simp) | (refine awp_exit ?_; try simp) | (refine awp_ret ?_; try simp) | (refine awp_reg ?_; simp [nw_cells, ho1, ho2, ho3, hpf, hpc, hps, ru_cells, ru_ok, ru_fold]) | (refine awp_drawT (fun _ => false) mixed (by decide +kernel) ?_; simp [nw_cells, ho1, ho2, ho3, hpf, hpc, hps, ru_cells, ru_ok, ru_fold]) | (refine guarded_split ?_ ?_ <;> (intro hg; simp only [hg]; simp [nw_cells, ho1, ho2, ho3, hpf, hpc, hps, ru_cells, ru_ok, ru_fold])) | (apply awp_cond_t; focus (simp [nw_cells, ho1, ho2, ho3, hpf, hpc, hps, ru_cells, ru_ok, ru_fold]; done)) | (apply awp_cond_f; focus (simp [nw_cells, ho1, ho2, ho3, hpf, hpc, hps, ru_cells, ru_ok, ru_fold]; done)) | (refine awp_cond ?_; simp [nw_cells, ho1, ho2, ho3, hpf, hpc, hps, ru_cells, ru_ok, ru_fold]; refine ⟨?_, ?_⟩ <;> intro hc))
      refine retP_flat (.inr rfl) rfl (by repeat (first | exact Ext.refl _ | refine ext_new' ?_ | refine Ext.setF ?_ (by simp [new_nx', St.set, fresh_none]))) ?_
      simp [St.set, St.new, hpc, hpf, hps]
    | true =>
      by_cases hk : r.kind = 1
      · (try (first | (with_reducible refine dops_go ?_; simp [nw_cells, ho1, ho2, ho3, hpf, hpc, hps, ru_cells, ru_ok, ru_fold, hk]) | (with_reducible refine OKv_go ?_; simp [nw_cells, ho1, ho2, ho3, hpf, hpc, hps, ru_cells, ru_ok, ru_fold, hk]) | (with_reducible refine OKr_go ?_; simp [nw_cells, ho1, ho2, ho3, hpf, hpc, hps, ru_cells, ru_ok, ru_fold, hk]))); repeat' (first | refine awp_seq ?_ | refine awp_block ?_ | (refine awp_skip ?_; try simp) | (refine awp_exit ?_; try simp) | (refine awp_ret ?_; try simp) | (refine awp_reg ?_; simp [nw_cells, ho1, ho2, ho3, hpf, hpc, hps, ru_cells, ru_ok, ru_fold, hk]) | (refine awp_drawT (fun _ => false) mixed (by decide +kernel) ?_; simp [nw_cells, ho1, ho2, ho3, hpf, hpc, hps, ru_cells, ru_ok, ru_fold, hk]) | (refine guarded_split ?_ ?_ <;> (intro hg; simp only [hg]; simp [nw_cells, ho1, ho2, ho3, hpf, hpc, hps, ru_cells, ru_ok, ru_fold, hk])) | (apply awp_cond_t; focus (simp [nw_cells, ho1, ho2, ho3, hpf, hpc, hps, ru_cells, ru_ok, ru_fold, hk]; done)) | (apply awp_cond_f; focus (simp [nw_cells, ho1, ho2, ho3, hpf, hpc, hps, ru_cells, ru_ok, ru_fold, hk]; done)) | (refine awp_cond ?_; simp [nw_cells, ho1, ho2, ho3, hpf, hpc, hps, ru_cells, ru_ok, ru_fold, hk]; refine ⟨?_, ?_⟩ <;> intro hc))
        refine retP_flat (.inr rfl) rfl (by repeat (first | exact Ext.refl _ | refine ext_new' ?_ | refine Ext.setF ?_ (by simp [new_nx', St.set, fresh_none]))) ?_
        simp [St.set, St.new, hpc, hpf, hps, hk]
      · (try (first | (with_reducible refine dops_go ?_; simp [nw_cells, ho1, ho2, ho3, hpf, hpc, hps, ru_cells, ru_ok, ru_fold, hk, hnf, new_m, set_m, new_nx']) | (with_reducible refine OKv_go ?_; simp [nw_cells, ho1, ho2, ho3, hpf, hpc, hps, ru_cells, ru_ok, ru_fold, hk, hnf, new_m, set_m, new_nx']) | (with_reducible refine OKr_go ?_; simp [nw_cells, ho1, ho2, ho3, hpf, hpc, hps, ru_cells, ru_ok, ru_fold, hk, hnf, new_m, set_m, new_nx']))); repeat' (first | refine awp_seq ?_ | refine awp_block ?_ | (refine awp_skip ?_; try simp) | (refine awp_exit ?_; try simp) | (refine awp_ret ?_; try simp) | (refine retP_same (by simp) ?_; simp) | (refine retP_flat (by simp) (by simp) (by simp (maxDischargeDepth := 30) [nw_cells, ho1, ho2, ho3, hpf, hpc, hps, ru_cells, ru_ok, ru_fold, hk, hnf, new_m, set_m, new_nx']) ?_; simp) | (refine awp_reg ?_; simp [nw_cells, ho1, ho2, ho3, hpf, hpc, hps, ru_cells, ru_ok, ru_fold, hk, hnf, new_m, set_m, new_nx']) | (refine awp_drawT (fun _ => false) mixed (by decide +kernel) ?_; simp [nw_cells, ho1, ho2, ho3, hpf, hpc, hps, ru_cells, ru_ok, ru_fold, hk, hnf, new_m, set_m, new_nx']) | (refine guarded_split ?_ ?_ <;> (intro hg; simp only [hg]; simp [nw_cells, ho1, ho2, ho3, hpf, hpc, hps, ru_cells, ru_ok, ru_fold, hk, hnf, new_m, set_m, new_nx'])) | (apply awp_cond_t; focus (simp [nw_cells, ho1, ho2, ho3, hpf, hpc, hps, ru_cells, ru_ok, ru_fold, hk, hnf, new_m, set_m, new_nx']; done)) | (apply awp_cond_f; focus (simp [nw_cells, ho1, ho2, ho3, hpf, hpc, hps, ru_cells, ru_ok, ru_fold, hk, hnf, new_m, set_m, new_nx']; done)) | (refine awp_cond ?_; simp [nw_cells, ho1, ho2, ho3, hpf, hpc, hps, ru_cells, ru_ok, ru_fold, hk, hnf, new_m, set_m, new_nx']; refine ⟨?_, ?_⟩ <;> intro hc))
        refine PCalls.use hn ?_
        cases b3 with
        | true =>
          (try (first | (with_reducible refine dops_go ?_; simp [nw_cells, ho1, ho2, ho3, hpf, hpc, hps, ru_cells, ru_ok, ru_fold, hk, hnf, new_m, set_m, new_nx']) | (with_reducible refine OKv_go ?_; simp [nw_cells, ho1, ho2, ho3, hpf, hpc, hps, ru_cells, ru_ok, ru_fold, hk, hnf, new_m, set_m, new_nx']) | (with_reducible refine OKr_go ?_; simp [nw_cells, ho1, ho2, ho3, hpf, hpc, hps, ru_cells, ru_ok, ru_fold, hk, hnf, new_m, set_m, new_nx']))); repeat' (first | refine awp_seq ?_ | refine awp_block ?_ | (refine awp_skip ?_; try simp) | (refine awp_exit ?_; try simp) | (refine awp_ret ?_; try simp) | (refine awp_reg ?_; simp [nw_cells, ho1, ho2, ho3, hpf, hpc, hps, ru_cells, ru_ok, ru_fold, hk, hnf, new_m, set_m, new_nx']) | (refine awp_drawT (fun _ => false) mixed (by decide +kernel) ?_; simp [nw_cells, ho1, ho2, ho3, hpf, hpc, hps, ru_cells, ru_ok, ru_fold, hk, hnf, new_m, set_m, new_nx']) | (refine guarded_split ?_ ?_ <;> (intro hg; simp only [hg]; simp [nw_cells, ho1, ho2, ho3, hpf, hpc, hps, ru_cells, ru_ok, ru_fold, hk, hnf, new_m, set_m, new_nx'])) | (apply awp_cond_t; focus (simp [nw_cells, ho1, ho2, ho3, hpf, hpc, hps, ru_cells, ru_ok, ru_fold, hk, hnf, new_m, set_m, new_nx']; done)) | (apply awp_cond_f; focus (simp [nw_cells, ho1, ho2, ho3, hpf, hpc, hps, ru_cells, ru_ok, ru_fold, hk, hnf, new_m, set_m, new_nx']; done)) | (refine awp_cond ?_; simp [nw_cells, ho1, ho2, ho3, hpf, hpc, hps, ru_cells, ru_ok, ru_fold, hk, hnf, new_m, set_m, new_nx']; refine ⟨?_, ?_⟩ <;> intro hc))
          refine retP_flat (.inr rfl) rfl (by repeat (first | exact Ext.refl _ | refine ext_new' ?_ | refine Ext.setF ?_ (by simp [new_nx', St.set, fresh_none]))) ?_
          simp [St.set, St.new, hpc, hpf, hps, hk]
        | false =>
          (try (first | (with_reducible refine dops_go ?_; simp [nw_cells, ho1, ho2, ho3, hpf, hpc, hps, ru_cells, ru_ok, ru_fold, hk, hnf, new_m, set_m, new_nx']) | (with_reducible refine OKv_go ?_; simp [nw_cells, ho1, ho2, ho3, hpf, hpc, hps, ru_cells, ru_ok, ru_fold, hk, hnf, new_m, set_m, new_nx']) | (with_reducible refine OKr_go ?_; simp [nw_cells, ho1, ho2, ho3, hpf, hpc, hps, ru_cells, ru_ok, ru_fold, hk, hnf, new_m, set_m, new_nx']))); repeat' (first | refine awp_seq ?_ | refine awp_block ?_ | (refine awp_skip ?_; try simp) | (refine awp_exit ?_; try simp) | (refine awp_ret ?_; try simp) | (refine awp_reg ?_; simp [nw_cells, ho1, ho2, ho3, hpf, hpc, hps, ru_cells, ru_ok, ru_fold, hk, hnf, new_m, set_m, new_nx']) | (refine awp_drawT (fun _ => false) mixed (by decide +kernel) ?_; simp [nw_cells, ho1, ho2, ho3, hpf, hpc, hps, ru_cells, ru_ok, ru_fold, hk, hnf, new_m, set_m, new_nx']) | (refine guarded_split ?_ ?_ <;> (intro hg; simp only [hg]; simp [nw_cells, ho1, ho2, ho3, hpf, hpc, hps, ru_cells, ru_ok, ru_fold, hk, hnf, new_m, set_m, new_nx'])) | (apply awp_cond_t; focus (simp [nw_cells, ho1, ho2, ho3, hpf, hpc, hps, ru_cells, ru_ok, ru_fold, hk, hnf, new_m, set_m, new_nx']; done)) | (apply awp_cond_f; focus (simp [nw_cells, ho1, ho2, ho3, hpf, hpc, hps, ru_cells, ru_ok, ru_fold, hk, hnf, new_m, set_m, new_nx']; done)) | (refine awp_cond ?_; simp [nw_cells, ho1, ho2, ho3, hpf, hpc, hps, ru_cells, ru_ok, ru_fold, hk, hnf, new_m, set_m, new_nx']; refine ⟨?_, ?_⟩ <;> intro hc))
          refine retP_flat (.inr rfl) rfl (by repeat (first | exact Ext.refl _ | refine ext_new' ?_ | refine Ext.setF ?_ (by simp [new_nx', St.set, fresh_none]))) ?_
          simp [St.set, St.new, hpc, hpf, hps, hk]
end Go.Proofs.Ytanimmdlgmkmkaa.Av


/- Trees: how they lie; heights, sizes, nodes; the turning of a node. -/
namespace Go.Proofs.Ytanimmdlgmkmkaa.Av
open Go
set_option linter.unusedSimpArgs false
set_option linter.unusedVariables false
set_option maxRecDepth 100000
set_option maxHeartbeats 2000000
set_option pp.maxSteps 600

def Tr.av : Tr → AV
  | .nil => .raw (.pointer none)
  | .node l k v r => .pp [.raw (.int .u64 k), .raw (.int .i64 v), l.av, r.av, .raw (.int .i64 (Tr.node l k v r).ht), .raw (.int .i64 (Tr.node l k v r).sz)] 0
def prAV (k v : Int) : AV := .agg [.raw (.int .u64 k), .raw (.int .i64 v)]
@[simp] theorem av_nil : Tr.nil.av = .raw (.pointer none) := rfl
theorem av_node (l : Tr) (k v : Int) (r : Tr) : (Tr.node l k v r).av = .pp [.raw (.int .u64 k), .raw (.int .i64 v), l.av, r.av, .raw (.int .i64 (Tr.node l k v r).ht), .raw (.int .i64 (Tr.node l k v r).sz)] 0 := rfl
@[simp] theorem av_ids (K : Id → Prop) : ∀ t : Tr, t.av.ids K
  | .nil => by simp [Tr.av, AV.ids]
  | .node l k v r => by simp only [Tr.av, AV.ids, idsL, av_ids K l, av_ids K r, and_self]
@[simp] theorem av_cells (t : Tr) : t.av.cells = [t.av] := by cases t <;> rfl
@[simp] theorem av_oneOk (t : Tr) : cellOK t.av = true := by cases t <;> rfl
theorem av_setPart (t : Tr) (off : Nat) (x : AV) : setPart t.av off [x] = x := by cases t <;> rfl

theorem high_calls (t : Tr) : PCalls Try.prog 152 [t.av] (.raw (.int .i64 t.ht)) := by
  refine pbody Try.func152 rfl (N := 9) rfl rfl (by simp) (by simp [noIds]) fun σ => ?_
  cases t with
  | nil => (try ((first | with_reducible refine dops_go ?_ | with_reducible refine OKv_go ?_ | with_reducible refine OKr_go ?_); simp [-cellOK, Tr.ht])); repeat' (first | refine awp_seq ?_ | refine awp_block ?_ | (refine awp_skip ?_; try simp) | (refine awp_exit ?_; try simp) | (refine awp_ret ?_; try simp) | (refine retP_same (by simp) ?_; simp) | (refine retP_no (by simp) (by simp [noIds]) (by repeat (first | assumption | exact Ext.refl _ | refine ext_new' ?_ | refine Ext.setF ?_ (by first | assumption | (simp [new_nx', St.set, fresh_none]; done) | exact ext_fresh (by assumption)))) ?_; simp [-cellOK, Tr.ht, new_m, set_m, new_nx']) | ((first | refine awp_reg ?_ | refine awp_drawT (fun _ => false) mixed (by decide +kernel) ?_ | refine awp_drawT isCallO mixed (by decide +kernel) ?_); simp [-cellOK, Tr.ht]) | (refine guarded_split ?_ ?_ <;> (intro hg; simp only [hg]; simp [-cellOK, Tr.ht])) | (apply awp_cond_t; focus (simp [-cellOK, Tr.ht]; done)) | (apply awp_cond_f; focus (simp [-cellOK, Tr.ht]; done)) | (refine awp_cond ?_; simp [-cellOK, Tr.ht]; refine ⟨?_, ?_⟩ <;> intro hc) | fail)
  | node l k v r =>
    obtain ⟨h, hh⟩ : ∃ h, (Tr.node l k v r).ht = h := ⟨_, rfl⟩
    rw [hh]
    (try ((first | with_reducible refine dops_go ?_ | with_reducible refine OKv_go ?_ | with_reducible refine OKr_go ?_); simp [-cellOK, av_node, hh])); repeat' (first | refine awp_seq ?_ | refine awp_block ?_ | (refine awp_skip ?_; try simp) | (refine awp_exit ?_; try simp) | (refine awp_ret ?_; try simp) | (refine retP_same (by simp) ?_; simp) | (refine retP_no (by simp) (by simp [noIds]) (by repeat (first | assumption | exact Ext.refl _ | refine ext_new' ?_ | refine Ext.setF ?_ (by first | assumption | (simp [new_nx', St.set, fresh_none]; done) | exact ext_fresh (by assumption)))) ?_; simp [-cellOK, av_node, hh, new_m, set_m, new_nx']) | ((first | refine awp_reg ?_ | refine awp_drawT (fun _ => false) mixed (by decide +kernel) ?_ | refine awp_drawT isCallO mixed (by decide +kernel) ?_); simp [-cellOK, av_node, hh]) | (refine guarded_split ?_ ?_ <;> (intro hg; simp only [hg]; simp [-cellOK, av_node, hh])) | (apply awp_cond_t; focus (simp [-cellOK, av_node, hh]; done)) | (apply awp_cond_f; focus (simp [-cellOK, av_node, hh]; done)) | (refine awp_cond ?_; simp [-cellOK, av_node, hh]; refine ⟨?_, ?_⟩ <;> intro hc) | fail)
theorem size_calls (t : Tr) : PCalls Try.prog 127 [t.av] (.raw (.int .i64 t.sz)) := by
  refine pbody Try.func127 rfl (N := 9) rfl rfl (by simp) (by simp [noIds]) fun σ => ?_
  cases t with
  | nil => (try ((first | with_reducible refine dops_go ?_ | with_reducible refine OKv_go ?_ | with_reducible refine OKr_go ?_); simp [-cellOK, Tr.sz])); repeat' (first | refine awp_seq ?_ | refine awp_block ?_ | (refine awp_skip ?_; try simp) | (refine awp_exit ?_; try simp) | (refine awp_ret ?_; try simp) | (refine retP_same (by simp) ?_; simp) | (refine retP_no (by simp) (by simp [noIds]) (by repeat (first | assumption | exact Ext.refl _ | refine ext_new' ?_ | refine Ext.setF ?_ (by first | assumption | (simp [new_nx', St.set, fresh_none]; done) | exact ext_fresh (by assumption)))) ?_; simp [-cellOK, Tr.sz, new_m, set_m, new_nx']) | ((first | refine awp_reg ?_ | refine awp_drawT (fun _ => false) mixed (by decide +kernel) ?_ | refine awp_drawT isCallO mixed (by decide +kernel) ?_); simp [-cellOK, Tr.sz]) | (refine guarded_split ?_ ?_ <;> (intro hg; simp only [hg]; simp [-cellOK, Tr.sz])) | (apply awp_cond_t; focus (simp [-cellOK, Tr.sz]; done)) | (apply awp_cond_f; focus (simp [-cellOK, Tr.sz]; done)) | (refine awp_cond ?_; simp [-cellOK, Tr.sz]; refine ⟨?_, ?_⟩ <;> intro hc) | fail)
  | node l k v r =>
    obtain ⟨h, hh⟩ : ∃ h, (Tr.node l k v r).sz = h := ⟨_, rfl⟩
    rw [hh]
    (try ((first | with_reducible refine dops_go ?_ | with_reducible refine OKv_go ?_ | with_reducible refine OKr_go ?_); simp [-cellOK, av_node, hh])); repeat' (first | refine awp_seq ?_ | refine awp_block ?_ | (refine awp_skip ?_; try simp) | (refine awp_exit ?_; try simp) | (refine awp_ret ?_; try simp) | (refine retP_same (by simp) ?_; simp) | (refine retP_no (by simp) (by simp [noIds]) (by repeat (first | assumption | exact Ext.refl _ | refine ext_new' ?_ | refine Ext.setF ?_ (by first | assumption | (simp [new_nx', St.set, fresh_none]; done) | exact ext_fresh (by assumption)))) ?_; simp [-cellOK, av_node, hh, new_m, set_m, new_nx']) | ((first | refine awp_reg ?_ | refine awp_drawT (fun _ => false) mixed (by decide +kernel) ?_ | refine awp_drawT isCallO mixed (by decide +kernel) ?_); simp [-cellOK, av_node, hh]) | (refine guarded_split ?_ ?_ <;> (intro hg; simp only [hg]; simp [-cellOK, av_node, hh])) | (apply awp_cond_t; focus (simp [-cellOK, av_node, hh]; done)) | (apply awp_cond_f; focus (simp [-cellOK, av_node, hh]; done)) | (refine awp_cond ?_; simp [-cellOK, av_node, hh]; refine ⟨?_, ?_⟩ <;> intro hc) | fail)
@[simp] theorem pr_cells (k v : Int) : (prAV k v).cells = [.raw (.int .u64 k), .raw (.int .i64 v)] := rfl
@[simp] theorem pr_ids (K : Id → Prop) (k v : Int) : (prAV k v).ids K := by simp [prAV]
theorem idsL_map {α : Type} {K : Id → Prop} {f : α → AV} (h : ∀ x, (f x).ids K) : ∀ l : List α, idsL K (l.map f)
  | [] => by simp
  | a :: l => by simp only [List.map_cons, idsL]; exact ⟨h a, idsL_map h l⟩
@[simp] theorem i_ids (K : Id → Prop) (n : Int) : (iAV n).ids K := by simp [iAV]
@[simp] theorem lk_ids (K : Id → Prop) (p : Lk) : (lkAV p).ids K := by simp [lkAV]
@[simp] theorem rg_ids (K : Id → Prop) (p : Rg) : (rgAV p).ids K := by simp [rgAV]
@[simp] theorem ru_ids (K : Id → Prop) (p : Ru) : (ruAV p).ids K := by simp [ruAV]
@[simp] theorem ints_ids (K : Id → Prop) (l : List Int) (f : Bool) : (intsAV l f).ids K := by simp only [intsAV, AV.ids]; exact idsL_map (i_ids K) l
@[simp] theorem links_ids (K : Id → Prop) (l : List Lk) (f : Bool) : (linksAV l f).ids K := by simp only [linksAV, AV.ids]; exact idsL_map (lk_ids K) l
@[simp] theorem rules_ids (K : Id → Prop) (l : List Ru) (f : Bool) : (rulesAV l f).ids K := by simp only [rulesAV, AV.ids]; exact idsL_map (ru_ids K) l
@[simp] theorem nw_ids (K : Id → Prop) (n : Nw) (f : Fl) : (nwAV n f).ids K := by simp [nwAV]
@[simp] theorem ints_ok (l : List Int) (f : Bool) : cellOK (intsAV l f) = true := rfl
@[simp] theorem links_ok (l : List Lk) (f : Bool) : cellOK (linksAV l f) = true := rfl
@[simp] theorem rules_ok (l : List Ru) (f : Bool) : cellOK (rulesAV l f) = true := rfl
theorem pr_fold (k v : Int) : AV.agg [.raw (.int .u64 k), .raw (.int .i64 v)] = prAV k v := rfl
theorem pr_put (k v : Int) : Av.setPart (prAV 0 0) 0 [.raw (.int .u64 k), .raw (.int .i64 v)] = prAV k v := rfl

theorem made_calls (l : Tr) (k v : Int) (r : Tr) (h : l.sz + r.sz < 2 ^ 60) : PCalls Try.prog 143 [l.av, prAV k v, r.av] (Tr.node l k v r).av := by
  have z1 := l.ht_nn
  have z2 := r.ht_nn
  have z3 := l.sz_nn
  have z4 := r.sz_nn
  have z5 := l.ht_le
  have z6 := r.ht_le
  have e1 : IntKind.i64.wrap (1 + (if l.ht < r.ht then r.ht else l.ht)) = (Tr.node l k v r).ht := by
    rw [wrap64 (by split <;> omega) (by split <;> omega)]; simp only [Tr.ht]; split <;> omega
  have e2 : IntKind.i64.wrap (1 + l.sz) = 1 + l.sz := wrap64 (by omega) (by omega)
  have e3 : IntKind.i64.wrap (1 + l.sz + r.sz) = (Tr.node l k v r).sz := by
    rw [wrap64 (by omega) (by omega)]; rfl
  obtain ⟨H, hH⟩ : ∃ h, (Tr.node l k v r).ht = h := ⟨_, rfl⟩
  obtain ⟨Z, hZ⟩ : ∃ h, (Tr.node l k v r).sz = h := ⟨_, rfl⟩
  have hh1 := high_calls l
  have hh2 := high_calls r
  have hs1 := size_calls l
  have hs2 := size_calls r
  rw [av_node, hH, hZ]
  rw [hH] at e1
  rw [hZ] at e3
  refine pbody Try.func143 rfl (N := 24) rfl rfl (by simp) (by simp [noIds]) fun σ => ?_
  (try ((first | with_reducible refine dops_go ?_ | with_reducible refine OKv_go ?_ | with_reducible refine OKr_go ?_); simp [-cellOK, pr_cells, pr_fold, av_setPart, e1, e2, e3])); repeat' (first | refine awp_seq ?_ | refine awp_block ?_ | (refine awp_skip ?_; try simp) | (refine awp_exit ?_; try simp) | (refine awp_ret ?_; try simp) | ((first | refine awp_reg ?_ | refine awp_drawT (fun _ => false) mixed (by decide +kernel) ?_ | refine awp_drawT isCallO mixed (by decide +kernel) ?_ | refine PCalls.use (hh1) ?_ | refine Or.inl ⟨_, Or.inl (hh1), ?_⟩ | refine PCalls.use (hh2) ?_ | refine Or.inl ⟨_, Or.inl (hh2), ?_⟩ | refine PCalls.use (hs1) ?_ | refine Or.inl ⟨_, Or.inl (hs1), ?_⟩ | refine PCalls.use (hs2) ?_ | refine Or.inl ⟨_, Or.inl (hs2), ?_⟩); simp [-cellOK, pr_cells, pr_fold, av_setPart, e1, e2, e3]) | (refine guarded_split ?_ ?_ <;> (intro hg; simp only [hg]; simp [-cellOK, pr_cells, pr_fold, av_setPart, e1, e2, e3])) | (apply awp_cond_t; focus (simp [-cellOK, pr_cells, pr_fold, av_setPart, e1, e2, e3]; done)) | (apply awp_cond_f; focus (simp [-cellOK, pr_cells, pr_fold, av_setPart, e1, e2, e3]; done)) | (refine awp_cond ?_; simp [-cellOK, pr_cells, pr_fold, av_setPart, e1, e2, e3]; refine ⟨?_, ?_⟩ <;> intro hc) | fail)
  refine retP_give (x := .rp ⟨23, σ.nx 23, 6⟩ 0 0) (.inr rfl) (by repeat (first | assumption | exact Ext.refl _ | refine ext_new' ?_ | refine Ext.setF ?_ (by first | assumption | (simp [new_nx', St.set, fresh_none]; done) | exact ext_fresh (by assumption)))) ?_ ?_
  · simp [new_nx']
  · simp [giveUps, giveUp, fresh_none, new_m, new_nx']
end Go.Proofs.Ytanimmdlgmkmkaa.Av

