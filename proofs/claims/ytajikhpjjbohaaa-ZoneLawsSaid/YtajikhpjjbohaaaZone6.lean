/- The five given statements on zones (ZoneOf, ZoneTells, ZoneBoth, ZoneHas, ZoneLaws) are proved: for every input that the row speaks of, the law returns true and its arguments read as before. No condition is added. Part 6 of 11: AvTy, AvZ1, AvZ2, AvZ4, AvZ5, AvZ6, AvZ3, AvP3. -/
import Derived.Test.YtajikhpjjbohaaaZone5
import Derived.Test.YtajikhpjjbohaaaProg

/- The facts on this program's types and functions that the abstract layer asks for. -/
namespace Go.Proofs.Ytajikhpjjbohaaa.Av
open Go

@[simp] theorem tsz1 : tsz Try.prog 1 = some 1 := by kernel_rfl
@[simp] theorem tby1 : tbytes Try.prog 1 = some 8 := by kernel_rfl
@[simp] theorem tze1 : tzero Try.prog 1 = some .nilFunc := by kernel_rfl
@[simp] theorem tag1 : tagg Try.prog 1 = some false := by simp [tagg, Try.underlying1]
@[simp] theorem tsz2 : tsz Try.prog 2 = some 1 := by kernel_rfl
@[simp] theorem tby2 : tbytes Try.prog 2 = some 8 := by kernel_rfl
@[simp] theorem tze2 : tzero Try.prog 2 = some (.int .i64 (0)) := by kernel_rfl
@[simp] theorem tag2 : tagg Try.prog 2 = some false := by simp [tagg, Try.underlying2]
@[simp] theorem uin2 : uint Try.prog 2 = some .i64 := by kernel_rfl
@[simp] theorem tsz3 : tsz Try.prog 3 = some 1 := by kernel_rfl
@[simp] theorem tby3 : tbytes Try.prog 3 = some 8 := by kernel_rfl
@[simp] theorem tze3 : tzero Try.prog 3 = some (.int .i64 (0)) := by kernel_rfl
@[simp] theorem tag3 : tagg Try.prog 3 = some false := by simp [tagg, Try.underlying3]
@[simp] theorem uin3 : uint Try.prog 3 = some .i64 := by kernel_rfl
@[simp] theorem tsz4 : tsz Try.prog 4 = some 1 := by kernel_rfl
@[simp] theorem tby4 : tbytes Try.prog 4 = some 1 := by kernel_rfl
@[simp] theorem tze4 : tzero Try.prog 4 = some (.bool false) := by kernel_rfl
@[simp] theorem tag4 : tagg Try.prog 4 = some false := by simp [tagg, Try.underlying4]
@[simp] theorem ubo4 : ubool Try.prog 4 = true := by kernel_rfl
@[simp] theorem tsz5 : tsz Try.prog 5 = some 1 := by kernel_rfl
@[simp] theorem tby5 : tbytes Try.prog 5 = some 1 := by kernel_rfl
@[simp] theorem tze5 : tzero Try.prog 5 = some (.int .u8 (0)) := by kernel_rfl
@[simp] theorem tag5 : tagg Try.prog 5 = some false := by simp [tagg, Try.underlying5]
@[simp] theorem uin5 : uint Try.prog 5 = some .u8 := by kernel_rfl
@[simp] theorem tsz6 : tsz Try.prog 6 = some 1 := by kernel_rfl
@[simp] theorem tby6 : tbytes Try.prog 6 = some 1 := by kernel_rfl
@[simp] theorem tze6 : tzero Try.prog 6 = some (.int .u8 (0)) := by kernel_rfl
@[simp] theorem tag6 : tagg Try.prog 6 = some false := by simp [tagg, Try.underlying6]
@[simp] theorem uin6 : uint Try.prog 6 = some .u8 := by kernel_rfl
@[simp] theorem tsz7 : tsz Try.prog 7 = some 4 := by kernel_rfl
@[simp] theorem tby7 : tbytes Try.prog 7 = some 24 := by kernel_rfl
@[simp] theorem tze7 : tzero Try.prog 7 = some (.agg #[(.int .i64 (0)), (.int .i64 (0)), (.bool false), (.int .u8 (0))]) := by kernel_rfl
@[simp] theorem tag7 : tagg Try.prog 7 = some true := by simp [tagg, Try.underlying7]
@[simp] theorem fsz7 : fieldsSized Try.prog 7 = true := by kernel_rfl
@[simp] theorem fld7_0 : fieldOf Try.prog 7 0 = some (2, 0) := by kernel_rfl
@[simp] theorem fld7_1 : fieldOf Try.prog 7 1 = some (3, 1) := by kernel_rfl
@[simp] theorem fld7_2 : fieldOf Try.prog 7 2 = some (4, 2) := by kernel_rfl
@[simp] theorem fld7_3 : fieldOf Try.prog 7 3 = some (6, 3) := by kernel_rfl
@[simp] theorem eqg7 : Try.prog.eqGuardType Try.prog.depth 7 = false := by kernel_rfl
@[simp] theorem tsz8 : tsz Try.prog 8 = some 4 := by kernel_rfl
@[simp] theorem tby8 : tbytes Try.prog 8 = some 24 := by kernel_rfl
@[simp] theorem tze8 : tzero Try.prog 8 = some (.agg #[(.int .i64 (0)), (.int .i64 (0)), (.bool false), (.int .u8 (0))]) := by kernel_rfl
@[simp] theorem tag8 : tagg Try.prog 8 = some true := by simp [tagg, Try.underlying8]
@[simp] theorem fsz8 : fieldsSized Try.prog 8 = true := by kernel_rfl
@[simp] theorem fld8_0 : fieldOf Try.prog 8 0 = some (2, 0) := by kernel_rfl
@[simp] theorem fld8_1 : fieldOf Try.prog 8 1 = some (3, 1) := by kernel_rfl
@[simp] theorem fld8_2 : fieldOf Try.prog 8 2 = some (4, 2) := by kernel_rfl
@[simp] theorem fld8_3 : fieldOf Try.prog 8 3 = some (6, 3) := by kernel_rfl
@[simp] theorem eqg8 : Try.prog.eqGuardType Try.prog.depth 8 = false := by kernel_rfl
@[simp] theorem tsz9 : tsz Try.prog 9 = some 1 := by kernel_rfl
@[simp] theorem tby9 : tbytes Try.prog 9 = some 16 := by kernel_rfl
@[simp] theorem tze9 : tzero Try.prog 9 = some (.string ⟨#[]⟩) := by kernel_rfl
@[simp] theorem tag9 : tagg Try.prog 9 = some false := by simp [tagg, Try.underlying9]
@[simp] theorem ust9 : ustr Try.prog 9 = true := by kernel_rfl
@[simp] theorem tsz10 : tsz Try.prog 10 = some 1 := by kernel_rfl
@[simp] theorem tby10 : tbytes Try.prog 10 = some 16 := by kernel_rfl
@[simp] theorem tze10 : tzero Try.prog 10 = some (.string ⟨#[]⟩) := by kernel_rfl
@[simp] theorem tag10 : tagg Try.prog 10 = some false := by simp [tagg, Try.underlying10]
@[simp] theorem ust10 : ustr Try.prog 10 = true := by kernel_rfl
@[simp] theorem tsz11 : tsz Try.prog 11 = some 1 := by kernel_rfl
@[simp] theorem tby11 : tbytes Try.prog 11 = some 16 := by kernel_rfl
@[simp] theorem tze11 : tzero Try.prog 11 = some (.string ⟨#[]⟩) := by kernel_rfl
@[simp] theorem tag11 : tagg Try.prog 11 = some false := by simp [tagg, Try.underlying11]
@[simp] theorem ust11 : ustr Try.prog 11 = true := by kernel_rfl
@[simp] theorem tsz12 : tsz Try.prog 12 = some 1 := by kernel_rfl
@[simp] theorem tby12 : tbytes Try.prog 12 = some 8 := by kernel_rfl
@[simp] theorem tze12 : tzero Try.prog 12 = some (.int .u64 (0)) := by kernel_rfl
@[simp] theorem tag12 : tagg Try.prog 12 = some false := by simp [tagg, Try.underlying12]
@[simp] theorem uin12 : uint Try.prog 12 = some .u64 := by kernel_rfl
@[simp] theorem tsz13 : tsz Try.prog 13 = some 2 := by kernel_rfl
@[simp] theorem tby13 : tbytes Try.prog 13 = some 24 := by kernel_rfl
@[simp] theorem tze13 : tzero Try.prog 13 = some (.agg #[(.string ⟨#[]⟩), (.int .u64 (0))]) := by kernel_rfl
@[simp] theorem tag13 : tagg Try.prog 13 = some true := by simp [tagg, Try.underlying13]
@[simp] theorem fsz13 : fieldsSized Try.prog 13 = true := by kernel_rfl
@[simp] theorem fld13_0 : fieldOf Try.prog 13 0 = some (9, 0) := by kernel_rfl
@[simp] theorem fld13_1 : fieldOf Try.prog 13 1 = some (12, 1) := by kernel_rfl
@[simp] theorem eqg13 : Try.prog.eqGuardType Try.prog.depth 13 = false := by kernel_rfl
@[simp] theorem tsz14 : tsz Try.prog 14 = some 2 := by kernel_rfl
@[simp] theorem tby14 : tbytes Try.prog 14 = some 24 := by kernel_rfl
@[simp] theorem tze14 : tzero Try.prog 14 = some (.agg #[(.string ⟨#[]⟩), (.int .u64 (0))]) := by kernel_rfl
@[simp] theorem tag14 : tagg Try.prog 14 = some true := by simp [tagg, Try.underlying14]
@[simp] theorem fsz14 : fieldsSized Try.prog 14 = true := by kernel_rfl
@[simp] theorem fld14_0 : fieldOf Try.prog 14 0 = some (9, 0) := by kernel_rfl
@[simp] theorem fld14_1 : fieldOf Try.prog 14 1 = some (12, 1) := by kernel_rfl
@[simp] theorem eqg14 : Try.prog.eqGuardType Try.prog.depth 14 = false := by kernel_rfl
@[simp] theorem tsz15 : tsz Try.prog 15 = some 1 := by kernel_rfl
@[simp] theorem tby15 : tbytes Try.prog 15 = some 8 := by kernel_rfl
@[simp] theorem tze15 : tzero Try.prog 15 = some (.pointer none) := by kernel_rfl
@[simp] theorem tag15 : tagg Try.prog 15 = some false := by simp [tagg, Try.underlying15]
@[simp] theorem upt15 : uptr Try.prog 15 = true := by kernel_rfl
@[simp] theorem tsz16 : tsz Try.prog 16 = some 1 := by kernel_rfl
@[simp] theorem tby16 : tbytes Try.prog 16 = some 8 := by kernel_rfl
@[simp] theorem tze16 : tzero Try.prog 16 = some (.pointer none) := by kernel_rfl
@[simp] theorem tag16 : tagg Try.prog 16 = some false := by simp [tagg, Try.underlying16]
@[simp] theorem upt16 : uptr Try.prog 16 = true := by kernel_rfl
@[simp] theorem tsz17 : tsz Try.prog 17 = some 1 := by kernel_rfl
@[simp] theorem tby17 : tbytes Try.prog 17 = some 8 := by kernel_rfl
@[simp] theorem tze17 : tzero Try.prog 17 = some (.pointer none) := by kernel_rfl
@[simp] theorem tag17 : tagg Try.prog 17 = some false := by simp [tagg, Try.underlying17]
@[simp] theorem upt17 : uptr Try.prog 17 = true := by kernel_rfl
@[simp] theorem tsz18 : tsz Try.prog 18 = some 1 := by kernel_rfl
@[simp] theorem tby18 : tbytes Try.prog 18 = some 8 := by kernel_rfl
@[simp] theorem tze18 : tzero Try.prog 18 = some (.agg #[(.pointer none)]) := by kernel_rfl
@[simp] theorem tag18 : tagg Try.prog 18 = some true := by simp [tagg, Try.underlying18]
@[simp] theorem fsz18 : fieldsSized Try.prog 18 = true := by kernel_rfl
@[simp] theorem fld18_0 : fieldOf Try.prog 18 0 = some (17, 0) := by kernel_rfl
@[simp] theorem eqg18 : Try.prog.eqGuardType Try.prog.depth 18 = false := by kernel_rfl
@[simp] theorem tsz19 : tsz Try.prog 19 = some 1 := by kernel_rfl
@[simp] theorem tby19 : tbytes Try.prog 19 = some 8 := by kernel_rfl
@[simp] theorem tze19 : tzero Try.prog 19 = some (.agg #[(.pointer none)]) := by kernel_rfl
@[simp] theorem tag19 : tagg Try.prog 19 = some true := by simp [tagg, Try.underlying19]
@[simp] theorem fsz19 : fieldsSized Try.prog 19 = true := by kernel_rfl
@[simp] theorem fld19_0 : fieldOf Try.prog 19 0 = some (17, 0) := by kernel_rfl
@[simp] theorem eqg19 : Try.prog.eqGuardType Try.prog.depth 19 = false := by kernel_rfl
@[simp] theorem tsz20 : tsz Try.prog 20 = some 1 := by kernel_rfl
@[simp] theorem tby20 : tbytes Try.prog 20 = some 16 := by kernel_rfl
@[simp] theorem tze20 : tzero Try.prog 20 = some .nilIface := by kernel_rfl
@[simp] theorem tag20 : tagg Try.prog 20 = some false := by simp [tagg, Try.underlying20]
@[simp] theorem uif20 : uiface Try.prog 20 = true := by kernel_rfl
@[simp] theorem tsz21 : tsz Try.prog 21 = some 1 := by kernel_rfl
@[simp] theorem tby21 : tbytes Try.prog 21 = some 4 := by kernel_rfl
@[simp] theorem tze21 : tzero Try.prog 21 = some (.int .i32 (0)) := by kernel_rfl
@[simp] theorem tag21 : tagg Try.prog 21 = some false := by simp [tagg, Try.underlying21]
@[simp] theorem uin21 : uint Try.prog 21 = some .i32 := by kernel_rfl
@[simp] theorem tsz22 : tsz Try.prog 22 = some 1 := by kernel_rfl
@[simp] theorem tby22 : tbytes Try.prog 22 = some 24 := by kernel_rfl
@[simp] theorem tze22 : tzero Try.prog 22 = some (.slice none 0 0) := by kernel_rfl
@[simp] theorem tag22 : tagg Try.prog 22 = some false := by simp [tagg, Try.underlying22]
@[simp] theorem elm22 : elemOf Try.prog 22 = some 33 := by kernel_rfl
@[simp] theorem tsz23 : tsz Try.prog 23 = some 1 := by kernel_rfl
@[simp] theorem tby23 : tbytes Try.prog 23 = some 8 := by kernel_rfl
@[simp] theorem tze23 : tzero Try.prog 23 = some .nilFunc := by kernel_rfl
@[simp] theorem tag23 : tagg Try.prog 23 = some false := by simp [tagg, Try.underlying23]
@[simp] theorem tsz24 : tsz Try.prog 24 = some 1 := by kernel_rfl
@[simp] theorem tby24 : tbytes Try.prog 24 = some 8 := by kernel_rfl
@[simp] theorem tze24 : tzero Try.prog 24 = some (.int .i64 (0)) := by kernel_rfl
@[simp] theorem tag24 : tagg Try.prog 24 = some false := by simp [tagg, Try.underlying24]
@[simp] theorem uin24 : uint Try.prog 24 = some .i64 := by kernel_rfl
@[simp] theorem tsz26 : tsz Try.prog 26 = some 1 := by kernel_rfl
@[simp] theorem tby26 : tbytes Try.prog 26 = some 8 := by kernel_rfl
@[simp] theorem tze26 : tzero Try.prog 26 = some .nilFunc := by kernel_rfl
@[simp] theorem tag26 : tagg Try.prog 26 = some false := by simp [tagg, Try.underlying26]
@[simp] theorem tsz27 : tsz Try.prog 27 = some 1 := by kernel_rfl
@[simp] theorem tby27 : tbytes Try.prog 27 = some 8 := by kernel_rfl
@[simp] theorem tze27 : tzero Try.prog 27 = some .nilFunc := by kernel_rfl
@[simp] theorem tag27 : tagg Try.prog 27 = some false := by simp [tagg, Try.underlying27]
@[simp] theorem tsz28 : tsz Try.prog 28 = some 1 := by kernel_rfl
@[simp] theorem tby28 : tbytes Try.prog 28 = some 8 := by kernel_rfl
@[simp] theorem tze28 : tzero Try.prog 28 = some .nilFunc := by kernel_rfl
@[simp] theorem tag28 : tagg Try.prog 28 = some false := by simp [tagg, Try.underlying28]
@[simp] theorem tsz29 : tsz Try.prog 29 = some 1 := by kernel_rfl
@[simp] theorem tby29 : tbytes Try.prog 29 = some 4 := by kernel_rfl
@[simp] theorem tze29 : tzero Try.prog 29 = some (.int .u32 (0)) := by kernel_rfl
@[simp] theorem tag29 : tagg Try.prog 29 = some false := by simp [tagg, Try.underlying29]
@[simp] theorem uin29 : uint Try.prog 29 = some .u32 := by kernel_rfl
@[simp] theorem tsz31 : tsz Try.prog 31 = some 1 := by kernel_rfl
@[simp] theorem tby31 : tbytes Try.prog 31 = some 8 := by kernel_rfl
@[simp] theorem tze31 : tzero Try.prog 31 = some .nilFunc := by kernel_rfl
@[simp] theorem tag31 : tagg Try.prog 31 = some false := by simp [tagg, Try.underlying31]
@[simp] theorem tsz32 : tsz Try.prog 32 = some 2 := by kernel_rfl
@[simp] theorem tby32 : tbytes Try.prog 32 = some 8 := by kernel_rfl
@[simp] theorem tze32 : tzero Try.prog 32 = some (.agg #[(.int .u32 (0)), (.int .u32 (0))]) := by kernel_rfl
@[simp] theorem tag32 : tagg Try.prog 32 = some true := by simp [tagg, Try.underlying32]
@[simp] theorem fsz32 : fieldsSized Try.prog 32 = true := by kernel_rfl
@[simp] theorem fld32_0 : fieldOf Try.prog 32 0 = some (29, 0) := by kernel_rfl
@[simp] theorem fld32_1 : fieldOf Try.prog 32 1 = some (29, 1) := by kernel_rfl
@[simp] theorem fli32 : fieldList Try.prog 32 = some [(29, 0), (29, 1)] := by kernel_rfl
@[simp] theorem eqg32 : Try.prog.eqGuardType Try.prog.depth 32 = false := by kernel_rfl
@[simp] theorem tsz33 : tsz Try.prog 33 = some 2 := by kernel_rfl
@[simp] theorem tby33 : tbytes Try.prog 33 = some 8 := by kernel_rfl
@[simp] theorem tze33 : tzero Try.prog 33 = some (.agg #[(.int .u32 (0)), (.int .u32 (0))]) := by kernel_rfl
@[simp] theorem tag33 : tagg Try.prog 33 = some true := by simp [tagg, Try.underlying33]
@[simp] theorem fsz33 : fieldsSized Try.prog 33 = true := by kernel_rfl
@[simp] theorem fld33_0 : fieldOf Try.prog 33 0 = some (29, 0) := by kernel_rfl
@[simp] theorem fld33_1 : fieldOf Try.prog 33 1 = some (29, 1) := by kernel_rfl
@[simp] theorem fli33 : fieldList Try.prog 33 = some [(29, 0), (29, 1)] := by kernel_rfl
@[simp] theorem eqg33 : Try.prog.eqGuardType Try.prog.depth 33 = false := by kernel_rfl
@[simp] theorem tsz34 : tsz Try.prog 34 = some 1 := by kernel_rfl
@[simp] theorem tby34 : tbytes Try.prog 34 = some 8 := by kernel_rfl
@[simp] theorem tze34 : tzero Try.prog 34 = some .nilFunc := by kernel_rfl
@[simp] theorem tag34 : tagg Try.prog 34 = some false := by simp [tagg, Try.underlying34]
@[simp] theorem tsz35 : tsz Try.prog 35 = some 1 := by kernel_rfl
@[simp] theorem tby35 : tbytes Try.prog 35 = some 8 := by kernel_rfl
@[simp] theorem tze35 : tzero Try.prog 35 = some (.int .u64 (0)) := by kernel_rfl
@[simp] theorem tag35 : tagg Try.prog 35 = some false := by simp [tagg, Try.underlying35]
@[simp] theorem uin35 : uint Try.prog 35 = some .u64 := by kernel_rfl
@[simp] theorem tsz36 : tsz Try.prog 36 = some 1 := by kernel_rfl
@[simp] theorem tby36 : tbytes Try.prog 36 = some 8 := by kernel_rfl
@[simp] theorem tze36 : tzero Try.prog 36 = some .nilFunc := by kernel_rfl
@[simp] theorem tag36 : tagg Try.prog 36 = some false := by simp [tagg, Try.underlying36]
@[simp] theorem tsz37 : tsz Try.prog 37 = some 1 := by kernel_rfl
@[simp] theorem tby37 : tbytes Try.prog 37 = some 8 := by kernel_rfl
@[simp] theorem tze37 : tzero Try.prog 37 = some .nilFunc := by kernel_rfl
@[simp] theorem tag37 : tagg Try.prog 37 = some false := by simp [tagg, Try.underlying37]
@[simp] theorem tsz38 : tsz Try.prog 38 = some 1 := by kernel_rfl
@[simp] theorem tby38 : tbytes Try.prog 38 = some 8 := by kernel_rfl
@[simp] theorem tze38 : tzero Try.prog 38 = some .nilFunc := by kernel_rfl
@[simp] theorem tag38 : tagg Try.prog 38 = some false := by simp [tagg, Try.underlying38]
@[simp] theorem tsz39 : tsz Try.prog 39 = some 1 := by kernel_rfl
@[simp] theorem tby39 : tbytes Try.prog 39 = some 8 := by kernel_rfl
@[simp] theorem tze39 : tzero Try.prog 39 = some .nilFunc := by kernel_rfl
@[simp] theorem tag39 : tagg Try.prog 39 = some false := by simp [tagg, Try.underlying39]
@[simp] theorem tsz40 : tsz Try.prog 40 = some 1 := by kernel_rfl
@[simp] theorem tby40 : tbytes Try.prog 40 = some 8 := by kernel_rfl
@[simp] theorem tze40 : tzero Try.prog 40 = some .nilFunc := by kernel_rfl
@[simp] theorem tag40 : tagg Try.prog 40 = some false := by simp [tagg, Try.underlying40]
@[simp] theorem tsz41 : tsz Try.prog 41 = some 1 := by kernel_rfl
@[simp] theorem tby41 : tbytes Try.prog 41 = some 8 := by kernel_rfl
@[simp] theorem tze41 : tzero Try.prog 41 = some .nilFunc := by kernel_rfl
@[simp] theorem tag41 : tagg Try.prog 41 = some false := by simp [tagg, Try.underlying41]
@[simp] theorem tsz42 : tsz Try.prog 42 = some 1 := by kernel_rfl
@[simp] theorem tby42 : tbytes Try.prog 42 = some 8 := by kernel_rfl
@[simp] theorem tze42 : tzero Try.prog 42 = some .nilFunc := by kernel_rfl
@[simp] theorem tag42 : tagg Try.prog 42 = some false := by simp [tagg, Try.underlying42]
@[simp] theorem tsz43 : tsz Try.prog 43 = some 1 := by kernel_rfl
@[simp] theorem tby43 : tbytes Try.prog 43 = some 8 := by kernel_rfl
@[simp] theorem tze43 : tzero Try.prog 43 = some .nilFunc := by kernel_rfl
@[simp] theorem tag43 : tagg Try.prog 43 = some false := by simp [tagg, Try.underlying43]
@[simp] theorem tsz44 : tsz Try.prog 44 = some 1 := by kernel_rfl
@[simp] theorem tby44 : tbytes Try.prog 44 = some 8 := by kernel_rfl
@[simp] theorem tze44 : tzero Try.prog 44 = some .nilFunc := by kernel_rfl
@[simp] theorem tag44 : tagg Try.prog 44 = some false := by simp [tagg, Try.underlying44]
@[simp] theorem tsz45 : tsz Try.prog 45 = some 1 := by kernel_rfl
@[simp] theorem tby45 : tbytes Try.prog 45 = some 8 := by kernel_rfl
@[simp] theorem tze45 : tzero Try.prog 45 = some .nilFunc := by kernel_rfl
@[simp] theorem tag45 : tagg Try.prog 45 = some false := by simp [tagg, Try.underlying45]
@[simp] theorem tsz46 : tsz Try.prog 46 = some 1 := by kernel_rfl
@[simp] theorem tby46 : tbytes Try.prog 46 = some 8 := by kernel_rfl
@[simp] theorem tze46 : tzero Try.prog 46 = some .nilFunc := by kernel_rfl
@[simp] theorem tag46 : tagg Try.prog 46 = some false := by simp [tagg, Try.underlying46]
@[simp] theorem tsz47 : tsz Try.prog 47 = some 1 := by kernel_rfl
@[simp] theorem tby47 : tbytes Try.prog 47 = some 8 := by kernel_rfl
@[simp] theorem tze47 : tzero Try.prog 47 = some .nilFunc := by kernel_rfl
@[simp] theorem tag47 : tagg Try.prog 47 = some false := by simp [tagg, Try.underlying47]
@[simp] theorem tsz48 : tsz Try.prog 48 = some 1 := by kernel_rfl
@[simp] theorem tby48 : tbytes Try.prog 48 = some 8 := by kernel_rfl
@[simp] theorem tze48 : tzero Try.prog 48 = some .nilFunc := by kernel_rfl
@[simp] theorem tag48 : tagg Try.prog 48 = some false := by simp [tagg, Try.underlying48]
@[simp] theorem tsz49 : tsz Try.prog 49 = some 1 := by kernel_rfl
@[simp] theorem tby49 : tbytes Try.prog 49 = some 24 := by kernel_rfl
@[simp] theorem tze49 : tzero Try.prog 49 = some (.slice none 0 0) := by kernel_rfl
@[simp] theorem tag49 : tagg Try.prog 49 = some false := by simp [tagg, Try.underlying49]
@[simp] theorem elm49 : elemOf Try.prog 49 = some 3 := by kernel_rfl
@[simp] theorem tsz50 : tsz Try.prog 50 = some 1 := by kernel_rfl
@[simp] theorem tby50 : tbytes Try.prog 50 = some 8 := by kernel_rfl
@[simp] theorem tze50 : tzero Try.prog 50 = some .nilFunc := by kernel_rfl
@[simp] theorem tag50 : tagg Try.prog 50 = some false := by simp [tagg, Try.underlying50]
@[simp] theorem tsz51 : tsz Try.prog 51 = some 1 := by kernel_rfl
@[simp] theorem tby51 : tbytes Try.prog 51 = some 8 := by kernel_rfl
@[simp] theorem tze51 : tzero Try.prog 51 = some .nilFunc := by kernel_rfl
@[simp] theorem tag51 : tagg Try.prog 51 = some false := by simp [tagg, Try.underlying51]
@[simp] theorem tsz52 : tsz Try.prog 52 = some 1 := by kernel_rfl
@[simp] theorem tby52 : tbytes Try.prog 52 = some 8 := by kernel_rfl
@[simp] theorem tze52 : tzero Try.prog 52 = some .nilFunc := by kernel_rfl
@[simp] theorem tag52 : tagg Try.prog 52 = some false := by simp [tagg, Try.underlying52]
@[simp] theorem tsz54 : tsz Try.prog 54 = some 1 := by kernel_rfl
@[simp] theorem tby54 : tbytes Try.prog 54 = some 8 := by kernel_rfl
@[simp] theorem tze54 : tzero Try.prog 54 = some .nilFunc := by kernel_rfl
@[simp] theorem tag54 : tagg Try.prog 54 = some false := by simp [tagg, Try.underlying54]
@[simp] theorem tsz55 : tsz Try.prog 55 = some 1 := by kernel_rfl
@[simp] theorem tby55 : tbytes Try.prog 55 = some 8 := by kernel_rfl
@[simp] theorem tze55 : tzero Try.prog 55 = some .nilFunc := by kernel_rfl
@[simp] theorem tag55 : tagg Try.prog 55 = some false := by simp [tagg, Try.underlying55]
@[simp] theorem tsz56 : tsz Try.prog 56 = some 1 := by kernel_rfl
@[simp] theorem tby56 : tbytes Try.prog 56 = some 8 := by kernel_rfl
@[simp] theorem tze56 : tzero Try.prog 56 = some .nilFunc := by kernel_rfl
@[simp] theorem tag56 : tagg Try.prog 56 = some false := by simp [tagg, Try.underlying56]
@[simp] theorem tsz57 : tsz Try.prog 57 = some 1 := by kernel_rfl
@[simp] theorem tby57 : tbytes Try.prog 57 = some 8 := by kernel_rfl
@[simp] theorem tze57 : tzero Try.prog 57 = some .nilFunc := by kernel_rfl
@[simp] theorem tag57 : tagg Try.prog 57 = some false := by simp [tagg, Try.underlying57]
@[simp] theorem tsz58 : tsz Try.prog 58 = some 1 := by kernel_rfl
@[simp] theorem tby58 : tbytes Try.prog 58 = some 8 := by kernel_rfl
@[simp] theorem tze58 : tzero Try.prog 58 = some .nilFunc := by kernel_rfl
@[simp] theorem tag58 : tagg Try.prog 58 = some false := by simp [tagg, Try.underlying58]
@[simp] theorem tsz59 : tsz Try.prog 59 = some 1 := by kernel_rfl
@[simp] theorem tby59 : tbytes Try.prog 59 = some 8 := by kernel_rfl
@[simp] theorem tze59 : tzero Try.prog 59 = some .nilFunc := by kernel_rfl
@[simp] theorem tag59 : tagg Try.prog 59 = some false := by simp [tagg, Try.underlying59]
@[simp] theorem tsz60 : tsz Try.prog 60 = some 1 := by kernel_rfl
@[simp] theorem tby60 : tbytes Try.prog 60 = some 8 := by kernel_rfl
@[simp] theorem tze60 : tzero Try.prog 60 = some .nilFunc := by kernel_rfl
@[simp] theorem tag60 : tagg Try.prog 60 = some false := by simp [tagg, Try.underlying60]
@[simp] theorem tsz61 : tsz Try.prog 61 = some 1 := by kernel_rfl
@[simp] theorem tby61 : tbytes Try.prog 61 = some 8 := by kernel_rfl
@[simp] theorem tze61 : tzero Try.prog 61 = some .nilFunc := by kernel_rfl
@[simp] theorem tag61 : tagg Try.prog 61 = some false := by simp [tagg, Try.underlying61]
@[simp] theorem tsz62 : tsz Try.prog 62 = some 1 := by kernel_rfl
@[simp] theorem tby62 : tbytes Try.prog 62 = some 8 := by kernel_rfl
@[simp] theorem tze62 : tzero Try.prog 62 = some .nilFunc := by kernel_rfl
@[simp] theorem tag62 : tagg Try.prog 62 = some false := by simp [tagg, Try.underlying62]
@[simp] theorem tsz63 : tsz Try.prog 63 = some 1 := by kernel_rfl
@[simp] theorem tby63 : tbytes Try.prog 63 = some 8 := by kernel_rfl
@[simp] theorem tze63 : tzero Try.prog 63 = some (.int .u64 (0)) := by kernel_rfl
@[simp] theorem tag63 : tagg Try.prog 63 = some false := by simp [tagg, Try.underlying63]
@[simp] theorem uin63 : uint Try.prog 63 = some .u64 := by kernel_rfl
@[simp] theorem tsz64 : tsz Try.prog 64 = some 1 := by kernel_rfl
@[simp] theorem tby64 : tbytes Try.prog 64 = some 24 := by kernel_rfl
@[simp] theorem tze64 : tzero Try.prog 64 = some (.slice none 0 0) := by kernel_rfl
@[simp] theorem tag64 : tagg Try.prog 64 = some false := by simp [tagg, Try.underlying64]
@[simp] theorem elm64 : elemOf Try.prog 64 = some 22 := by kernel_rfl
@[simp] theorem tsz65 : tsz Try.prog 65 = some 1 := by kernel_rfl
@[simp] theorem tby65 : tbytes Try.prog 65 = some 8 := by kernel_rfl
@[simp] theorem tze65 : tzero Try.prog 65 = some .nilFunc := by kernel_rfl
@[simp] theorem tag65 : tagg Try.prog 65 = some false := by simp [tagg, Try.underlying65]
@[simp] theorem tsz66 : tsz Try.prog 66 = some 1 := by kernel_rfl
@[simp] theorem tby66 : tbytes Try.prog 66 = some 8 := by kernel_rfl
@[simp] theorem tze66 : tzero Try.prog 66 = some .nilFunc := by kernel_rfl
@[simp] theorem tag66 : tagg Try.prog 66 = some false := by simp [tagg, Try.underlying66]
@[simp] theorem tsz67 : tsz Try.prog 67 = some 1 := by kernel_rfl
@[simp] theorem tby67 : tbytes Try.prog 67 = some 8 := by kernel_rfl
@[simp] theorem tze67 : tzero Try.prog 67 = some .nilFunc := by kernel_rfl
@[simp] theorem tag67 : tagg Try.prog 67 = some false := by simp [tagg, Try.underlying67]
@[simp] theorem tsz68 : tsz Try.prog 68 = some 1 := by kernel_rfl
@[simp] theorem tby68 : tbytes Try.prog 68 = some 8 := by kernel_rfl
@[simp] theorem tze68 : tzero Try.prog 68 = some .nilFunc := by kernel_rfl
@[simp] theorem tag68 : tagg Try.prog 68 = some false := by simp [tagg, Try.underlying68]
@[simp] theorem tsz69 : tsz Try.prog 69 = some 1 := by kernel_rfl
@[simp] theorem tby69 : tbytes Try.prog 69 = some 8 := by kernel_rfl
@[simp] theorem tze69 : tzero Try.prog 69 = some .nilFunc := by kernel_rfl
@[simp] theorem tag69 : tagg Try.prog 69 = some false := by simp [tagg, Try.underlying69]
@[simp] theorem tsz70 : tsz Try.prog 70 = some 1 := by kernel_rfl
@[simp] theorem tby70 : tbytes Try.prog 70 = some 8 := by kernel_rfl
@[simp] theorem tze70 : tzero Try.prog 70 = some (.int .i64 (0)) := by kernel_rfl
@[simp] theorem tag70 : tagg Try.prog 70 = some false := by simp [tagg, Try.underlying70]
@[simp] theorem uin70 : uint Try.prog 70 = some .i64 := by kernel_rfl
@[simp] theorem tsz72 : tsz Try.prog 72 = some 1 := by kernel_rfl
@[simp] theorem tby72 : tbytes Try.prog 72 = some 8 := by kernel_rfl
@[simp] theorem tze72 : tzero Try.prog 72 = some .nilFunc := by kernel_rfl
@[simp] theorem tag72 : tagg Try.prog 72 = some false := by simp [tagg, Try.underlying72]
@[simp] theorem tsz73 : tsz Try.prog 73 = some 1 := by kernel_rfl
@[simp] theorem tby73 : tbytes Try.prog 73 = some 8 := by kernel_rfl
@[simp] theorem tze73 : tzero Try.prog 73 = some .nilFunc := by kernel_rfl
@[simp] theorem tag73 : tagg Try.prog 73 = some false := by simp [tagg, Try.underlying73]
@[simp] theorem tsz74 : tsz Try.prog 74 = some 1 := by kernel_rfl
@[simp] theorem tby74 : tbytes Try.prog 74 = some 8 := by kernel_rfl
@[simp] theorem tze74 : tzero Try.prog 74 = some .nilFunc := by kernel_rfl
@[simp] theorem tag74 : tagg Try.prog 74 = some false := by simp [tagg, Try.underlying74]
@[simp] theorem tsz75 : tsz Try.prog 75 = some 1 := by kernel_rfl
@[simp] theorem tby75 : tbytes Try.prog 75 = some 8 := by kernel_rfl
@[simp] theorem tze75 : tzero Try.prog 75 = some .nilFunc := by kernel_rfl
@[simp] theorem tag75 : tagg Try.prog 75 = some false := by simp [tagg, Try.underlying75]
@[simp] theorem tsz76 : tsz Try.prog 76 = some 1 := by kernel_rfl
@[simp] theorem tby76 : tbytes Try.prog 76 = some 8 := by kernel_rfl
@[simp] theorem tze76 : tzero Try.prog 76 = some .nilFunc := by kernel_rfl
@[simp] theorem tag76 : tagg Try.prog 76 = some false := by simp [tagg, Try.underlying76]
@[simp] theorem tsz77 : tsz Try.prog 77 = some 1 := by kernel_rfl
@[simp] theorem tby77 : tbytes Try.prog 77 = some 8 := by kernel_rfl
@[simp] theorem tze77 : tzero Try.prog 77 = some .nilFunc := by kernel_rfl
@[simp] theorem tag77 : tagg Try.prog 77 = some false := by simp [tagg, Try.underlying77]
@[simp] theorem tsz78 : tsz Try.prog 78 = some 1 := by kernel_rfl
@[simp] theorem tby78 : tbytes Try.prog 78 = some 8 := by kernel_rfl
@[simp] theorem tze78 : tzero Try.prog 78 = some (.int .u64 (0)) := by kernel_rfl
@[simp] theorem tag78 : tagg Try.prog 78 = some false := by simp [tagg, Try.underlying78]
@[simp] theorem uin78 : uint Try.prog 78 = some .u64 := by kernel_rfl
@[simp] theorem tsz79 : tsz Try.prog 79 = some 1 := by kernel_rfl
@[simp] theorem tby79 : tbytes Try.prog 79 = some 8 := by kernel_rfl
@[simp] theorem tze79 : tzero Try.prog 79 = some .nilFunc := by kernel_rfl
@[simp] theorem tag79 : tagg Try.prog 79 = some false := by simp [tagg, Try.underlying79]
@[simp] theorem tsz80 : tsz Try.prog 80 = some 1 := by kernel_rfl
@[simp] theorem tby80 : tbytes Try.prog 80 = some 8 := by kernel_rfl
@[simp] theorem tze80 : tzero Try.prog 80 = some .nilFunc := by kernel_rfl
@[simp] theorem tag80 : tagg Try.prog 80 = some false := by simp [tagg, Try.underlying80]
@[simp] theorem tsz81 : tsz Try.prog 81 = some 1 := by kernel_rfl
@[simp] theorem tby81 : tbytes Try.prog 81 = some 8 := by kernel_rfl
@[simp] theorem tze81 : tzero Try.prog 81 = some .nilFunc := by kernel_rfl
@[simp] theorem tag81 : tagg Try.prog 81 = some false := by simp [tagg, Try.underlying81]
@[simp] theorem tsz82 : tsz Try.prog 82 = some 1 := by kernel_rfl
@[simp] theorem tby82 : tbytes Try.prog 82 = some 8 := by kernel_rfl
@[simp] theorem tze82 : tzero Try.prog 82 = some (.pointer none) := by kernel_rfl
@[simp] theorem tag82 : tagg Try.prog 82 = some false := by simp [tagg, Try.underlying82]
@[simp] theorem upt82 : uptr Try.prog 82 = true := by kernel_rfl
@[simp] theorem tsz83 : tsz Try.prog 83 = some 1 := by kernel_rfl
@[simp] theorem tby83 : tbytes Try.prog 83 = some 8 := by kernel_rfl
@[simp] theorem tze83 : tzero Try.prog 83 = some .nilFunc := by kernel_rfl
@[simp] theorem tag83 : tagg Try.prog 83 = some false := by simp [tagg, Try.underlying83]
@[simp] theorem tsz84 : tsz Try.prog 84 = some 1 := by kernel_rfl
@[simp] theorem tby84 : tbytes Try.prog 84 = some 8 := by kernel_rfl
@[simp] theorem tze84 : tzero Try.prog 84 = some (.pointer none) := by kernel_rfl
@[simp] theorem tag84 : tagg Try.prog 84 = some false := by simp [tagg, Try.underlying84]
@[simp] theorem upt84 : uptr Try.prog 84 = true := by kernel_rfl
@[simp] theorem tsz86 : tsz Try.prog 86 = some 1 := by kernel_rfl
@[simp] theorem tby86 : tbytes Try.prog 86 = some 8 := by kernel_rfl
@[simp] theorem tze86 : tzero Try.prog 86 = some .nilFunc := by kernel_rfl
@[simp] theorem tag86 : tagg Try.prog 86 = some false := by simp [tagg, Try.underlying86]
@[simp] theorem tsz87 : tsz Try.prog 87 = some 1 := by kernel_rfl
@[simp] theorem tby87 : tbytes Try.prog 87 = some 8 := by kernel_rfl
@[simp] theorem tze87 : tzero Try.prog 87 = some .nilFunc := by kernel_rfl
@[simp] theorem tag87 : tagg Try.prog 87 = some false := by simp [tagg, Try.underlying87]
@[simp] theorem tsz88 : tsz Try.prog 88 = some 4 := by kernel_rfl
@[simp] theorem tby88 : tbytes Try.prog 88 = some 40 := by kernel_rfl
@[simp] theorem tze88 : tzero Try.prog 88 = some (.agg #[(.pointer none), (.pointer none), (.pointer none), (.string ⟨#[]⟩)]) := by kernel_rfl
@[simp] theorem tag88 : tagg Try.prog 88 = some true := by simp [tagg, Try.underlying88]
@[simp] theorem fsz88 : fieldsSized Try.prog 88 = true := by kernel_rfl
@[simp] theorem fld88_0 : fieldOf Try.prog 88 0 = some (17, 0) := by kernel_rfl
@[simp] theorem fld88_1 : fieldOf Try.prog 88 1 = some (17, 1) := by kernel_rfl
@[simp] theorem fld88_2 : fieldOf Try.prog 88 2 = some (17, 2) := by kernel_rfl
@[simp] theorem fld88_3 : fieldOf Try.prog 88 3 = some (9, 3) := by kernel_rfl
@[simp] theorem eqg88 : Try.prog.eqGuardType Try.prog.depth 88 = false := by kernel_rfl
@[simp] theorem tsz89 : tsz Try.prog 89 = some 4 := by kernel_rfl
@[simp] theorem tby89 : tbytes Try.prog 89 = some 40 := by kernel_rfl
@[simp] theorem tze89 : tzero Try.prog 89 = some (.agg #[(.pointer none), (.pointer none), (.pointer none), (.string ⟨#[]⟩)]) := by kernel_rfl
@[simp] theorem tag89 : tagg Try.prog 89 = some true := by simp [tagg, Try.underlying89]
@[simp] theorem fsz89 : fieldsSized Try.prog 89 = true := by kernel_rfl
@[simp] theorem fld89_0 : fieldOf Try.prog 89 0 = some (17, 0) := by kernel_rfl
@[simp] theorem fld89_1 : fieldOf Try.prog 89 1 = some (17, 1) := by kernel_rfl
@[simp] theorem fld89_2 : fieldOf Try.prog 89 2 = some (17, 2) := by kernel_rfl
@[simp] theorem fld89_3 : fieldOf Try.prog 89 3 = some (9, 3) := by kernel_rfl
@[simp] theorem eqg89 : Try.prog.eqGuardType Try.prog.depth 89 = false := by kernel_rfl
@[simp] theorem tsz90 : tsz Try.prog 90 = some 0 := by kernel_rfl
@[simp] theorem tby90 : tbytes Try.prog 90 = some 0 := by kernel_rfl
@[simp] theorem tze90 : tzero Try.prog 90 = some (.agg #[]) := by kernel_rfl
@[simp] theorem tag90 : tagg Try.prog 90 = some true := by simp [tagg, Try.underlying90]
@[simp] theorem tsz91 : tsz Try.prog 91 = some 0 := by kernel_rfl
@[simp] theorem tby91 : tbytes Try.prog 91 = some 0 := by kernel_rfl
@[simp] theorem tze91 : tzero Try.prog 91 = some (.agg #[]) := by kernel_rfl
@[simp] theorem tag91 : tagg Try.prog 91 = some true := by simp [tagg, Try.underlying91]
@[simp] theorem fsz91 : fieldsSized Try.prog 91 = true := by kernel_rfl
@[simp] theorem fld91_0 : fieldOf Try.prog 91 0 = some (90, 0) := by kernel_rfl
@[simp] theorem eqg91 : Try.prog.eqGuardType Try.prog.depth 91 = false := by kernel_rfl
@[simp] theorem tsz92 : tsz Try.prog 92 = some 0 := by kernel_rfl
@[simp] theorem tby92 : tbytes Try.prog 92 = some 0 := by kernel_rfl
@[simp] theorem tze92 : tzero Try.prog 92 = some (.agg #[]) := by kernel_rfl
@[simp] theorem tag92 : tagg Try.prog 92 = some true := by simp [tagg, Try.underlying92]
@[simp] theorem fsz92 : fieldsSized Try.prog 92 = true := by kernel_rfl
@[simp] theorem fld92_0 : fieldOf Try.prog 92 0 = some (90, 0) := by kernel_rfl
@[simp] theorem eqg92 : Try.prog.eqGuardType Try.prog.depth 92 = false := by kernel_rfl
@[simp] theorem tsz93 : tsz Try.prog 93 = some 1 := by kernel_rfl
@[simp] theorem tby93 : tbytes Try.prog 93 = some 8 := by kernel_rfl
@[simp] theorem tze93 : tzero Try.prog 93 = some .nilFunc := by kernel_rfl
@[simp] theorem tag93 : tagg Try.prog 93 = some false := by simp [tagg, Try.underlying93]
@[simp] theorem tsz94 : tsz Try.prog 94 = some 1 := by kernel_rfl
@[simp] theorem tby94 : tbytes Try.prog 94 = some 1 := by kernel_rfl
@[simp] theorem tze94 : tzero Try.prog 94 = some (.int .u8 (0)) := by kernel_rfl
@[simp] theorem tag94 : tagg Try.prog 94 = some false := by simp [tagg, Try.underlying94]
@[simp] theorem uin94 : uint Try.prog 94 = some .u8 := by kernel_rfl
@[simp] theorem tsz95 : tsz Try.prog 95 = some 1 := by kernel_rfl
@[simp] theorem tby95 : tbytes Try.prog 95 = some 1 := by kernel_rfl
@[simp] theorem tze95 : tzero Try.prog 95 = some (.int .u8 (0)) := by kernel_rfl
@[simp] theorem tag95 : tagg Try.prog 95 = some false := by simp [tagg, Try.underlying95]
@[simp] theorem uin95 : uint Try.prog 95 = some .u8 := by kernel_rfl
@[simp] theorem tsz96 : tsz Try.prog 96 = some 1 := by kernel_rfl
@[simp] theorem tby96 : tbytes Try.prog 96 = some 8 := by kernel_rfl
@[simp] theorem tze96 : tzero Try.prog 96 = some .nilFunc := by kernel_rfl
@[simp] theorem tag96 : tagg Try.prog 96 = some false := by simp [tagg, Try.underlying96]
@[simp] theorem tsz97 : tsz Try.prog 97 = some 1 := by kernel_rfl
@[simp] theorem tby97 : tbytes Try.prog 97 = some 8 := by kernel_rfl
@[simp] theorem tze97 : tzero Try.prog 97 = some (.pointer none) := by kernel_rfl
@[simp] theorem tag97 : tagg Try.prog 97 = some false := by simp [tagg, Try.underlying97]
@[simp] theorem upt97 : uptr Try.prog 97 = true := by kernel_rfl
@[simp] theorem tsz98 : tsz Try.prog 98 = some 1 := by kernel_rfl
@[simp] theorem tby98 : tbytes Try.prog 98 = some 4 := by kernel_rfl
@[simp] theorem tze98 : tzero Try.prog 98 = some (.int .i32 (0)) := by kernel_rfl
@[simp] theorem tag98 : tagg Try.prog 98 = some false := by simp [tagg, Try.underlying98]
@[simp] theorem uin98 : uint Try.prog 98 = some .i32 := by kernel_rfl
@[simp] theorem tsz99 : tsz Try.prog 99 = some 1 := by kernel_rfl
@[simp] theorem tby99 : tbytes Try.prog 99 = some 4 := by kernel_rfl
@[simp] theorem tze99 : tzero Try.prog 99 = some (.int .i32 (0)) := by kernel_rfl
@[simp] theorem tag99 : tagg Try.prog 99 = some false := by simp [tagg, Try.underlying99]
@[simp] theorem uin99 : uint Try.prog 99 = some .i32 := by kernel_rfl
@[simp] theorem tsz100 : tsz Try.prog 100 = some 11 := by kernel_rfl
@[simp] theorem tby100 : tbytes Try.prog 100 = some 48 := by kernel_rfl
@[simp] theorem tze100 : tzero Try.prog 100 = some (.agg #[(.int .u64 (0)), (.int .u64 (0)), (.int .u32 (0)), (.int .u8 (0)), (.int .u8 (0)), (.int .u8 (0)), (.int .u8 (0)), .nilFunc, (.pointer none), (.int .i32 (0)), (.int .i32 (0))]) := by kernel_rfl
@[simp] theorem tag100 : tagg Try.prog 100 = some true := by simp [tagg, Try.underlying100]
@[simp] theorem fsz100 : fieldsSized Try.prog 100 = true := by kernel_rfl
@[simp] theorem fld100_0 : fieldOf Try.prog 100 0 = some (12, 0) := by kernel_rfl
@[simp] theorem fld100_1 : fieldOf Try.prog 100 1 = some (12, 1) := by kernel_rfl
@[simp] theorem fld100_2 : fieldOf Try.prog 100 2 = some (29, 2) := by kernel_rfl
@[simp] theorem fld100_3 : fieldOf Try.prog 100 3 = some (94, 3) := by kernel_rfl
@[simp] theorem fld100_4 : fieldOf Try.prog 100 4 = some (5, 4) := by kernel_rfl
@[simp] theorem fld100_5 : fieldOf Try.prog 100 5 = some (5, 5) := by kernel_rfl
@[simp] theorem fld100_6 : fieldOf Try.prog 100 6 = some (95, 6) := by kernel_rfl
@[simp] theorem fld100_7 : fieldOf Try.prog 100 7 = some (96, 7) := by kernel_rfl
@[simp] theorem fld100_8 : fieldOf Try.prog 100 8 = some (97, 8) := by kernel_rfl
@[simp] theorem fld100_9 : fieldOf Try.prog 100 9 = some (98, 9) := by kernel_rfl
@[simp] theorem fld100_10 : fieldOf Try.prog 100 10 = some (99, 10) := by kernel_rfl
@[simp] theorem eqg100 : Try.prog.eqGuardType Try.prog.depth 100 = false := by kernel_rfl
@[simp] theorem tsz101 : tsz Try.prog 101 = some 11 := by kernel_rfl
@[simp] theorem tby101 : tbytes Try.prog 101 = some 48 := by kernel_rfl
@[simp] theorem tze101 : tzero Try.prog 101 = some (.agg #[(.int .u64 (0)), (.int .u64 (0)), (.int .u32 (0)), (.int .u8 (0)), (.int .u8 (0)), (.int .u8 (0)), (.int .u8 (0)), .nilFunc, (.pointer none), (.int .i32 (0)), (.int .i32 (0))]) := by kernel_rfl
@[simp] theorem tag101 : tagg Try.prog 101 = some true := by simp [tagg, Try.underlying101]
@[simp] theorem fsz101 : fieldsSized Try.prog 101 = true := by kernel_rfl
@[simp] theorem fld101_0 : fieldOf Try.prog 101 0 = some (12, 0) := by kernel_rfl
@[simp] theorem fld101_1 : fieldOf Try.prog 101 1 = some (12, 1) := by kernel_rfl
@[simp] theorem fld101_2 : fieldOf Try.prog 101 2 = some (29, 2) := by kernel_rfl
@[simp] theorem fld101_3 : fieldOf Try.prog 101 3 = some (94, 3) := by kernel_rfl
@[simp] theorem fld101_4 : fieldOf Try.prog 101 4 = some (5, 4) := by kernel_rfl
@[simp] theorem fld101_5 : fieldOf Try.prog 101 5 = some (5, 5) := by kernel_rfl
@[simp] theorem fld101_6 : fieldOf Try.prog 101 6 = some (95, 6) := by kernel_rfl
@[simp] theorem fld101_7 : fieldOf Try.prog 101 7 = some (96, 7) := by kernel_rfl
@[simp] theorem fld101_8 : fieldOf Try.prog 101 8 = some (97, 8) := by kernel_rfl
@[simp] theorem fld101_9 : fieldOf Try.prog 101 9 = some (98, 9) := by kernel_rfl
@[simp] theorem fld101_10 : fieldOf Try.prog 101 10 = some (99, 10) := by kernel_rfl
@[simp] theorem eqg101 : Try.prog.eqGuardType Try.prog.depth 101 = false := by kernel_rfl
@[simp] theorem tsz102 : tsz Try.prog 102 = some 1 := by kernel_rfl
@[simp] theorem tby102 : tbytes Try.prog 102 = some 8 := by kernel_rfl
@[simp] theorem tze102 : tzero Try.prog 102 = some (.pointer none) := by kernel_rfl
@[simp] theorem tag102 : tagg Try.prog 102 = some false := by simp [tagg, Try.underlying102]
theorem slt22 : SlT Try.prog 22 2 8 := ⟨⟨33, _, elm22, tsz33, tby33, tze33, rfl, by decide, by decide⟩⟩
theorem slt49 : SlT Try.prog 49 1 8 := ⟨⟨3, _, elm49, tsz3, tby3, tze3, rfl, by decide, by decide⟩⟩
theorem slt64 : SlT Try.prog 64 1 24 := ⟨⟨22, _, elm64, tsz22, tby22, tze22, rfl, by decide, by decide⟩⟩
theorem mixed : Try.prog.follows .mixedOrders = true := by kernel_rfl
end Go.Proofs.Ytajikhpjjbohaaa.Av

namespace Go.Proofs.Ytajikhpjjbohaaa.Av
open Go
set_option linter.unusedSimpArgs false
set_option linter.unusedVariables false
set_option maxRecDepth 100000

structure Rg where
  lo : Int
  hi : Int
deriving DecidableEq
attribute [ext] Rg
def rgAV (r : Rg) : AV := .agg [.raw (.int .u32 r.lo), .raw (.int .u32 r.hi)]
def zAV (z : List Rg) (full : Bool) : AV := .sl 2 (z.map rgAV) full

theorem same_calls (x y : List Rg) (fx fy : Bool) (hlx : x.length < 2 ^ 60) : PCalls Try.prog 11 [zAV x fx, zAV y fy] (.raw (.bool (decide (x = y)))) := by
  refine pbody Try.func11 rfl (N := 26) rfl rfl (by simp) (by simp [noIds, AV.ids]) fun σ => ?_
  refine awp_seq ?_
  refine awp_reg ?_
  simp
  refine awp_seq ?_
  refine awp_seq ?_
  refine awp_reg ?_
  simp [zAV]
  refine awp_cond ?_
  simp
  constructor
  · intro hne
    refine awp_seq ?_
    refine awp_reg ?_
    simp
    refine awp_ret ?_
    simp
    refine retP_same (.inr rfl) ?_
    simp
    rintro rfl; exact hne rfl
  intro hlen
  have hlen : x.length = y.length := by omega
  refine awp_skip ?_
  simp
  refine awp_seq ?_
  refine awp_seq ?_
  refine awp_reg ?_
  simp
  refine awp_block ?_
  refine awp_loop (fun n A σ' => σ' = σ ∧ A 0 = zAV x fx ∧ A 1 = zAV y fy ∧ ∃ i : Nat, A 5 = .raw (.int .i64 i) ∧ i ≤ x.length ∧ n = x.length - i ∧ x.take i = y.take i) x.length ?_ ?_
  · simp [zAV]; exact ⟨0, by simp⟩
  rintro n A σ' ⟨rfl, h0, h1, i, h5, hi, rfl, htk⟩
  refine awp_seq ?_
  refine awp_seq ?_
  refine awp_reg ?_
  simp [h0, h1, h5, zAV]
  refine awp_cond ?_
  simp
  constructor
  · intro hlt
    refine awp_skip ?_
    simp
    refine awp_seq ?_
    refine awp_block ?_
    refine awp_seq ?_
    have hx : x[i]? = some x[i] := List.getElem?_eq_getElem (by omega)
    have hy : y[i]? = some (y[i]'(by omega)) := List.getElem?_eq_getElem (by omega)
    refine awp_drawT (fun _ => false) mixed (by decide +kernel) ?_
    simp [h0, h1, h5, zAV, hx, hy, rgAV]
    refine awp_cond ?_
    simp
    constructor
    · intro hne
      refine awp_seq ?_
      refine awp_reg ?_
      simp
      refine awp_ret ?_
      simp
      refine retP_same (.inr rfl) ?_
      simp
      rintro rfl
      simp at hne
    · intro h6 h7
      refine awp_skip ?_
      simp
      refine awp_reg ?_
      simp [h5, h0, h1]
      refine ⟨x.length - (i + 1), by omega, i + 1, ?_, by omega, rfl, ?_⟩
      · rw [wrap64 (by omega) (by omega)]; simp
      · rw [List.take_add_one, List.take_add_one, htk, hx, hy, Rg.ext h6 h7]
  · intro hge
    refine awp_exit ?_
    simp
    refine awp_seq ?_
    refine awp_reg ?_
    simp
    refine awp_ret ?_
    refine retP_same (.inr rfl) ?_
    simp
    have : i = x.length := by omega
    subst this
    rw [List.take_length, hlen, List.take_length] at htk
    exact htk
end Go.Proofs.Ytajikhpjjbohaaa.Av

/- Zones: the functions that only look. -/
namespace Go.Proofs.Ytajikhpjjbohaaa.Av
open Go
set_option linter.unusedSimpArgs false
set_option linter.unusedVariables false
set_option maxRecDepth 100000
set_option pp.maxSteps 300

/-- The bounds of a range's ends. -/
def Rg.In (r : Rg) : Prop := 0 ≤ r.lo ∧ r.lo < 4294967296 ∧ 0 ≤ r.hi ∧ r.hi < 4294967296
def InZ (z : List Rg) : Prop := ∀ r ∈ z, r.In
def okAt (z : List Rg) (i : Nat) : Bool :=
  match z[i]? with
  | some r => decide (r.lo ≤ r.hi) && (i == 0 || match z[i - 1]? with | some p => decide (p.hi + 1 < r.lo) | none => true)
  | none => true
def rightB (z : List Rg) : Bool := (List.range z.length).all (okAt z)
theorem rightB_false {z : List Rg} {i : Nat} (h : i < z.length) (h2 : okAt z i = false) : rightB z = false := by
  unfold rightB
  rw [List.all_eq_false]
  exact ⟨i, by simpa using h, by simp [h2]⟩
theorem rightB_true {z : List Rg} (h : ∀ i, i < z.length → okAt z i = true) : rightB z = true := by
  unfold rightB
  rw [List.all_eq_true]
  intro i hi
  exact h i (by simpa using hi)

theorem refRight_calls (z : List Rg) (fz : Bool) (hz : InZ z) (hl : z.length < 2 ^ 60) : PCalls Try.prog 13 [zAV z fz] (.raw (.bool (rightB z))) := by
  refine pbody Try.func13 rfl (N := 42) rfl rfl (by simp) (by simp [noIds, AV.ids]) fun σ => ?_
  (try (first | (with_reducible refine dops_go ?_; simp) | (with_reducible refine OKv_go ?_; simp) | (with_reducible refine OKr_go ?_; simp))); repeat' (first | refine awp_seq ?_ | refine awp_block ?_ | (refine awp_skip ?_; try simp) | (refine awp_exit ?_; try simp) | (refine awp_ret ?_; try simp) | (refine retP_same (by simp) ?_; simp) | (refine retP_flat (by simp) (by simp) (by simp) ?_; simp) | (refine awp_reg ?_; simp) | (refine awp_drawT (fun _ => false) mixed (by decide +kernel) ?_; simp) | (refine guarded_split ?_ ?_ <;> (intro hg; simp only [hg]; simp)) | (apply awp_cond_t; focus (simp; done)) | (apply awp_cond_f; focus (simp; done)) | (refine awp_cond ?_; simp; refine ⟨?_, ?_⟩ <;> intro hc))
  refine awp_loop (fun n A τ => τ = σ ∧ A 0 = zAV z fz ∧ ∃ i : Nat, A 3 = .raw (.int .i64 i) ∧ i ≤ z.length ∧ n = z.length - i ∧ ∀ j, j < i → okAt z j = true) z.length ?_ ?_
  · simp
    exact ⟨0, by simp⟩
  rintro n A τ ⟨rfl, a0, i, a3, hi, rfl, hok⟩
  by_cases hlt : i < z.length
  · have hx : z[i]? = some z[i] := List.getElem?_eq_getElem (by omega)
    obtain ⟨i1, i2, i3, i4⟩ := hz z[i] (List.getElem_mem _)
    have w1 : IntKind.i64.wrap z[i].lo = z[i].lo := wrap64 (by omega) (by omega)
    have w3 : IntKind.i64.wrap ((i : Int) + 1) = (i : Int) + 1 := wrap64 (by omega) (by omega)
    have step : okAt z i = true → ∃ n', n' < z.length - i ∧ ∃ i_1 : Nat, (i : Int) + 1 = i_1 ∧ i_1 ≤ z.length ∧ n' = z.length - i_1 ∧ ∀ j, j < i_1 → okAt z j = true := fun h => by
      refine ⟨z.length - (i + 1), by omega, i + 1, by simp, by omega, rfl, fun j hj => ?_⟩
      by_cases e : j = i
      · rw [e]; exact h
      · exact hok j (by omega)
    by_cases h0 : i = 0
    · subst h0
      (try (first | (with_reducible refine dops_go ?_; simp [a0, a3, zAV, hlt, hx, rgAV]) | (with_reducible refine OKv_go ?_; simp [a0, a3, zAV, hlt, hx, rgAV]) | (with_reducible refine OKr_go ?_; simp [a0, a3, zAV, hlt, hx, rgAV]))); repeat' (first | refine awp_seq ?_ | refine awp_block ?_ | (refine awp_skip ?_; try simp) | (refine awp_exit ?_; try simp) | (refine awp_ret ?_; try simp) | (refine retP_same (by simp) ?_; simp) | (refine retP_flat (by simp) (by simp) (by simp [a0, a3, zAV, hlt, hx, rgAV]) ?_; simp) | (refine awp_reg ?_; simp [a0, a3, zAV, hlt, hx, rgAV]) | (refine awp_drawT (fun _ => false) mixed (by decide +kernel) ?_; simp [a0, a3, zAV, hlt, hx, rgAV]) | (refine guarded_split ?_ ?_ <;> (intro hg; simp only [hg]; simp [a0, a3, zAV, hlt, hx, rgAV])) | (apply awp_cond_t; focus (simp [a0, a3, zAV, hlt, hx, rgAV]; done)) | (apply awp_cond_f; focus (simp [a0, a3, zAV, hlt, hx, rgAV]; done)) | (refine awp_cond ?_; simp [a0, a3, zAV, hlt, hx, rgAV]; refine ⟨?_, ?_⟩ <;> intro hc))
      · exact step (by simp [okAt, hx]; simpa using hg)
      · exact rightB_false hlt (by simp [okAt, hx]; simpa using hg)
    · have hx' : z[i - 1]? = some (z[i - 1]'(by omega)) := List.getElem?_eq_getElem (by omega)
      obtain ⟨j1, j2, j3, j4⟩ := hz (z[i - 1]'(by omega)) (List.getElem_mem _)
      have w2 : IntKind.i64.wrap ((i : Int) - 1) = ((i - 1 : Nat) : Int) := by rw [wrap64 (by omega) (by omega)]; omega
      have w4 : IntKind.i64.wrap (z[i - 1]'(by omega)).hi = (z[i - 1]'(by omega)).hi := wrap64 (by omega) (by omega)
      have w5 : IntKind.i64.wrap ((z[i - 1]'(by omega)).hi + 1) = (z[i - 1]'(by omega)).hi + 1 := wrap64 (by omega) (by omega)
      have hpos : 0 < i := by omega
      (try (first | (with_reducible refine dops_go ?_; simp [a0, a3, zAV, hlt, hx, rgAV, hx', w1, w2, w4, w5, hpos]) | (with_reducible refine OKv_go ?_; simp [a0, a3, zAV, hlt, hx, rgAV, hx', w1, w2, w4, w5, hpos]) | (with_reducible refine OKr_go ?_; simp [a0, a3, zAV, hlt, hx, rgAV, hx', w1, w2, w4, w5, hpos]))); repeat' (first | refine awp_seq ?_ | refine awp_block ?_ | (refine awp_skip ?_; try simp) | (refine awp_exit ?_; try simp) | (refine awp_ret ?_; try simp) | (refine retP_same (by simp) ?_; simp) | (refine retP_flat (by simp) (by simp) (by simp [a0, a3, zAV, hlt, hx, rgAV, hx', w1, w2, w4, w5, hpos]) ?_; simp) | (refine awp_reg ?_; simp [a0, a3, zAV, hlt, hx, rgAV, hx', w1, w2, w4, w5, hpos]) | (refine awp_drawT (fun _ => false) mixed (by decide +kernel) ?_; simp [a0, a3, zAV, hlt, hx, rgAV, hx', w1, w2, w4, w5, hpos]) | (refine guarded_split ?_ ?_ <;> (intro hg; simp only [hg]; simp [a0, a3, zAV, hlt, hx, rgAV, hx', w1, w2, w4, w5, hpos])) | (apply awp_cond_t; focus (simp [a0, a3, zAV, hlt, hx, rgAV, hx', w1, w2, w4, w5, hpos]; done)) | (apply awp_cond_f; focus (simp [a0, a3, zAV, hlt, hx, rgAV, hx', w1, w2, w4, w5, hpos]; done)) | (refine awp_cond ?_; simp [a0, a3, zAV, hlt, hx, rgAV, hx', w1, w2, w4, w5, hpos]; refine ⟨?_, ?_⟩ <;> intro hc))
      · exact rightB_false hlt (by simp [okAt, hx, hx', h0]; intro _; exact hc)
      · rw [w3]
        exact step (by simp [okAt, hx, hx']; exact ⟨by simpa using hg, .inr hc⟩)
      · exact rightB_false hlt (by simp [okAt, hx, hx']; intro h; simp at hg; omega)
  · (try (first | (with_reducible refine dops_go ?_; simp [a0, a3, zAV, hlt]) | (with_reducible refine OKv_go ?_; simp [a0, a3, zAV, hlt]) | (with_reducible refine OKr_go ?_; simp [a0, a3, zAV, hlt]))); repeat' (first | refine awp_seq ?_ | refine awp_block ?_ | (refine awp_skip ?_; try simp) | (refine awp_exit ?_; try simp) | (refine awp_ret ?_; try simp) | (refine retP_same (by simp) ?_; simp) | (refine retP_flat (by simp) (by simp) (by simp [a0, a3, zAV, hlt]) ?_; simp) | (refine awp_reg ?_; simp [a0, a3, zAV, hlt]) | (refine awp_drawT (fun _ => false) mixed (by decide +kernel) ?_; simp [a0, a3, zAV, hlt]) | (refine guarded_split ?_ ?_ <;> (intro hg; simp only [hg]; simp [a0, a3, zAV, hlt])) | (apply awp_cond_t; focus (simp [a0, a3, zAV, hlt]; done)) | (apply awp_cond_f; focus (simp [a0, a3, zAV, hlt]; done)) | (refine awp_cond ?_; simp [a0, a3, zAV, hlt]; refine ⟨?_, ?_⟩ <;> intro hc))
    exact rightB_true fun j hj => hok j (by omega)
end Go.Proofs.Ytajikhpjjbohaaa.Av

/- Zones: more functions that only look. -/
namespace Go.Proofs.Ytajikhpjjbohaaa.Av
open Go
set_option linter.unusedSimpArgs false
set_option linter.unusedVariables false
set_option maxRecDepth 100000
set_option pp.maxSteps 300

def lastHi (z : List Rg) (i : Nat) : Int := match i with | 0 => -2 | k + 1 => match z[k]? with | some r => r.hi | none => -2

theorem not_okAt {z : List Rg} {i : Nat} {r : Rg} (hx : z[i]? = some r) (hz : InZ z) (h : r.hi < r.lo ∨ r.lo ≤ lastHi z i + 1) : okAt z i = false := by
  simp only [okAt, hx]
  rcases h with h | h
  · have : ¬ r.lo ≤ r.hi := by omega
    simp [this]
  · cases i with
    | zero => simp only [lastHi] at h; have := (hz r (List.mem_of_getElem? hx)).1; omega
    | succ k =>
      simp only [lastHi] at h
      cases hk : z[k]? with
      | none =>
        have h1 := List.getElem?_eq_none_iff.1 hk
        have h2 := (List.getElem?_eq_some_iff.1 hx).1
        omega
      | some p =>
        rw [hk] at h
        simp only [] at h
        have : ¬ p.hi + 1 < r.lo := by omega
        simp [hk, this]
theorem okAt_true {z : List Rg} {i : Nat} {r : Rg} (hx : z[i]? = some r) (h1 : r.lo ≤ r.hi) (h2 : lastHi z i + 1 < r.lo) : okAt z i = true := by
  simp only [okAt, hx]
  cases i with
  | zero => simp [h1]
  | succ k =>
    simp only [lastHi] at h2
    cases hk : z[k]? with
    | none => simp [h1, hk]
    | some p => rw [hk] at h2; simp [h1, hk, h2]

theorem right_calls (z : List Rg) (fz : Bool) (hz : InZ z) (hl : z.length < 2 ^ 60) : PCalls Try.prog 12 [zAV z fz] (.raw (.bool (rightB z))) := by
  refine pbody Try.func12 rfl (N := 29) rfl rfl (by simp) (by simp [noIds]) fun σ => ?_
  (try (first | (with_reducible refine dops_go ?_; simp [zAV]) | (with_reducible refine OKv_go ?_; simp [zAV]) | (with_reducible refine OKr_go ?_; simp [zAV]))); repeat' (first | refine awp_seq ?_ | refine awp_block ?_ | (refine awp_skip ?_; try simp) | (refine awp_exit ?_; try simp) | (refine awp_ret ?_; try simp) | (refine retP_same (by simp) ?_; simp) | (refine retP_flat (by simp) (by simp) (by simp [zAV]) ?_; simp) | (refine awp_reg ?_; simp [zAV]) | (refine awp_drawT (fun _ => false) mixed (by decide +kernel) ?_; simp [zAV]) | (refine guarded_split ?_ ?_ <;> (intro hg; simp only [hg]; simp [zAV])) | (apply awp_cond_t; focus (simp [zAV]; done)) | (apply awp_cond_f; focus (simp [zAV]; done)) | (refine awp_cond ?_; simp [zAV]; refine ⟨?_, ?_⟩ <;> intro hc))
  refine awp_loop (fun n A τ => Ext σ τ ∧ A 6 = zAV z fz ∧ A 7 = .raw (.int .i64 z.length) ∧ ∃ i : Nat, A 8 = .raw (.int .i64 i) ∧ A 3 = .raw (.int .i64 (lastHi z i)) ∧ i ≤ z.length ∧ n = z.length - i ∧ ∀ j, j < i → okAt z j = true) z.length ?_ ?_
  · simp [zAV]
    exact ⟨0, by simp [lastHi]⟩
  rintro n A τ ⟨hE, a6, a7, i, a8, a3, hi, rfl, hok⟩
  by_cases hlt : i < z.length
  · have hx : z[i]? = some z[i] := List.getElem?_eq_getElem (by omega)
    obtain ⟨i1, i2, i3, i4⟩ := hz z[i] (List.getElem_mem _)
    have w1 : IntKind.i64.wrap z[i].lo = z[i].lo := wrap64 (by omega) (by omega)
    have w6 : IntKind.i64.wrap z[i].hi = z[i].hi := wrap64 (by omega) (by omega)
    have hb : -2 ≤ lastHi z i ∧ lastHi z i < 4294967296 := by
      unfold lastHi
      split
      · omega
      · rename_i k
        have hk : k < z.length := by omega
        rw [List.getElem?_eq_getElem hk]
        obtain ⟨_, _, q1, q2⟩ := hz z[k] (List.getElem_mem _)
        simp only []
        omega
    have w2 : IntKind.i64.wrap (lastHi z i + 1) = lastHi z i + 1 := wrap64 (by omega) (by omega)
    have w3 : IntKind.i64.wrap ((i : Int) + 1) = (i : Int) + 1 := wrap64 (by omega) (by omega)
    (try (first | (with_reducible refine dops_go ?_; simp [a6, a7, a8, a3, zAV, hlt, hx, rgAV, w1, w2, w6, hE]) | (with_reducible refine OKv_go ?_; simp [a6, a7, a8, a3, zAV, hlt, hx, rgAV, w1, w2, w6, hE]) | (with_reducible refine OKr_go ?_; simp [a6, a7, a8, a3, zAV, hlt, hx, rgAV, w1, w2, w6, hE]))); repeat' (first | refine awp_seq ?_ | refine awp_block ?_ | (refine awp_skip ?_; try simp) | (refine awp_exit ?_; try simp) | (refine awp_ret ?_; try simp) | (refine retP_same (by simp) ?_; simp) | (refine retP_flat (by simp) (by simp) (by simp [a6, a7, a8, a3, zAV, hlt, hx, rgAV, w1, w2, w6, hE]) ?_; simp) | (refine awp_reg ?_; simp [a6, a7, a8, a3, zAV, hlt, hx, rgAV, w1, w2, w6, hE]) | (refine awp_drawT (fun _ => false) mixed (by decide +kernel) ?_; simp [a6, a7, a8, a3, zAV, hlt, hx, rgAV, w1, w2, w6, hE]) | (refine guarded_split ?_ ?_ <;> (intro hg; simp only [hg]; simp [a6, a7, a8, a3, zAV, hlt, hx, rgAV, w1, w2, w6, hE])) | (apply awp_cond_t; focus (simp [a6, a7, a8, a3, zAV, hlt, hx, rgAV, w1, w2, w6, hE]; done)) | (apply awp_cond_f; focus (simp [a6, a7, a8, a3, zAV, hlt, hx, rgAV, w1, w2, w6, hE]; done)) | (refine awp_cond ?_; simp [a6, a7, a8, a3, zAV, hlt, hx, rgAV, w1, w2, w6, hE]; refine ⟨?_, ?_⟩ <;> intro hc))
    · exact rightB_false hlt (not_okAt hx hz (.inr hc))
    · rw [w3]
      refine ⟨z.length - (i + 1), by omega, i + 1, by simp, by simp [lastHi, hx], by omega, rfl, fun j hj => ?_⟩
      by_cases e : j = i
      · rw [e]; exact okAt_true hx (by simpa using hg) hc
      · exact hok j (by omega)
    · exact rightB_false hlt (not_okAt hx hz (.inl (by simpa using hg)))
  · (try (first | (with_reducible refine dops_go ?_; simp [a6, a7, a8, a3, zAV, hlt, hE]) | (with_reducible refine OKv_go ?_; simp [a6, a7, a8, a3, zAV, hlt, hE]) | (with_reducible refine OKr_go ?_; simp [a6, a7, a8, a3, zAV, hlt, hE]))); repeat' (first | refine awp_seq ?_ | refine awp_block ?_ | (refine awp_skip ?_; try simp) | (refine awp_exit ?_; try simp) | (refine awp_ret ?_; try simp) | (refine retP_same (by simp) ?_; simp) | (refine retP_flat (by simp) (by simp) (by simp [a6, a7, a8, a3, zAV, hlt, hE]) ?_; simp) | (refine awp_reg ?_; simp [a6, a7, a8, a3, zAV, hlt, hE]) | (refine awp_drawT (fun _ => false) mixed (by decide +kernel) ?_; simp [a6, a7, a8, a3, zAV, hlt, hE]) | (refine guarded_split ?_ ?_ <;> (intro hg; simp only [hg]; simp [a6, a7, a8, a3, zAV, hlt, hE])) | (apply awp_cond_t; focus (simp [a6, a7, a8, a3, zAV, hlt, hE]; done)) | (apply awp_cond_f; focus (simp [a6, a7, a8, a3, zAV, hlt, hE]; done)) | (refine awp_cond ?_; simp [a6, a7, a8, a3, zAV, hlt, hE]; refine ⟨?_, ?_⟩ <;> intro hc))
    exact rightB_true fun j hj => hok j (by omega)

theorem fits_calls (z : List Rg) (fz : Bool) (hz : InZ z) (hl : z.length < 2 ^ 60) : PCalls Try.prog 14 [zAV z fz] (.raw (.bool (decide (z.length ≤ 40) && rightB z))) := by
  refine pbody Try.func14 rfl (N := 10) rfl rfl (by simp) (by simp [noIds]) fun σ => ?_
  by_cases h : z.length ≤ 40
  · have h1 : ¬ (40 : Int) < z.length := by omega
    (try (first | (with_reducible refine dops_go ?_; simp [zAV, h, h1]) | (with_reducible refine OKv_go ?_; simp [zAV, h, h1]) | (with_reducible refine OKr_go ?_; simp [zAV, h, h1]))); repeat' (first | refine awp_seq ?_ | refine awp_block ?_ | (refine awp_skip ?_; try simp) | (refine awp_exit ?_; try simp) | (refine awp_ret ?_; try simp) | (refine retP_same (by simp) ?_; simp) | (refine retP_flat (by simp) (by simp) (by simp [zAV, h, h1]) ?_; simp) | (refine awp_reg ?_; simp [zAV, h, h1]) | (refine awp_drawT (fun _ => false) mixed (by decide +kernel) ?_; simp [zAV, h, h1]) | (refine guarded_split ?_ ?_ <;> (intro hg; simp only [hg]; simp [zAV, h, h1])) | (apply awp_cond_t; focus (simp [zAV, h, h1]; done)) | (apply awp_cond_f; focus (simp [zAV, h, h1]; done)) | (refine awp_cond ?_; simp [zAV, h, h1]; refine ⟨?_, ?_⟩ <;> intro hc))
    refine PCalls.use (refRight_calls z fz hz hl) ?_
    (try (first | (with_reducible refine dops_go ?_; simp [zAV, h, h1]) | (with_reducible refine OKv_go ?_; simp [zAV, h, h1]) | (with_reducible refine OKr_go ?_; simp [zAV, h, h1]))); repeat' (first | refine awp_seq ?_ | refine awp_block ?_ | (refine awp_skip ?_; try simp) | (refine awp_exit ?_; try simp) | (refine awp_ret ?_; try simp) | (refine retP_same (by simp) ?_; simp) | (refine retP_flat (by simp) (by simp) (by simp [zAV, h, h1]) ?_; simp) | (refine awp_reg ?_; simp [zAV, h, h1]) | (refine awp_drawT (fun _ => false) mixed (by decide +kernel) ?_; simp [zAV, h, h1]) | (refine guarded_split ?_ ?_ <;> (intro hg; simp only [hg]; simp [zAV, h, h1])) | (apply awp_cond_t; focus (simp [zAV, h, h1]; done)) | (apply awp_cond_f; focus (simp [zAV, h, h1]; done)) | (refine awp_cond ?_; simp [zAV, h, h1]; refine ⟨?_, ?_⟩ <;> intro hc))
  · have h1 : (40 : Int) < z.length := by omega
    (try (first | (with_reducible refine dops_go ?_; simp [zAV, h, h1]) | (with_reducible refine OKv_go ?_; simp [zAV, h, h1]) | (with_reducible refine OKr_go ?_; simp [zAV, h, h1]))); repeat' (first | refine awp_seq ?_ | refine awp_block ?_ | (refine awp_skip ?_; try simp) | (refine awp_exit ?_; try simp) | (refine awp_ret ?_; try simp) | (refine retP_same (by simp) ?_; simp) | (refine retP_flat (by simp) (by simp) (by simp [zAV, h, h1]) ?_; simp) | (refine awp_reg ?_; simp [zAV, h, h1]) | (refine awp_drawT (fun _ => false) mixed (by decide +kernel) ?_; simp [zAV, h, h1]) | (refine guarded_split ?_ ?_ <;> (intro hg; simp only [hg]; simp [zAV, h, h1])) | (apply awp_cond_t; focus (simp [zAV, h, h1]; done)) | (apply awp_cond_f; focus (simp [zAV, h, h1]; done)) | (refine awp_cond ?_; simp [zAV, h, h1]; refine ⟨?_, ?_⟩ <;> intro hc))

def leastA (z : List Rg) : AV := match z with | [] => .tup [.raw (.int .u32 0), .raw (.bool false)] | r :: _ => .tup [.raw (.int .u32 r.lo), .raw (.bool true)]
theorem least_calls (z : List Rg) (fz : Bool) : PCalls Try.prog 15 [zAV z fz] (leastA z) := by
  refine pbody Try.func15 rfl (N := 11) rfl rfl (by simp) (by cases z <;> simp [noIds, leastA]) fun σ => ?_
  cases z with
  | nil =>
    (try (first | (with_reducible refine dops_go ?_; simp [zAV, leastA]) | (with_reducible refine OKv_go ?_; simp [zAV, leastA]) | (with_reducible refine OKr_go ?_; simp [zAV, leastA]))); repeat' (first | refine awp_seq ?_ | refine awp_block ?_ | (refine awp_skip ?_; try simp) | (refine awp_exit ?_; try simp) | (refine awp_ret ?_; try simp) | (refine retP_same (by simp) ?_; simp) | (refine retP_flat (by simp) (by simp) (by simp [zAV, leastA]) ?_; simp) | (refine awp_reg ?_; simp [zAV, leastA]) | (refine awp_drawT (fun _ => false) mixed (by decide +kernel) ?_; simp [zAV, leastA]) | (refine guarded_split ?_ ?_ <;> (intro hg; simp only [hg]; simp [zAV, leastA])) | (apply awp_cond_t; focus (simp [zAV, leastA]; done)) | (apply awp_cond_f; focus (simp [zAV, leastA]; done)) | (refine awp_cond ?_; simp [zAV, leastA]; refine ⟨?_, ?_⟩ <;> intro hc))
    rfl
  | cons r z =>
    have h1 : ¬ ((z.length : Int) + 1 = 0) := by omega
    (try (first | (with_reducible refine dops_go ?_; simp [zAV, h1, rgAV, leastA]) | (with_reducible refine OKv_go ?_; simp [zAV, h1, rgAV, leastA]) | (with_reducible refine OKr_go ?_; simp [zAV, h1, rgAV, leastA]))); repeat' (first | refine awp_seq ?_ | refine awp_block ?_ | (refine awp_skip ?_; try simp) | (refine awp_exit ?_; try simp) | (refine awp_ret ?_; try simp) | (refine retP_same (by simp) ?_; simp) | (refine retP_flat (by simp) (by simp) (by simp [zAV, h1, rgAV, leastA]) ?_; simp) | (refine awp_reg ?_; simp [zAV, h1, rgAV, leastA]) | (refine awp_drawT (fun _ => false) mixed (by decide +kernel) ?_; simp [zAV, h1, rgAV, leastA]) | (refine guarded_split ?_ ?_ <;> (intro hg; simp only [hg]; simp [zAV, h1, rgAV, leastA])) | (apply awp_cond_t; focus (simp [zAV, h1, rgAV, leastA]; done)) | (apply awp_cond_f; focus (simp [zAV, h1, rgAV, leastA]; done)) | (refine awp_cond ?_; simp [zAV, h1, rgAV, leastA]; refine ⟨?_, ?_⟩ <;> intro hc))
    rfl

def hasB (z : List Rg) (a : Int) : Bool := z.any fun r => decide (r.lo ≤ a) && decide (a ≤ r.hi)
theorem hasB_here {z : List Rg} {a : Int} {i : Nat} {r : Rg} (hx : z[i]? = some r) (h1 : r.lo ≤ a) (h2 : a ≤ r.hi) : hasB z a = true := by
  unfold hasB
  rw [List.any_eq_true]
  exact ⟨r, List.mem_of_getElem? hx, by simp [h1, h2]⟩
theorem hasB_step {z : List Rg} {a : Int} {i : Nat} {r : Rg} (hx : z[i]? = some r) : hasB (z.take (i + 1)) a = (hasB (z.take i) a || (decide (r.lo ≤ a) && decide (a ≤ r.hi))) := by
  rw [List.take_add_one, hx]; simp [hasB]
theorem refHas_calls (z : List Rg) (fz : Bool) (a : Int) (hl : z.length < 2 ^ 60) : PCalls Try.prog 17 [zAV z fz, .raw (.int .u32 a)] (.raw (.bool (hasB z a))) := by
  refine pbody Try.func17 rfl (N := 28) rfl rfl (by simp) (by simp [noIds]) fun σ => ?_
  (try (first | (with_reducible refine dops_go ?_; simp [zAV]) | (with_reducible refine OKv_go ?_; simp [zAV]) | (with_reducible refine OKr_go ?_; simp [zAV]))); repeat' (first | refine awp_seq ?_ | refine awp_block ?_ | (refine awp_skip ?_; try simp) | (refine awp_exit ?_; try simp) | (refine awp_ret ?_; try simp) | (refine retP_same (by simp) ?_; simp) | (refine retP_flat (by simp) (by simp) (by simp [zAV]) ?_; simp) | (refine awp_reg ?_; simp [zAV]) | (refine awp_drawT (fun _ => false) mixed (by decide +kernel) ?_; simp [zAV]) | (refine guarded_split ?_ ?_ <;> (intro hg; simp only [hg]; simp [zAV])) | (apply awp_cond_t; focus (simp [zAV]; done)) | (apply awp_cond_f; focus (simp [zAV]; done)) | (refine awp_cond ?_; simp [zAV]; refine ⟨?_, ?_⟩ <;> intro hc))
  refine awp_loop (fun n A τ => τ = σ ∧ A 0 = zAV z fz ∧ A 1 = .raw (.int .u32 a) ∧ ∃ i : Nat, A 5 = .raw (.int .i64 i) ∧ i ≤ z.length ∧ n = z.length - i ∧ hasB (z.take i) a = false) z.length ?_ ?_
  · simp [zAV]
    exact ⟨0, by simp [hasB]⟩
  rintro n A τ ⟨rfl, a0, a1, i, a3, hi, rfl, hno⟩
  by_cases hlt : i < z.length
  · have hx : z[i]? = some z[i] := List.getElem?_eq_getElem (by omega)
    have w3 : IntKind.i64.wrap ((i : Int) + 1) = (i : Int) + 1 := wrap64 (by omega) (by omega)
    (try (first | (with_reducible refine dops_go ?_; simp [a0, a1, a3, zAV, hlt, hx, rgAV]) | (with_reducible refine OKv_go ?_; simp [a0, a1, a3, zAV, hlt, hx, rgAV]) | (with_reducible refine OKr_go ?_; simp [a0, a1, a3, zAV, hlt, hx, rgAV]))); repeat' (first | refine awp_seq ?_ | refine awp_block ?_ | (refine awp_skip ?_; try simp) | (refine awp_exit ?_; try simp) | (refine awp_ret ?_; try simp) | (refine retP_same (by simp) ?_; simp) | (refine retP_flat (by simp) (by simp) (by simp [a0, a1, a3, zAV, hlt, hx, rgAV]) ?_; simp) | (refine awp_reg ?_; simp [a0, a1, a3, zAV, hlt, hx, rgAV]) | (refine awp_drawT (fun _ => false) mixed (by decide +kernel) ?_; simp [a0, a1, a3, zAV, hlt, hx, rgAV]) | (refine guarded_split ?_ ?_ <;> (intro hg; simp only [hg]; simp [a0, a1, a3, zAV, hlt, hx, rgAV])) | (apply awp_cond_t; focus (simp [a0, a1, a3, zAV, hlt, hx, rgAV]; done)) | (apply awp_cond_f; focus (simp [a0, a1, a3, zAV, hlt, hx, rgAV]; done)) | (refine awp_cond ?_; simp [a0, a1, a3, zAV, hlt, hx, rgAV]; refine ⟨?_, ?_⟩ <;> intro hc))
    · exact hasB_here hx (by simpa using hg) hc
    · rw [w3]
      refine ⟨z.length - (i + 1), by omega, i + 1, by simp, by omega, rfl, ?_⟩
      rw [hasB_step hx, hno]
      have : ¬ a ≤ z[i].hi := by omega
      simp [this]
    · rw [w3]
      refine ⟨z.length - (i + 1), by omega, i + 1, by simp, by omega, rfl, ?_⟩
      rw [hasB_step hx, hno]
      have : ¬ z[i].lo ≤ a := by simpa using hg
      simp [this]
  · (try (first | (with_reducible refine dops_go ?_; simp [a0, a1, a3, zAV, hlt]) | (with_reducible refine OKv_go ?_; simp [a0, a1, a3, zAV, hlt]) | (with_reducible refine OKr_go ?_; simp [a0, a1, a3, zAV, hlt]))); repeat' (first | refine awp_seq ?_ | refine awp_block ?_ | (refine awp_skip ?_; try simp) | (refine awp_exit ?_; try simp) | (refine awp_ret ?_; try simp) | (refine retP_same (by simp) ?_; simp) | (refine retP_flat (by simp) (by simp) (by simp [a0, a1, a3, zAV, hlt]) ?_; simp) | (refine awp_reg ?_; simp [a0, a1, a3, zAV, hlt]) | (refine awp_drawT (fun _ => false) mixed (by decide +kernel) ?_; simp [a0, a1, a3, zAV, hlt]) | (refine guarded_split ?_ ?_ <;> (intro hg; simp only [hg]; simp [a0, a1, a3, zAV, hlt])) | (apply awp_cond_t; focus (simp [a0, a1, a3, zAV, hlt]; done)) | (apply awp_cond_f; focus (simp [a0, a1, a3, zAV, hlt]; done)) | (refine awp_cond ?_; simp [a0, a1, a3, zAV, hlt]; refine ⟨?_, ?_⟩ <;> intro hc))
    have : i = z.length := by omega
    rw [this, List.take_length] at hno
    exact hno

def countZ (z : List Rg) : Int := (z.map fun r => r.hi - r.lo + 1).sum
theorem countZ_step {z : List Rg} {i : Nat} {r : Rg} (hx : z[i]? = some r) : countZ (z.take (i + 1)) = countZ (z.take i) + (r.hi - r.lo + 1) := by
  rw [List.take_add_one, hx]; simp [countZ]
theorem countZ_bound {z : List Rg} (hz : InZ z) (ho : ∀ r ∈ z, r.lo ≤ r.hi) : 0 ≤ countZ z ∧ countZ z ≤ 4294967296 * z.length := by
  induction z with
  | nil => simp [countZ]
  | cons r z ih =>
    obtain ⟨h1, h2⟩ := ih (fun x hx => hz x (by simp [hx])) (fun x hx => ho x (by simp [hx]))
    obtain ⟨a, b, c, d⟩ := hz r (by simp)
    have e := ho r (by simp)
    have : countZ (r :: z) = (r.hi - r.lo + 1) + countZ z := by simp [countZ]
    rw [this]
    simp only [List.length_cons]
    omega
theorem countZ_take_bound {z : List Rg} (hz : InZ z) (ho : ∀ r ∈ z, r.lo ≤ r.hi) (i : Nat) (hl : z.length ≤ 2 ^ 20) : 0 ≤ countZ (z.take i) ∧ countZ (z.take i) ≤ 4294967296 * 2 ^ 20 := by
  have := countZ_bound (z := z.take i) (fun r h => hz r (List.mem_of_mem_take h)) (fun r h => ho r (List.mem_of_mem_take h))
  have h2 : (z.take i).length ≤ 2 ^ 20 := by simp; omega
  omega

theorem refCount_calls (z : List Rg) (fz : Bool) (hz : InZ z) (ho : ∀ r ∈ z, r.lo ≤ r.hi) (hl : z.length ≤ 2 ^ 20) : PCalls Try.prog 19 [zAV z fz] (.raw (.int .u64 (countZ z))) := by
  refine pbody Try.func19 rfl (N := 28) rfl rfl (by simp) (by simp [noIds]) fun σ => ?_
  (try (first | (with_reducible refine dops_go ?_; simp [zAV]) | (with_reducible refine OKv_go ?_; simp [zAV]) | (with_reducible refine OKr_go ?_; simp [zAV]))); repeat' (first | refine awp_seq ?_ | refine awp_block ?_ | (refine awp_skip ?_; try simp) | (refine awp_exit ?_; try simp) | (refine awp_ret ?_; try simp) | (refine retP_same (by simp) ?_; simp) | (refine retP_flat (by simp) (by simp) (by simp [zAV]) ?_; simp) | (refine awp_reg ?_; simp [zAV]) | (refine awp_drawT (fun _ => false) mixed (by decide +kernel) ?_; simp [zAV]) | (refine guarded_split ?_ ?_ <;> (intro hg; simp only [hg]; simp [zAV])) | (apply awp_cond_t; focus (simp [zAV]; done)) | (apply awp_cond_f; focus (simp [zAV]; done)) | (refine awp_cond ?_; simp [zAV]; refine ⟨?_, ?_⟩ <;> intro hc))
  refine awp_loop (fun n A τ => τ = σ ∧ A 0 = zAV z fz ∧ ∃ i : Nat, A 4 = .raw (.int .i64 i) ∧ A 3 = .raw (.int .u64 (countZ (z.take i))) ∧ i ≤ z.length ∧ n = z.length - i) z.length ?_ ?_
  · simp [zAV]
    exact ⟨0, by simp [countZ]⟩
  rintro n A τ ⟨rfl, a0, i, a4, a3, hi, rfl⟩
  by_cases hlt : i < z.length
  · have hx : z[i]? = some z[i] := List.getElem?_eq_getElem (by omega)
    obtain ⟨i1, i2, i3, i4⟩ := hz z[i] (List.getElem_mem _)
    have i5 := ho z[i] (List.getElem_mem _)
    have hb := countZ_take_bound hz ho i hl
    have w3 : IntKind.i64.wrap ((i : Int) + 1) = (i : Int) + 1 := wrap64 (by omega) (by omega)
    have w1 : IntKind.u64.wrap z[i].lo = z[i].lo := wrapU64 (by omega) (by omega)
    have w2 : IntKind.u64.wrap z[i].hi = z[i].hi := wrapU64 (by omega) (by omega)
    have w4 : IntKind.u64.wrap (countZ (z.take i) + z[i].hi) = countZ (z.take i) + z[i].hi := wrapU64 (by omega) (by omega)
    have w5 : IntKind.u64.wrap (countZ (z.take i) + z[i].hi - z[i].lo) = countZ (z.take i) + z[i].hi - z[i].lo := wrapU64 (by omega) (by omega)
    have w6 : IntKind.u64.wrap (countZ (z.take i) + z[i].hi - z[i].lo + 1) = countZ (z.take i) + z[i].hi - z[i].lo + 1 := wrapU64 (by omega) (by omega)
    (try (first | (with_reducible refine dops_go ?_; simp [a0, a4, a3, zAV, hlt, hx, rgAV, w1, w2, w4, w5, w6, w3]) | (with_reducible refine OKv_go ?_; simp [a0, a4, a3, zAV, hlt, hx, rgAV, w1, w2, w4, w5, w6, w3]) | (with_reducible refine OKr_go ?_; simp [a0, a4, a3, zAV, hlt, hx, rgAV, w1, w2, w4, w5, w6, w3]))); repeat' (first | refine awp_seq ?_ | refine awp_block ?_ | (refine awp_skip ?_; try simp) | (refine awp_exit ?_; try simp) | (refine awp_ret ?_; try simp) | (refine retP_same (by simp) ?_; simp) | (refine retP_flat (by simp) (by simp) (by simp [a0, a4, a3, zAV, hlt, hx, rgAV, w1, w2, w4, w5, w6, w3]) ?_; simp) | (refine awp_reg ?_; simp [a0, a4, a3, zAV, hlt, hx, rgAV, w1, w2, w4, w5, w6, w3]) | (refine awp_drawT (fun _ => false) mixed (by decide +kernel) ?_; simp [a0, a4, a3, zAV, hlt, hx, rgAV, w1, w2, w4, w5, w6, w3]) | (refine guarded_split ?_ ?_ <;> (intro hg; simp only [hg]; simp [a0, a4, a3, zAV, hlt, hx, rgAV, w1, w2, w4, w5, w6, w3])) | (apply awp_cond_t; focus (simp [a0, a4, a3, zAV, hlt, hx, rgAV, w1, w2, w4, w5, w6, w3]; done)) | (apply awp_cond_f; focus (simp [a0, a4, a3, zAV, hlt, hx, rgAV, w1, w2, w4, w5, w6, w3]; done)) | (refine awp_cond ?_; simp [a0, a4, a3, zAV, hlt, hx, rgAV, w1, w2, w4, w5, w6, w3]; refine ⟨?_, ?_⟩ <;> intro hc))
    refine ⟨z.length - (i + 1), by omega, i + 1, by simp, ?_, by omega, rfl⟩
    rw [countZ_step hx]; omega
  · (try (first | (with_reducible refine dops_go ?_; simp [a0, a4, a3, zAV, hlt]) | (with_reducible refine OKv_go ?_; simp [a0, a4, a3, zAV, hlt]) | (with_reducible refine OKr_go ?_; simp [a0, a4, a3, zAV, hlt]))); repeat' (first | refine awp_seq ?_ | refine awp_block ?_ | (refine awp_skip ?_; try simp) | (refine awp_exit ?_; try simp) | (refine awp_ret ?_; try simp) | (refine retP_same (by simp) ?_; simp) | (refine retP_flat (by simp) (by simp) (by simp [a0, a4, a3, zAV, hlt]) ?_; simp) | (refine awp_reg ?_; simp [a0, a4, a3, zAV, hlt]) | (refine awp_drawT (fun _ => false) mixed (by decide +kernel) ?_; simp [a0, a4, a3, zAV, hlt]) | (refine guarded_split ?_ ?_ <;> (intro hg; simp only [hg]; simp [a0, a4, a3, zAV, hlt])) | (apply awp_cond_t; focus (simp [a0, a4, a3, zAV, hlt]; done)) | (apply awp_cond_f; focus (simp [a0, a4, a3, zAV, hlt]; done)) | (refine awp_cond ?_; simp [a0, a4, a3, zAV, hlt]; refine ⟨?_, ?_⟩ <;> intro hc))
    have : i = z.length := by omega
    rw [this, List.take_length]
theorem count_calls (z : List Rg) (fz : Bool) (hz : InZ z) (ho : ∀ r ∈ z, r.lo ≤ r.hi) (hl : z.length ≤ 2 ^ 20) : PCalls Try.prog 18 [zAV z fz] (.raw (.int .u64 (countZ z))) := by
  refine pbody Try.func18 rfl (N := 23) rfl rfl (by simp) (by simp [noIds]) fun σ => ?_
  (try (first | (with_reducible refine dops_go ?_; simp [zAV]) | (with_reducible refine OKv_go ?_; simp [zAV]) | (with_reducible refine OKr_go ?_; simp [zAV]))); repeat' (first | refine awp_seq ?_ | refine awp_block ?_ | (refine awp_skip ?_; try simp) | (refine awp_exit ?_; try simp) | (refine awp_ret ?_; try simp) | (refine retP_same (by simp) ?_; simp) | (refine retP_flat (by simp) (by simp) (by simp [zAV]) ?_; simp) | (refine awp_reg ?_; simp [zAV]) | (refine awp_drawT (fun _ => false) mixed (by decide +kernel) ?_; simp [zAV]) | (refine guarded_split ?_ ?_ <;> (intro hg; simp only [hg]; simp [zAV])) | (apply awp_cond_t; focus (simp [zAV]; done)) | (apply awp_cond_f; focus (simp [zAV]; done)) | (refine awp_cond ?_; simp [zAV]; refine ⟨?_, ?_⟩ <;> intro hc))
  refine awp_loop (fun n A τ => Ext σ τ ∧ A 6 = zAV z fz ∧ A 7 = .raw (.int .i64 z.length) ∧ ∃ i : Nat, A 8 = .raw (.int .i64 i) ∧ A 3 = .raw (.int .u64 (countZ (z.take i))) ∧ i ≤ z.length ∧ n = z.length - i) z.length ?_ ?_
  · simp [zAV]
    exact ⟨0, by simp [countZ]⟩
  rintro n A τ ⟨hE, a6, a7, i, a8, a3, hi, rfl⟩
  by_cases hlt : i < z.length
  · have hx : z[i]? = some z[i] := List.getElem?_eq_getElem (by omega)
    obtain ⟨i1, i2, i3, i4⟩ := hz z[i] (List.getElem_mem _)
    have i5 := ho z[i] (List.getElem_mem _)
    have hb := countZ_take_bound hz ho i hl
    have w3 : IntKind.i64.wrap ((i : Int) + 1) = (i : Int) + 1 := wrap64 (by omega) (by omega)
    have w1 : IntKind.u32.wrap (z[i].hi - z[i].lo) = z[i].hi - z[i].lo := wrapU32 (by omega) (by omega)
    have w2 : IntKind.u64.wrap (z[i].hi - z[i].lo) = z[i].hi - z[i].lo := wrapU64 (by omega) (by omega)
    have w4 : IntKind.u64.wrap (z[i].hi - z[i].lo + 1) = z[i].hi - z[i].lo + 1 := wrapU64 (by omega) (by omega)
    have w5 : IntKind.u64.wrap (countZ (z.take i) + (z[i].hi - z[i].lo + 1)) = countZ (z.take i) + (z[i].hi - z[i].lo + 1) := wrapU64 (by omega) (by omega)
    (try (first | (with_reducible refine dops_go ?_; simp [a6, a7, a8, a3, zAV, hlt, hx, rgAV, w1, w2, w4, w5, w3, hE]) | (with_reducible refine OKv_go ?_; simp [a6, a7, a8, a3, zAV, hlt, hx, rgAV, w1, w2, w4, w5, w3, hE]) | (with_reducible refine OKr_go ?_; simp [a6, a7, a8, a3, zAV, hlt, hx, rgAV, w1, w2, w4, w5, w3, hE]))); repeat' (first | refine awp_seq ?_ | refine awp_block ?_ | (refine awp_skip ?_; try simp) | (refine awp_exit ?_; try simp) | (refine awp_ret ?_; try simp) | (refine retP_same (by simp) ?_; simp) | (refine retP_flat (by simp) (by simp) (by simp [a6, a7, a8, a3, zAV, hlt, hx, rgAV, w1, w2, w4, w5, w3, hE]) ?_; simp) | (refine awp_reg ?_; simp [a6, a7, a8, a3, zAV, hlt, hx, rgAV, w1, w2, w4, w5, w3, hE]) | (refine awp_drawT (fun _ => false) mixed (by decide +kernel) ?_; simp [a6, a7, a8, a3, zAV, hlt, hx, rgAV, w1, w2, w4, w5, w3, hE]) | (refine guarded_split ?_ ?_ <;> (intro hg; simp only [hg]; simp [a6, a7, a8, a3, zAV, hlt, hx, rgAV, w1, w2, w4, w5, w3, hE])) | (apply awp_cond_t; focus (simp [a6, a7, a8, a3, zAV, hlt, hx, rgAV, w1, w2, w4, w5, w3, hE]; done)) | (apply awp_cond_f; focus (simp [a6, a7, a8, a3, zAV, hlt, hx, rgAV, w1, w2, w4, w5, w3, hE]; done)) | (refine awp_cond ?_; simp [a6, a7, a8, a3, zAV, hlt, hx, rgAV, w1, w2, w4, w5, w3, hE]; refine ⟨?_, ?_⟩ <;> intro hc))
    refine ⟨z.length - (i + 1), by omega, i + 1, by simp, ?_, by omega, rfl⟩
    rw [countZ_step hx]
  · (try (first | (with_reducible refine dops_go ?_; simp [a6, a7, a8, a3, zAV, hlt, hE]) | (with_reducible refine OKv_go ?_; simp [a6, a7, a8, a3, zAV, hlt, hE]) | (with_reducible refine OKr_go ?_; simp [a6, a7, a8, a3, zAV, hlt, hE]))); repeat' (first | refine awp_seq ?_ | refine awp_block ?_ | (refine awp_skip ?_; try simp) | (refine awp_exit ?_; try simp) | (refine awp_ret ?_; try simp) | (refine retP_same (by simp) ?_; simp) | (refine retP_flat (by simp) (by simp) (by simp [a6, a7, a8, a3, zAV, hlt, hE]) ?_; simp) | (refine awp_reg ?_; simp [a6, a7, a8, a3, zAV, hlt, hE]) | (refine awp_drawT (fun _ => false) mixed (by decide +kernel) ?_; simp [a6, a7, a8, a3, zAV, hlt, hE]) | (refine guarded_split ?_ ?_ <;> (intro hg; simp only [hg]; simp [a6, a7, a8, a3, zAV, hlt, hE])) | (apply awp_cond_t; focus (simp [a6, a7, a8, a3, zAV, hlt, hE]; done)) | (apply awp_cond_f; focus (simp [a6, a7, a8, a3, zAV, hlt, hE]; done)) | (refine awp_cond ?_; simp [a6, a7, a8, a3, zAV, hlt, hE]; refine ⟨?_, ?_⟩ <;> intro hc))
    have : i = z.length := by omega
    rw [this, List.take_length]
end Go.Proofs.Ytajikhpjjbohaaa.Av

/- Zones: searching. -/
namespace Go.Proofs.Ytajikhpjjbohaaa.Av
open Go
set_option linter.unusedSimpArgs false
set_option linter.unusedVariables false
set_option maxRecDepth 100000
set_option pp.maxSteps 300

theorem isNaN_calls (k : IntKind) (a : Int) : PCalls Try.prog 46 [.raw (.int k a)] (.raw (.bool false)) := by
  refine pbody Try.func46 rfl (N := 6) rfl rfl (by simp) (by simp [noIds]) fun σ => ?_
  (try (first | (with_reducible refine dops_go ?_; simp) | (with_reducible refine OKv_go ?_; simp) | (with_reducible refine OKr_go ?_; simp))); repeat' (first | refine awp_seq ?_ | refine awp_block ?_ | (refine awp_skip ?_; try simp) | (refine awp_exit ?_; try simp) | (refine awp_ret ?_; try simp) | (refine retP_same (by simp) ?_; simp) | (refine retP_flat (by simp) (by simp) (by simp) ?_; simp) | (refine awp_reg ?_; simp) | (refine awp_drawT (fun _ => false) mixed (by decide +kernel) ?_; simp) | (refine guarded_split ?_ ?_ <;> (intro hg; simp only [hg]; simp)) | (apply awp_cond_t; focus (simp; done)) | (apply awp_cond_f; focus (simp; done)) | (refine awp_cond ?_; simp; refine ⟨?_, ?_⟩ <;> intro hc))
def cmpI (a b : Int) : Int := if a < b then -1 else if b < a then 1 else 0
theorem compare_calls (k : IntKind) (a b : Int) : PCalls Try.prog 32 [.raw (.int k a), .raw (.int k b)] (.raw (.int .i64 (cmpI a b))) := by
  refine pbody Try.func32 rfl (N := 20) rfl rfl (by simp) (by simp [noIds]) fun σ => ?_
  (try (first | (with_reducible refine dops_go ?_; simp) | (with_reducible refine OKv_go ?_; simp) | (with_reducible refine OKr_go ?_; simp))); repeat' (first | refine awp_seq ?_ | refine awp_block ?_ | (refine awp_skip ?_; try simp) | (refine awp_exit ?_; try simp) | (refine awp_ret ?_; try simp) | (refine retP_same (by simp) ?_; simp) | (refine retP_flat (by simp) (by simp) (by simp) ?_; simp) | (refine awp_reg ?_; simp) | (refine awp_drawT (fun _ => false) mixed (by decide +kernel) ?_; simp) | (refine guarded_split ?_ ?_ <;> (intro hg; simp only [hg]; simp)) | (apply awp_cond_t; focus (simp; done)) | (apply awp_cond_f; focus (simp; done)) | (refine awp_cond ?_; simp; refine ⟨?_, ?_⟩ <;> intro hc))
  refine PCalls.use (isNaN_calls k a) ?_
  (try (first | (with_reducible refine dops_go ?_; simp) | (with_reducible refine OKv_go ?_; simp) | (with_reducible refine OKr_go ?_; simp))); repeat' (first | refine awp_seq ?_ | refine awp_block ?_ | (refine awp_skip ?_; try simp) | (refine awp_exit ?_; try simp) | (refine awp_ret ?_; try simp) | (refine retP_same (by simp) ?_; simp) | (refine retP_flat (by simp) (by simp) (by simp) ?_; simp) | (refine awp_reg ?_; simp) | (refine awp_drawT (fun _ => false) mixed (by decide +kernel) ?_; simp) | (refine guarded_split ?_ ?_ <;> (intro hg; simp only [hg]; simp)) | (apply awp_cond_t; focus (simp; done)) | (apply awp_cond_f; focus (simp; done)) | (refine awp_cond ?_; simp; refine ⟨?_, ?_⟩ <;> intro hc))
  refine PCalls.use (isNaN_calls k b) ?_
  (try (first | (with_reducible refine dops_go ?_; simp [cmpI]) | (with_reducible refine OKv_go ?_; simp [cmpI]) | (with_reducible refine OKr_go ?_; simp [cmpI]))); repeat' (first | refine awp_seq ?_ | refine awp_block ?_ | (refine awp_skip ?_; try simp) | (refine awp_exit ?_; try simp) | (refine awp_ret ?_; try simp) | (refine retP_same (by simp) ?_; simp) | (refine retP_flat (by simp) (by simp) (by simp [cmpI]) ?_; simp) | (refine awp_reg ?_; simp [cmpI]) | (refine awp_drawT (fun _ => false) mixed (by decide +kernel) ?_; simp [cmpI]) | (refine guarded_split ?_ ?_ <;> (intro hg; simp only [hg]; simp [cmpI])) | (apply awp_cond_t; focus (simp [cmpI]; done)) | (apply awp_cond_f; focus (simp [cmpI]; done)) | (refine awp_cond ?_; simp [cmpI]; refine ⟨?_, ?_⟩ <;> intro hc))
  all_goals (unfold cmpI; (repeat' split) <;> omega)

theorem hasCmp_calls (r : Rg) (a : Int) : PCalls Try.prog 38 [rgAV r, .raw (.int .u32 a)] (.raw (.int .i64 (cmpI r.hi a))) := by
  refine pbody Try.func38 rfl (N := 9) rfl rfl (by simp) (by simp [noIds]) fun σ => ?_
  (try (first | (with_reducible refine dops_go ?_; simp [rgAV]) | (with_reducible refine OKv_go ?_; simp [rgAV]) | (with_reducible refine OKr_go ?_; simp [rgAV]))); repeat' (first | refine awp_seq ?_ | refine awp_block ?_ | (refine awp_skip ?_; try simp) | (refine awp_exit ?_; try simp) | (refine awp_ret ?_; try simp) | (refine retP_same (by simp) ?_; simp) | (refine retP_flat (by simp) (by simp) (by simp [rgAV]) ?_; simp) | (refine awp_reg ?_; simp [rgAV]) | (refine awp_drawT (fun _ => false) mixed (by decide +kernel) ?_; simp [rgAV]) | (refine guarded_split ?_ ?_ <;> (intro hg; simp only [hg]; simp [rgAV])) | (apply awp_cond_t; focus (simp [rgAV]; done)) | (apply awp_cond_f; focus (simp [rgAV]; done)) | (refine awp_cond ?_; simp [rgAV]; refine ⟨?_, ?_⟩ <;> intro hc))
  refine PCalls.use (compare_calls .u32 r.hi a) ?_
  (try (first | (with_reducible refine dops_go ?_; simp [rgAV]) | (with_reducible refine OKv_go ?_; simp [rgAV]) | (with_reducible refine OKr_go ?_; simp [rgAV]))); repeat' (first | refine awp_seq ?_ | refine awp_block ?_ | (refine awp_skip ?_; try simp) | (refine awp_exit ?_; try simp) | (refine awp_ret ?_; try simp) | (refine retP_same (by simp) ?_; simp) | (refine retP_flat (by simp) (by simp) (by simp [rgAV]) ?_; simp) | (refine awp_reg ?_; simp [rgAV]) | (refine awp_drawT (fun _ => false) mixed (by decide +kernel) ?_; simp [rgAV]) | (refine guarded_split ?_ ?_ <;> (intro hg; simp only [hg]; simp [rgAV])) | (apply awp_cond_t; focus (simp [rgAV]; done)) | (apply awp_cond_f; focus (simp [rgAV]; done)) | (refine awp_cond ?_; simp [rgAV]; refine ⟨?_, ?_⟩ <;> intro hc))

theorem fdiv2 (i j : Nat) : ((i : Int) + j).fdiv 2 = ((i + j) / 2 : Nat) := by
  rw [Int.fdiv_eq_ediv_of_nonneg _ (by omega)]; omega

/-- Where what is searched begins. -/
def firstGe (c : Rg → Int) (z : List Rg) : Nat := z.findIdx fun r => decide (0 ≤ c r)
theorem search_calls (g : FuncId) (c : Rg → Int) (z : List Rg) (fz : Bool) (a : Int) (hl : z.length < 2 ^ 60)
    (hg : ∀ r ∈ z, PCalls Try.prog g [rgAV r, .raw (.int .u32 a)] (.raw (.int .i64 (c r))))
    (hm : ∀ (i j : Nat) r s, i < j → z[i]? = some r → z[j]? = some s → c s < 0 → c r < 0) :
    PCalls Try.prog 37 [zAV z fz, .raw (.int .u32 a), .fn (.func g) [] []] (.tup [.raw (.int .i64 (firstGe c z)), .raw (.bool (match z[firstGe c z]? with | some r => decide (c r = 0) | none => false))]) := by
  refine pbody Try.func37 rfl (N := 49) rfl rfl (by simp) (by simp [noIds]) fun σ => ?_
  (try (first | (with_reducible refine dops_go ?_; simp [zAV]) | (with_reducible refine OKv_go ?_; simp [zAV]) | (with_reducible refine OKr_go ?_; simp [zAV]))); repeat' (first | refine awp_seq ?_ | refine awp_block ?_ | (refine awp_skip ?_; try simp) | (refine awp_exit ?_; try simp) | (refine awp_ret ?_; try simp) | (refine retP_same (by simp) ?_; simp) | (refine retP_flat (by simp) (by simp) (by simp [zAV]) ?_; simp) | (refine awp_reg ?_; simp [zAV]) | (refine awp_drawT (fun _ => false) mixed (by decide +kernel) ?_; simp [zAV]) | (refine guarded_split ?_ ?_ <;> (intro hg; simp only [hg]; simp [zAV])) | (apply awp_cond_t; focus (simp [zAV]; done)) | (apply awp_cond_f; focus (simp [zAV]; done)) | (refine awp_cond ?_; simp [zAV]; refine ⟨?_, ?_⟩ <;> intro hc))
  refine awp_loop (fun n A τ => τ = σ ∧ A 0 = zAV z fz ∧ A 1 = .raw (.int .u32 a) ∧ A 2 = .fn (.func g) [] [] ∧ A 8 = .raw (.int .i64 z.length) ∧ ∃ i j : Nat, A 9 = .raw (.int .i64 i) ∧ A 10 = .raw (.int .i64 j) ∧ i ≤ j ∧ j ≤ z.length ∧ n = j - i ∧
    (∀ k r, k < i → z[k]? = some r → c r < 0) ∧ (∀ k r, j ≤ k → z[k]? = some r → 0 ≤ c r)) z.length ?_ ?_
  · simp [zAV]
    refine ⟨0, by simp, z.length, by simp, by omega, by omega, by omega, fun k r h => by omega, fun k r h hk => ?_⟩
    have := (List.getElem?_eq_some_iff.1 hk).1; omega
  rintro n A τ ⟨rfl, a0, a1, a2, a8, i, j, a9, a10, hij, hj, rfl, hlo, hhi⟩
  by_cases hlt : i < j
  · have hh : (i + j) / 2 < z.length := by omega
    have hx : z[(i + j) / 2]? = some z[(i + j) / 2] := List.getElem?_eq_getElem hh
    have w1 : IntKind.i64.wrap ((i : Int) + j) = (i : Int) + j := wrap64 (by omega) (by omega)
    have w2 : IntKind.u64.wrap ((i : Int) + j) = (i : Int) + j := wrapU64 (by omega) (by omega)
    have w3 := fdiv2 i j
    have w4 : IntKind.i64.wrap (((i + j) / 2 : Nat) : Int) = (((i + j) / 2 : Nat) : Int) := wrap64 (by omega) (by omega)
    have w5 : IntKind.i64.wrap ((((i + j) / 2 : Nat) : Int) + 1) = ((((i + j) / 2 : Nat) : Int) + 1) := wrap64 (by omega) (by omega)
    generalize hk : (i + j) / 2 = k at *
    (try (first | (with_reducible refine dops_go ?_; simp [a0, a1, a2, a8, a9, a10, zAV, hlt, hx, w1, w2, w3, w4, w5, IntKind.bits, rgAV]) | (with_reducible refine OKv_go ?_; simp [a0, a1, a2, a8, a9, a10, zAV, hlt, hx, w1, w2, w3, w4, w5, IntKind.bits, rgAV]) | (with_reducible refine OKr_go ?_; simp [a0, a1, a2, a8, a9, a10, zAV, hlt, hx, w1, w2, w3, w4, w5, IntKind.bits, rgAV]))); repeat' (first | refine awp_seq ?_ | refine awp_block ?_ | (refine awp_skip ?_; try simp) | (refine awp_exit ?_; try simp) | (refine awp_ret ?_; try simp) | (refine retP_same (by simp) ?_; simp) | (refine retP_flat (by simp) (by simp) (by simp [a0, a1, a2, a8, a9, a10, zAV, hlt, hx, w1, w2, w3, w4, w5, IntKind.bits, rgAV]) ?_; simp) | (refine awp_reg ?_; simp [a0, a1, a2, a8, a9, a10, zAV, hlt, hx, w1, w2, w3, w4, w5, IntKind.bits, rgAV]) | (refine awp_drawT (fun _ => false) mixed (by decide +kernel) ?_; simp [a0, a1, a2, a8, a9, a10, zAV, hlt, hx, w1, w2, w3, w4, w5, IntKind.bits, rgAV]) | (refine guarded_split ?_ ?_ <;> (intro hg; simp only [hg]; simp [a0, a1, a2, a8, a9, a10, zAV, hlt, hx, w1, w2, w3, w4, w5, IntKind.bits, rgAV])) | (apply awp_cond_t; focus (simp [a0, a1, a2, a8, a9, a10, zAV, hlt, hx, w1, w2, w3, w4, w5, IntKind.bits, rgAV]; done)) | (apply awp_cond_f; focus (simp [a0, a1, a2, a8, a9, a10, zAV, hlt, hx, w1, w2, w3, w4, w5, IntKind.bits, rgAV]; done)) | (refine awp_cond ?_; simp [a0, a1, a2, a8, a9, a10, zAV, hlt, hx, w1, w2, w3, w4, w5, IntKind.bits, rgAV]; refine ⟨?_, ?_⟩ <;> intro hc))
    refine PCalls.use (hg z[k] (List.getElem_mem _)) ?_
    (try (first | (with_reducible refine dops_go ?_; simp [a0, a1, a2, a8, a9, a10, zAV, hlt, hx, w1, w2, w3, w4, w5, IntKind.bits, rgAV]) | (with_reducible refine OKv_go ?_; simp [a0, a1, a2, a8, a9, a10, zAV, hlt, hx, w1, w2, w3, w4, w5, IntKind.bits, rgAV]) | (with_reducible refine OKr_go ?_; simp [a0, a1, a2, a8, a9, a10, zAV, hlt, hx, w1, w2, w3, w4, w5, IntKind.bits, rgAV]))); repeat' (first | refine awp_seq ?_ | refine awp_block ?_ | (refine awp_skip ?_; try simp) | (refine awp_exit ?_; try simp) | (refine awp_ret ?_; try simp) | (refine retP_same (by simp) ?_; simp) | (refine retP_flat (by simp) (by simp) (by simp [a0, a1, a2, a8, a9, a10, zAV, hlt, hx, w1, w2, w3, w4, w5, IntKind.bits, rgAV]) ?_; simp) | (refine awp_reg ?_; simp [a0, a1, a2, a8, a9, a10, zAV, hlt, hx, w1, w2, w3, w4, w5, IntKind.bits, rgAV]) | (refine awp_drawT (fun _ => false) mixed (by decide +kernel) ?_; simp [a0, a1, a2, a8, a9, a10, zAV, hlt, hx, w1, w2, w3, w4, w5, IntKind.bits, rgAV]) | (refine guarded_split ?_ ?_ <;> (intro hg; simp only [hg]; simp [a0, a1, a2, a8, a9, a10, zAV, hlt, hx, w1, w2, w3, w4, w5, IntKind.bits, rgAV])) | (apply awp_cond_t; focus (simp [a0, a1, a2, a8, a9, a10, zAV, hlt, hx, w1, w2, w3, w4, w5, IntKind.bits, rgAV]; done)) | (apply awp_cond_f; focus (simp [a0, a1, a2, a8, a9, a10, zAV, hlt, hx, w1, w2, w3, w4, w5, IntKind.bits, rgAV]; done)) | (refine awp_cond ?_; simp [a0, a1, a2, a8, a9, a10, zAV, hlt, hx, w1, w2, w3, w4, w5, IntKind.bits, rgAV]; refine ⟨?_, ?_⟩ <;> intro hc))
    · refine ⟨j - (k + 1), by omega, k + 1, by simp, j, rfl, by omega, hj, rfl, fun l r h h2 => ?_, hhi⟩
      by_cases e : l = k
      · subst e
        rw [hx] at h2
        injection h2 with h2
        subst h2; exact hc
      · exact hm l k r z[k] (by omega) h2 hx hc
    · refine ⟨k - i, by omega, i, rfl, k, rfl, by omega, by omega, rfl, hlo, fun l r h h2 => ?_⟩
      by_cases e : l = k
      · subst e
        rw [hx] at h2
        injection h2 with h2
        subst h2; exact hc
      · exact Int.not_lt.1 fun h3 => absurd (hm k l z[k] r (by omega) hx h2 h3) (by omega)
  · have hij : i = j := by omega
    subst hij
    have hf : firstGe c z = i := by
      unfold firstGe
      by_cases hi : i < z.length
      · rw [List.findIdx_eq hi]
        refine ⟨by simpa using hhi i z[i] (Nat.le_refl _) (List.getElem?_eq_getElem hi), fun k hk => ?_⟩
        have := hlo k z[k] hk (List.getElem?_eq_getElem (by omega))
        simpa using this
      · have : i = z.length := by omega
        subst this
        rw [List.findIdx_eq_length]
        intro r hr
        obtain ⟨k, hk, rfl⟩ := List.mem_iff_getElem.1 hr
        have := hlo k z[k] hk (List.getElem?_eq_getElem hk)
        simpa using this
    rw [hf]
    by_cases hi : i < z.length
    · have hx : z[i]? = some z[i] := List.getElem?_eq_getElem hi
      (try (first | (with_reducible refine dops_go ?_; simp [a0, a1, a2, a8, a9, a10, zAV, hx, hi, rgAV]) | (with_reducible refine OKv_go ?_; simp [a0, a1, a2, a8, a9, a10, zAV, hx, hi, rgAV]) | (with_reducible refine OKr_go ?_; simp [a0, a1, a2, a8, a9, a10, zAV, hx, hi, rgAV]))); repeat' (first | refine awp_seq ?_ | refine awp_block ?_ | (refine awp_skip ?_; try simp) | (refine awp_exit ?_; try simp) | (refine awp_ret ?_; try simp) | (refine retP_same (by simp) ?_; simp) | (refine retP_flat (by simp) (by simp) (by simp [a0, a1, a2, a8, a9, a10, zAV, hx, hi, rgAV]) ?_; simp) | (refine awp_reg ?_; simp [a0, a1, a2, a8, a9, a10, zAV, hx, hi, rgAV]) | (refine awp_drawT (fun _ => false) mixed (by decide +kernel) ?_; simp [a0, a1, a2, a8, a9, a10, zAV, hx, hi, rgAV]) | (refine guarded_split ?_ ?_ <;> (intro hg; simp only [hg]; simp [a0, a1, a2, a8, a9, a10, zAV, hx, hi, rgAV])) | (apply awp_cond_t; focus (simp [a0, a1, a2, a8, a9, a10, zAV, hx, hi, rgAV]; done)) | (apply awp_cond_f; focus (simp [a0, a1, a2, a8, a9, a10, zAV, hx, hi, rgAV]; done)) | (refine awp_cond ?_; simp [a0, a1, a2, a8, a9, a10, zAV, hx, hi, rgAV]; refine ⟨?_, ?_⟩ <;> intro hc))
      refine PCalls.use (hg z[i] (List.getElem_mem _)) ?_
      (try (first | (with_reducible refine dops_go ?_; simp [a0, a1, a2, a8, a9, a10, zAV, hx, hi, rgAV]) | (with_reducible refine OKv_go ?_; simp [a0, a1, a2, a8, a9, a10, zAV, hx, hi, rgAV]) | (with_reducible refine OKr_go ?_; simp [a0, a1, a2, a8, a9, a10, zAV, hx, hi, rgAV]))); repeat' (first | refine awp_seq ?_ | refine awp_block ?_ | (refine awp_skip ?_; try simp) | (refine awp_exit ?_; try simp) | (refine awp_ret ?_; try simp) | (refine retP_same (by simp) ?_; simp) | (refine retP_flat (by simp) (by simp) (by simp [a0, a1, a2, a8, a9, a10, zAV, hx, hi, rgAV]) ?_; simp) | (refine awp_reg ?_; simp [a0, a1, a2, a8, a9, a10, zAV, hx, hi, rgAV]) | (refine awp_drawT (fun _ => false) mixed (by decide +kernel) ?_; simp [a0, a1, a2, a8, a9, a10, zAV, hx, hi, rgAV]) | (refine guarded_split ?_ ?_ <;> (intro hg; simp only [hg]; simp [a0, a1, a2, a8, a9, a10, zAV, hx, hi, rgAV])) | (apply awp_cond_t; focus (simp [a0, a1, a2, a8, a9, a10, zAV, hx, hi, rgAV]; done)) | (apply awp_cond_f; focus (simp [a0, a1, a2, a8, a9, a10, zAV, hx, hi, rgAV]; done)) | (refine awp_cond ?_; simp [a0, a1, a2, a8, a9, a10, zAV, hx, hi, rgAV]; refine ⟨?_, ?_⟩ <;> intro hc))
      rw [hx]
    · have hx : z[i]? = none := List.getElem?_eq_none (by omega)
      (try (first | (with_reducible refine dops_go ?_; simp [a0, a1, a2, a8, a9, a10, zAV, hx, hi, rgAV]) | (with_reducible refine OKv_go ?_; simp [a0, a1, a2, a8, a9, a10, zAV, hx, hi, rgAV]) | (with_reducible refine OKr_go ?_; simp [a0, a1, a2, a8, a9, a10, zAV, hx, hi, rgAV]))); repeat' (first | refine awp_seq ?_ | refine awp_block ?_ | (refine awp_skip ?_; try simp) | (refine awp_exit ?_; try simp) | (refine awp_ret ?_; try simp) | (refine retP_same (by simp) ?_; simp) | (refine retP_flat (by simp) (by simp) (by simp [a0, a1, a2, a8, a9, a10, zAV, hx, hi, rgAV]) ?_; simp) | (refine awp_reg ?_; simp [a0, a1, a2, a8, a9, a10, zAV, hx, hi, rgAV]) | (refine awp_drawT (fun _ => false) mixed (by decide +kernel) ?_; simp [a0, a1, a2, a8, a9, a10, zAV, hx, hi, rgAV]) | (refine guarded_split ?_ ?_ <;> (intro hg; simp only [hg]; simp [a0, a1, a2, a8, a9, a10, zAV, hx, hi, rgAV])) | (apply awp_cond_t; focus (simp [a0, a1, a2, a8, a9, a10, zAV, hx, hi, rgAV]; done)) | (apply awp_cond_f; focus (simp [a0, a1, a2, a8, a9, a10, zAV, hx, hi, rgAV]; done)) | (refine awp_cond ?_; simp [a0, a1, a2, a8, a9, a10, zAV, hx, hi, rgAV]; refine ⟨?_, ?_⟩ <;> intro hc))
      rw [hx]

theorem right_lo {z : List Rg} (h : rightB z = true) {i : Nat} {r : Rg} (hx : z[i]? = some r) : r.lo ≤ r.hi := by
  have hi := (List.getElem?_eq_some_iff.1 hx).1
  have := List.all_eq_true.1 h i (by simpa using hi)
  simp only [okAt, hx, Bool.and_eq_true, decide_eq_true_eq] at this
  exact this.1
theorem right_next {z : List Rg} (h : rightB z = true) {i : Nat} {r s : Rg} (hx : z[i]? = some r) (hy : z[i + 1]? = some s) : r.hi + 1 < s.lo := by
  have hi := (List.getElem?_eq_some_iff.1 hy).1
  have := List.all_eq_true.1 h (i + 1) (by simpa using hi)
  simp [okAt, hx, hy] at this
  exact this.2
theorem right_sorted {z : List Rg} (h : rightB z = true) {i : Nat} {r : Rg} (hx : z[i]? = some r) : ∀ (d : Nat) {s : Rg}, z[i + d + 1]? = some s → r.hi + 1 < s.lo
  | 0, s, hy => right_next h hx hy
  | d + 1, s, hy => by
    have hlt := (List.getElem?_eq_some_iff.1 hy).1
    have ht : z[i + d + 1]? = some (z[i + d + 1]'(by omega)) := List.getElem?_eq_getElem (by omega)
    have h1 := right_sorted h hx d ht
    have h2 := right_lo h ht
    have h3 := right_next h ht hy
    omega
theorem right_lt {z : List Rg} (h : rightB z = true) {i j : Nat} {r s : Rg} (hij : i < j) (hx : z[i]? = some r) (hy : z[j]? = some s) : r.hi + 1 < s.lo := by
  obtain ⟨d, rfl⟩ : ∃ d, j = i + d + 1 := ⟨j - i - 1, by omega⟩
  exact right_sorted h hx d hy
theorem cmpI_neg {a b : Int} : cmpI a b < 0 ↔ a < b := by unfold cmpI; (repeat' split) <;> omega

theorem hasB_none {z : List Rg} {a : Int} (h : ∀ (l : Nat) (r : Rg), z[l]? = some r → ¬ (r.lo ≤ a ∧ a ≤ r.hi)) : hasB z a = false := by
  unfold hasB
  rw [List.any_eq_false]
  intro r hr
  obtain ⟨l, hl⟩ := List.getElem?_of_mem hr
  have := h l r hl
  simpa using this
theorem has_calls (z : List Rg) (fz : Bool) (a : Int) (hl : z.length < 2 ^ 60) (hr : rightB z = true) : PCalls Try.prog 16 [zAV z fz, .raw (.int .u32 a)] (.raw (.bool (hasB z a))) := by
  have hm : ∀ (i j : Nat) r s, i < j → z[i]? = some r → z[j]? = some s → cmpI s.hi a < 0 → cmpI r.hi a < 0 := fun i j r s hij hx hy hc => by
    rw [cmpI_neg] at *
    have := right_lt hr hij hx hy
    have := right_lo hr hy
    omega
  have hs := search_calls 38 (fun r => cmpI r.hi a) z fz a hl (fun r _ => hasCmp_calls r a) hm
  have hbelow : ∀ l, l < firstGe (fun r => cmpI r.hi a) z → ∀ r, z[l]? = some r → r.hi < a := fun l h r hx => by
    have h2 := List.not_of_lt_findIdx (xs := z) (p := fun r => decide (0 ≤ cmpI r.hi a)) h
    obtain ⟨h3, rfl⟩ := List.getElem?_eq_some_iff.1 hx
    rw [← cmpI_neg]
    simpa using h2
  refine pbody Try.func16 rfl (N := 26) rfl rfl (by simp) (by simp [noIds]) fun σ => ?_
  generalize hk : firstGe (fun r => cmpI r.hi a) z = k at hs hbelow
  by_cases hlt : k < z.length
  · have hx : z[k]? = some z[k] := List.getElem?_eq_getElem hlt
    (try (first | (with_reducible refine dops_go ?_; simp [zAV]) | (with_reducible refine OKv_go ?_; simp [zAV]) | (with_reducible refine OKr_go ?_; simp [zAV]))); repeat' (first | refine awp_seq ?_ | refine awp_block ?_ | (refine awp_skip ?_; try simp) | (refine awp_exit ?_; try simp) | (refine awp_ret ?_; try simp) | (refine retP_same (by simp) ?_; simp) | (refine retP_flat (by simp) (by simp) (by simp [zAV]) ?_; simp) | (refine awp_reg ?_; simp [zAV]) | (refine awp_drawT (fun _ => false) mixed (by decide +kernel) ?_; simp [zAV]) | (refine guarded_split ?_ ?_ <;> (intro hg; simp only [hg]; simp [zAV])) | (apply awp_cond_t; focus (simp [zAV]; done)) | (apply awp_cond_f; focus (simp [zAV]; done)) | (refine awp_cond ?_; simp [zAV]; refine ⟨?_, ?_⟩ <;> intro hc))
    refine PCalls.use hs ?_
    (try (first | (with_reducible refine dops_go ?_; simp [zAV, hlt, hx, rgAV]) | (with_reducible refine OKv_go ?_; simp [zAV, hlt, hx, rgAV]) | (with_reducible refine OKr_go ?_; simp [zAV, hlt, hx, rgAV]))); repeat' (first | refine awp_seq ?_ | refine awp_block ?_ | (refine awp_skip ?_; try simp) | (refine awp_exit ?_; try simp) | (refine awp_ret ?_; try simp) | (refine retP_same (by simp) ?_; simp) | (refine retP_flat (by simp) (by simp) (by simp [zAV, hlt, hx, rgAV]) ?_; simp) | (refine awp_reg ?_; simp [zAV, hlt, hx, rgAV]) | (refine awp_drawT (fun _ => false) mixed (by decide +kernel) ?_; simp [zAV, hlt, hx, rgAV]) | (refine guarded_split ?_ ?_ <;> (intro hg; simp only [hg]; simp [zAV, hlt, hx, rgAV])) | (apply awp_cond_t; focus (simp [zAV, hlt, hx, rgAV]; done)) | (apply awp_cond_f; focus (simp [zAV, hlt, hx, rgAV]; done)) | (refine awp_cond ?_; simp [zAV, hlt, hx, rgAV]; refine ⟨?_, ?_⟩ <;> intro hc))
    have hge : a ≤ z[k].hi := by
      have := List.findIdx_getElem (xs := z) (p := fun r => decide (0 ≤ cmpI r.hi a)) (w := by rw [← firstGe.eq_def (fun r => cmpI r.hi a), hk]; exact hlt)
      simp only [decide_eq_true_eq] at this
      rw [← Int.not_lt, cmpI_neg] at this
      simp only [firstGe] at hk
      simp only [hk] at this
      omega
    by_cases hla : z[k].lo ≤ a
    · rw [hasB_here hx hla hge]; simp [hla]
    · rw [hasB_none (fun l r hl1 => ?_)]
      · simp [hla]
      · intro h
        rcases Nat.lt_trichotomy l k with hl2 | rfl | hl2
        · exact absurd h.2 (by have := hbelow l hl2 r hl1; omega)
        · rw [hx] at hl1; injection hl1 with hl1; subst hl1; exact hla h.1
        · have := right_lt hr hl2 hx hl1; omega
  · (try (first | (with_reducible refine dops_go ?_; simp [zAV]) | (with_reducible refine OKv_go ?_; simp [zAV]) | (with_reducible refine OKr_go ?_; simp [zAV]))); repeat' (first | refine awp_seq ?_ | refine awp_block ?_ | (refine awp_skip ?_; try simp) | (refine awp_exit ?_; try simp) | (refine awp_ret ?_; try simp) | (refine retP_same (by simp) ?_; simp) | (refine retP_flat (by simp) (by simp) (by simp [zAV]) ?_; simp) | (refine awp_reg ?_; simp [zAV]) | (refine awp_drawT (fun _ => false) mixed (by decide +kernel) ?_; simp [zAV]) | (refine guarded_split ?_ ?_ <;> (intro hg; simp only [hg]; simp [zAV])) | (apply awp_cond_t; focus (simp [zAV]; done)) | (apply awp_cond_f; focus (simp [zAV]; done)) | (refine awp_cond ?_; simp [zAV]; refine ⟨?_, ?_⟩ <;> intro hc))
    refine PCalls.use hs ?_
    (try (first | (with_reducible refine dops_go ?_; simp [zAV, hlt, rgAV]) | (with_reducible refine OKv_go ?_; simp [zAV, hlt, rgAV]) | (with_reducible refine OKr_go ?_; simp [zAV, hlt, rgAV]))); repeat' (first | refine awp_seq ?_ | refine awp_block ?_ | (refine awp_skip ?_; try simp) | (refine awp_exit ?_; try simp) | (refine awp_ret ?_; try simp) | (refine retP_same (by simp) ?_; simp) | (refine retP_flat (by simp) (by simp) (by simp [zAV, hlt, rgAV]) ?_; simp) | (refine awp_reg ?_; simp [zAV, hlt, rgAV]) | (refine awp_drawT (fun _ => false) mixed (by decide +kernel) ?_; simp [zAV, hlt, rgAV]) | (refine guarded_split ?_ ?_ <;> (intro hg; simp only [hg]; simp [zAV, hlt, rgAV])) | (apply awp_cond_t; focus (simp [zAV, hlt, rgAV]; done)) | (apply awp_cond_f; focus (simp [zAV, hlt, rgAV]; done)) | (refine awp_cond ?_; simp [zAV, hlt, rgAV]; refine ⟨?_, ?_⟩ <;> intro hc))
    refine hasB_none fun l r hl1 h => ?_
    have := (List.getElem?_eq_some_iff.1 hl1).1
    exact absurd h.2 (by have := hbelow l (by omega) r hl1; omega)
end Go.Proofs.Ytajikhpjjbohaaa.Av

/- Iterators: collecting what one yields. -/
namespace Go.Proofs.Ytajikhpjjbohaaa.Av
open Go
set_option linter.unusedSimpArgs false
set_option linter.unusedVariables false
set_option maxRecDepth 100000
set_option pp.maxSteps 300

/-- All objects but i are as they were. -/
structure But (i : Id) (σ τ : St) : Prop where
  m : ∀ l o, l ≠ i → σ.m l = some o → τ.m l = some o
  nx : ∀ s, σ.nx s ≤ τ.nx s

theorem appendSeq_calls {f : FuncId} {caps : List AV} {i : Id} {c0 : Ob} {z : List Rg} (hit : Iter Try.prog f caps i c0 (z.map rgAV)) (hl : z.length < 2 ^ 40) {σ : St} (hi : σ.m i = some c0) :
    ACalls Try.prog 49 [.sl 0 [] true, .fn (.func f) [] caps] σ fun r τ => But i σ τ ∧ ((z = [] ∧ r = .sl 0 [] true) ∨ (z ≠ [] ∧ ∃ j, r = .rs j 0 z.length ∧ j.sz = 2 ∧ τ.m j = some (.buf (z.map rgAV)) ∧ σ.m j = none)) := by
  refine abody Try.func49 rfl (N := 13) rfl rfl (by simp) ?_
  (try (first | (with_reducible refine dops_go ?_; simp) | (with_reducible refine OKv_go ?_; simp) | (with_reducible refine OKr_go ?_; simp))); repeat' (first | refine awp_seq ?_ | refine awp_block ?_ | (refine awp_skip ?_; try simp) | (refine awp_exit ?_; try simp) | (refine awp_ret ?_; try simp) | (refine retP_same (by simp) ?_; simp) | (refine retP_flat (by simp) (by simp) (by simp) ?_; simp) | (refine awp_reg ?_; simp) | (refine awp_drawT (fun _ => false) mixed (by decide +kernel) ?_; simp) | (refine guarded_split ?_ ?_ <;> (intro hg; simp only [hg]; simp)) | (apply awp_cond_t; focus (simp; done)) | (apply awp_cond_f; focus (simp; done)) | (refine awp_cond ?_; simp; refine ⟨?_, ?_⟩ <;> intro hc))
  refine awp_rangeFn (f := f) (caps := caps) (by simp) fun b lo L hlo hL => ?_
  have hLn : L.nonce = (σ.new 2 1 (.buf [.sl 0 [] true])).nx 0 := by rw [hL]
  generalize hv : (⟨2, σ.nx 2, 1⟩ : Id) = v at *
  have hσv : (σ.new 2 1 (.buf [.sl 0 [] true])).m v = some (.buf [.sl 0 [] true]) := by rw [← hv]; simp
  have hvn : σ.m v = none := by rw [← hv]; exact fresh_none _ _ _
  generalize hσ1 : σ.new 2 1 (.buf [.sl 0 [] true]) = σ1 at *
  have hE1 : Ext σ σ1 := by rw [← hσ1]; exact Ext.new _ _ _ _
  have hLm : σ1.m L = none := by rw [hL]; exact fresh_none _ _ _
  have hσL : (σ1.new 0 0 (lo .ready none)).m L = some (lo .ready none) := by rw [hL]; simp
  have hE2 : Ext σ1 (σ1.new 0 0 (lo .ready none)) := Ext.new _ _ _ _
  generalize hσ2 : σ1.new 0 0 (lo .ready none) = σ2 at *
  have hvL : v ≠ L := fun e => by rw [e, hLm] at hσv; cases hσv
  have hiv : i ≠ v := fun e => by rw [e, hvn] at hi; cases hi
  have hiL : i ≠ L := fun e => by have := hE1.m i c0 hi; rw [e, hLm] at this; cases this
  let I : Nat → St → Prop := fun k τ => But i σ τ ∧ τ.m L = some (lo .ready none) ∧ ((k = 0 ∧ τ.m v = some (.buf [.sl 0 [] true])) ∨ (0 < k ∧ ∃ j, τ.m v = some (.buf [.rs j 0 k]) ∧ τ.m j = some (.buf ((z.take k).map rgAV)) ∧ j.sz = 2 ∧ σ.m j = none ∧ j ≠ v ∧ j ≠ L ∧ j ≠ i))
  have h0 : I 0 σ2 := ⟨⟨fun l o _ h => hE2.m l o (hE1.m l o h), fun s => Nat.le_trans (hE1.nx s) (hE2.nx s)⟩, hσL, .inl ⟨rfl, hE2.m _ _ hσv⟩⟩
  refine (hit b I (fun _ => False) ?_ ?_ ?_ σ2 (hE2.m _ _ (hE1.m _ _ hi)) h0).mono ?_
  · rintro k τ τ' ⟨h1, h2, h3⟩ hE
    refine ⟨⟨fun l o hl h => hE.m l o (h1.m l o hl h), fun s => Nat.le_trans (h1.nx s) (hE.nx s)⟩, hE.m _ _ h2, ?_⟩
    rcases h3 with ⟨h3, h4⟩ | ⟨h3, j, h4, h5, h6⟩
    · exact .inl ⟨h3, hE.m _ _ h4⟩
    · exact .inr ⟨h3, j, hE.m _ _ h4, hE.m _ _ h5, h6⟩
  · rintro k τ c ⟨h1, h2, h3⟩ hne
    refine ⟨⟨fun l o hl h => by rw [set_other hl]; exact h1.m l o hl h, h1.nx⟩, by rw [set_other (Ne.symm hiL)]; exact h2, ?_⟩
    rcases h3 with ⟨h3, h4⟩ | ⟨h3, j, h4, h5, h6, h7, h8, h9, h10⟩
    · exact .inl ⟨h3, by rw [set_other (Ne.symm hiv)]; exact h4⟩
    · exact .inr ⟨h3, j, by rw [set_other (Ne.symm hiv)]; exact h4, by rw [set_other h10]; exact h5, h6, h7, h8, h9, h10⟩
  · rintro k x τ c hx ⟨h1, h2, h3⟩ hc
    obtain ⟨r, hr, rfl⟩ : ∃ r, z[k]? = some r ∧ x = rgAV r := by
      rw [List.getElem?_map] at hx
      cases hz : z[k]? with
      | none => rw [hz] at hx; cases hx
      | some r => rw [hz] at hx; injection hx with hx; exact ⟨r, rfl, hx.symm⟩
    have hkz := (List.getElem?_eq_some_iff.1 hr).1
    refine YK.of h2 hlo rfl ?_
    clear hlo hit
    (try (first | (with_reducible refine dops_go ?_; simp [rgAV, h2]) | (with_reducible refine OKv_go ?_; simp [rgAV, h2]) | (with_reducible refine OKr_go ?_; simp [rgAV, h2]))); repeat' (first | refine awp_seq ?_ | refine awp_block ?_ | (refine awp_skip ?_; try simp) | (refine awp_exit ?_; try simp) | (refine awp_ret ?_; try simp) | (refine retP_same (by simp) ?_; simp) | (refine retP_flat (by simp) (by simp) (by simp [rgAV, h2]) ?_; simp) | (refine awp_reg ?_; simp [rgAV, h2]) | (refine awp_drawT (fun _ => false) mixed (by decide +kernel) ?_; simp [rgAV, h2]) | (refine guarded_split ?_ ?_ <;> (intro hg; simp only [hg]; simp [rgAV, h2])) | (apply awp_cond_t; focus (simp [rgAV, h2]; done)) | (apply awp_cond_f; focus (simp [rgAV, h2]; done)) | (refine awp_cond ?_; simp [rgAV, h2]; refine ⟨?_, ?_⟩ <;> intro hc))
    have f1 : τ.m ⟨5, τ.nx 5, 2⟩ = none := fresh_none _ _ _
    have hrL : (⟨5, τ.nx 5, 2⟩ : Id) ≠ L := fun e => by rw [e, h2] at f1; cases f1
    generalize hs3 : ((τ.new 5 2 (.buf [.agg [.raw (.int .u32 r.lo), .raw (.int .u32 r.hi)]])).set L (lo .busy none)) = s3
    have hr3 : s3.m ⟨5, τ.nx 5, 2⟩ = some (.buf [rgAV r]) := by rw [← hs3, set_other hrL]; simp [rgAV]
    have hL3 : s3.m L = some (lo .busy none) := by rw [← hs3]; simp [h2]
    have hold3 : ∀ l o, l ≠ L → τ.m l = some o → s3.m l = some o := fun l o hl h => by rw [← hs3, set_other hl]; exact new_up _ _ h
    have hnx3 : ∀ s, τ.nx s ≤ s3.nx s := fun s => by rw [← hs3]; exact St.new_le τ 5 2 (.buf [.agg [.raw (.int .u32 r.lo), .raw (.int .u32 r.hi)]]) s
    generalize (⟨5, τ.nx 5, 2⟩ : Id) = r5 at *
    have hc3 : s3.m i = some c := hold3 _ _ hiL hc
    have fin : ∀ (k : Nat) (s5 : St) (j : Id), s5.m v ≠ none → s5.m L = some (lo .busy none) → s5.m i = some c → But i σ s5 → s5.m j = some (.buf ((z.take (k + 1)).map rgAV)) → j.sz = 2 → σ.m j = none → j ≠ v → j ≠ L → j ≠ i →
        (s5.set v (.buf [.rs j 0 (k + 1)])).m L = some (lo .busy none) ∧ I (k + 1) ((s5.set v (.buf [.rs j 0 (k + 1)])).set L (lo .ready none)) ∧ ((s5.set v (.buf [.rs j 0 (k + 1)])).set L (lo .ready none)).m i = some c := by
      intro k s5 j g1 g2 g3 g4 g5 g6 g7 g8 g9 g10
      obtain ⟨ov, hov⟩ := Option.ne_none_iff_exists'.1 g1
      have e1 : (s5.set v (.buf [.rs j 0 (k + 1)])).m L = some (lo .busy none) := by rw [set_other (Ne.symm hvL)]; exact g2
      refine ⟨e1, ⟨⟨fun l o hl ho => ?_, g4.nx⟩, ?_, .inr ⟨by omega, j, ?_, ?_, g6, g7, g8, g9, g10⟩⟩, ?_⟩
      · have h2 : l ≠ L := fun e => by rw [e] at ho; rw [hE1.m _ _ ho] at hLm; cases hLm
        have h3 : l ≠ v := fun e => by rw [e, hvn] at ho; cases ho
        rw [set_other h2, set_other h3]; exact g4.m l o hl ho
      · simp [e1]
      · rw [set_other hvL]; simp [hov]
      · rw [set_other g9, set_other g8]; exact g5
      · rw [set_other hiL, set_other hiv]; exact g3
    have hB3 : But i σ s3 := ⟨fun l o hl ho => hold3 l o (fun e => by rw [e] at ho; rw [hE1.m _ _ ho] at hLm; cases hLm) (h1.m l o hl ho), fun s => Nat.le_trans (h1.nx s) (hnx3 s)⟩
    have htake : (z.take (k + 1)).map rgAV = (z.take k).map rgAV ++ [rgAV r] := by rw [List.take_add_one, hr]; simp
    rcases h3 with ⟨rfl, hv3⟩ | ⟨hk0, j, hv3, hj3, hjs, hjn, hjv, hjL, hji⟩
    · have hv3 := hold3 _ _ hvL hv3
      (try (first | (with_reducible refine dops_go ?_; simp [rgAV, hr3, hv3]) | (with_reducible refine OKv_go ?_; simp [rgAV, hr3, hv3]) | (with_reducible refine OKr_go ?_; simp [rgAV, hr3, hv3]))); repeat' (first | refine awp_seq ?_ | refine awp_block ?_ | (refine awp_skip ?_; try simp) | (refine awp_exit ?_; try simp) | (refine awp_ret ?_; try simp) | (refine retP_same (by simp) ?_; simp) | (refine retP_flat (by simp) (by simp) (by simp [rgAV, hr3, hv3]) ?_; simp) | (refine awp_reg ?_; simp [rgAV, hr3, hv3]) | (refine awp_drawT (fun _ => false) mixed (by decide +kernel) ?_; simp [rgAV, hr3, hv3]) | (refine guarded_split ?_ ?_ <;> (intro hg; simp only [hg]; simp [rgAV, hr3, hv3])) | (apply awp_cond_t; focus (simp [rgAV, hr3, hv3]; done)) | (apply awp_cond_f; focus (simp [rgAV, hr3, hv3]; done)) | (refine awp_cond ?_; simp [rgAV, hr3, hv3]; refine ⟨?_, ?_⟩ <;> intro hc))
      generalize hs4 : s3.new 10 2 (.buf [.agg [.raw (.int .u32 r.lo), .raw (.int .u32 r.hi)]]) = s4
      have hE4 : Ext s3 s4 := by rw [← hs4]; exact Ext.new _ _ _ _
      have hf := fresh_none s4 11 2
      have hE5 := Ext.new s4 11 2 (.buf [.agg [.raw (.int .u32 r.lo), .raw (.int .u32 r.hi)]])
      have ne : ∀ l o, s3.m l = some o → (⟨11, s4.nx 11, 2⟩ : Id) ≠ l := fun l o h e => by rw [e, hE4.m _ _ h] at hf; cases hf
      refine fin 0 _ _ ?_ (hE5.m _ _ (hE4.m _ _ hL3)) (hE5.m _ _ (hE4.m _ _ hc3)) ⟨fun l o hl ho => hE5.m _ _ (hE4.m _ _ (hB3.m l o hl ho)), fun s => Nat.le_trans (hB3.nx s) (Nat.le_trans (hE4.nx s) (hE5.nx s))⟩ ?_ rfl ?_ (ne _ _ hv3) (ne _ _ hL3) (ne _ _ hc3)
      · rw [hE5.m _ _ (hE4.m _ _ hv3)]; simp
      · rw [htake]; simp [rgAV]
      · cases h : σ.m ⟨11, s4.nx 11, 2⟩ with
        | none => rfl
        | some o => exact absurd rfl (ne _ o (hB3.m _ _ (fun e => ne _ _ hc3 e) h))
    · have hv3 := hold3 _ _ hvL hv3
      have hj3 := hold3 _ _ hjL hj3
      have hmin : min k z.length = k := by omega
      have hby : (k + 1) * 8 ≤ 70368744177664 := by omega
      (try (first | (with_reducible refine dops_go ?_; simp [rgAV, hr3, hv3, hj3, hjs, hmin, hby, hjv, Ne.symm hjv]) | (with_reducible refine OKv_go ?_; simp [rgAV, hr3, hv3, hj3, hjs, hmin, hby, hjv, Ne.symm hjv]) | (with_reducible refine OKr_go ?_; simp [rgAV, hr3, hv3, hj3, hjs, hmin, hby, hjv, Ne.symm hjv]))); repeat' (first | refine awp_seq ?_ | refine awp_block ?_ | (refine awp_skip ?_; try simp) | (refine awp_exit ?_; try simp) | (refine awp_ret ?_; try simp) | (refine retP_same (by simp) ?_; simp) | (refine retP_flat (by simp) (by simp) (by simp [rgAV, hr3, hv3, hj3, hjs, hmin, hby, hjv, Ne.symm hjv]) ?_; simp) | (refine awp_reg ?_; simp [rgAV, hr3, hv3, hj3, hjs, hmin, hby, hjv, Ne.symm hjv]) | (refine awp_drawT (fun _ => false) mixed (by decide +kernel) ?_; simp [rgAV, hr3, hv3, hj3, hjs, hmin, hby, hjv, Ne.symm hjv]) | (refine guarded_split ?_ ?_ <;> (intro hg; simp only [hg]; simp [rgAV, hr3, hv3, hj3, hjs, hmin, hby, hjv, Ne.symm hjv])) | (apply awp_cond_t; focus (simp [rgAV, hr3, hv3, hj3, hjs, hmin, hby, hjv, Ne.symm hjv]; done)) | (apply awp_cond_f; focus (simp [rgAV, hr3, hv3, hj3, hjs, hmin, hby, hjv, Ne.symm hjv]; done)) | (refine awp_cond ?_; simp [rgAV, hr3, hv3, hj3, hjs, hmin, hby, hjv, Ne.symm hjv]; refine ⟨?_, ?_⟩ <;> intro hc))
      generalize hs4 : s3.new 10 2 (.buf [.agg [.raw (.int .u32 r.lo), .raw (.int .u32 r.hi)]]) = s4
      have hE4 : Ext s3 s4 := by rw [← hs4]; exact Ext.new _ _ _ _
      have hf := fresh_none (s4.del j) 11 2
      generalize hes : (List.take k (List.map rgAV z) ++ [.agg [.raw (.int .u32 r.lo), .raw (.int .u32 r.hi)]]) = es
      have hE5 := Ext.new (s4.del j) 11 2 (.buf es)
      have old : ∀ l o, l ≠ j → s3.m l = some o → (s4.del j).m l = some o := fun l o hl h => by rw [del_other hl]; exact hE4.m _ _ h
      have ne : ∀ l o, l ≠ j → s3.m l = some o → (⟨11, s4.nx 11, 2⟩ : Id) ≠ l := fun l o hl h e => by
        have := old l o hl h
        rw [← e] at this
        rw [show (⟨11, s4.nx 11, 2⟩ : Id) = ⟨11, (s4.del j).nx 11, 2⟩ from rfl, hf] at this
        cases this
      refine fin k _ _ ?_ (hE5.m _ _ (old _ _ (Ne.symm hjL) hL3)) (hE5.m _ _ (old _ _ (Ne.symm hji) hc3)) ⟨fun l o hl ho => hE5.m _ _ (old _ _ (fun e => by rw [e, hjn] at ho; cases ho) (hB3.m l o hl ho)), fun s => Nat.le_trans (hB3.nx s) (Nat.le_trans (hE4.nx s) (hE5.nx s))⟩ ?_ rfl ?_ (ne _ _ (Ne.symm hjv) hv3) (ne _ _ (Ne.symm hjL) hL3) (ne _ _ (Ne.symm hji) hc3)
      · rw [hE5.m _ _ (old _ _ (Ne.symm hjv) hv3)]; simp
      · rw [htake, List.map_take]; simp only [rgAV]; rw [← hes]
        exact new_self
      · cases h : σ.m ⟨11, s4.nx 11, 2⟩ with
        | none => rfl
        | some o => exact absurd rfl (ne _ o (fun e => by rw [e, hjn] at h; cases h) (hB3.m _ _ (fun e => ne _ _ (Ne.symm hji) hc3 e) h))
  · rintro _ τ (⟨h1, h2, h3⟩ | h)
    · refine ⟨_, _, h2, by simp, fun _ => ?_, fun c h => by cases h⟩
      have hvd : ∀ x, τ.m v = some x → (τ.del L).m v = some x := fun x h => by rw [del_other hvL]; exact h
      have hB : But i σ (τ.del L) := ⟨fun l o hl ho => by
        rw [del_other fun e => by rw [e] at ho; rw [hE1.m _ _ ho] at hLm; cases hLm]
        exact h1.m l o hl ho, h1.nx⟩
      rw [List.length_map] at h3
      rcases h3 with ⟨hk0, hv3⟩ | ⟨hk0, j, hv3, hj3, hjs, hjn, hjv, hjL, hji⟩
      · have hv3 := hvd _ hv3
        (try (first | (with_reducible refine dops_go ?_; simp [hv3]) | (with_reducible refine OKv_go ?_; simp [hv3]) | (with_reducible refine OKr_go ?_; simp [hv3]))); repeat' (first | refine awp_seq ?_ | refine awp_block ?_ | (refine awp_skip ?_; try simp) | (refine awp_exit ?_; try simp) | (refine awp_ret ?_; try simp) | (refine retP_same (by simp) ?_; simp) | (refine retP_flat (by simp) (by simp) (by simp [hv3]) ?_; simp) | (refine awp_reg ?_; simp [hv3]) | (refine awp_drawT (fun _ => false) mixed (by decide +kernel) ?_; simp [hv3]) | (refine guarded_split ?_ ?_ <;> (intro hg; simp only [hg]; simp [hv3])) | (apply awp_cond_t; focus (simp [hv3]; done)) | (apply awp_cond_f; focus (simp [hv3]; done)) | (refine awp_cond ?_; simp [hv3]; refine ⟨?_, ?_⟩ <;> intro hc))
        refine retK_of (x := .sl 0 [] true) (.inr rfl) (by simp) ⟨hB, .inl ⟨List.length_eq_zero_iff.1 hk0, rfl⟩⟩
      · have hv3 := hvd _ hv3
        (try (first | (with_reducible refine dops_go ?_; simp [hv3]) | (with_reducible refine OKv_go ?_; simp [hv3]) | (with_reducible refine OKr_go ?_; simp [hv3]))); repeat' (first | refine awp_seq ?_ | refine awp_block ?_ | (refine awp_skip ?_; try simp) | (refine awp_exit ?_; try simp) | (refine awp_ret ?_; try simp) | (refine retP_same (by simp) ?_; simp) | (refine retP_flat (by simp) (by simp) (by simp [hv3]) ?_; simp) | (refine awp_reg ?_; simp [hv3]) | (refine awp_drawT (fun _ => false) mixed (by decide +kernel) ?_; simp [hv3]) | (refine guarded_split ?_ ?_ <;> (intro hg; simp only [hg]; simp [hv3])) | (apply awp_cond_t; focus (simp [hv3]; done)) | (apply awp_cond_f; focus (simp [hv3]; done)) | (refine awp_cond ?_; simp [hv3]; refine ⟨?_, ?_⟩ <;> intro hc))
        refine retK_of (x := .rs j 0 z.length) (.inr rfl) (by simp) ⟨hB, .inr ⟨fun e => by simp [e] at hk0, j, rfl, hjs, ?_, hjn⟩⟩
        rw [del_other hjL, hj3, List.take_length]
    · exact h.elim
end Go.Proofs.Ytajikhpjjbohaaa.Av

namespace Go.Proofs.Ytajikhpjjbohaaa.Av
open Go
set_option linter.unusedSimpArgs false
set_option linter.unusedVariables false
set_option maxRecDepth 100000

theorem values1_iter {z : List Rg} {full : Bool} {b : Nat} {i : Id} {I : Nat → St → Prop} {J : St → Prop} (hz : z.length < 2 ^ 60)
    (hI : ∀ k σ τ, I k σ → Ext σ τ → I k τ)
    (hY : ∀ k σ (h : k < z.length), I k σ → YK Try.prog b [rgAV z[k]] σ fun r τ => (r = .raw (.bool true) ∧ I (k + 1) τ) ∨ (r = .raw (.bool false) ∧ J τ))
    {σ : St} (hi : σ.m i = some (.buf [zAV z full])) (h0 : I 0 σ) :
    ACalls Try.prog 45 [.fn (.yield b) [] [], .rp i 0 0] σ fun _ τ => I z.length τ ∨ J τ := by
  refine abody Try.func45 rfl (N := 16) rfl rfl (by simp) ?_
  refine awp_seq ?_
  refine awp_reg ?_
  simp [hi, zAV]
  refine awp_block ?_
  refine awp_loop (fun n A τ => ∃ k : Nat, A 0 = .fn (.yield b) [] [] ∧ A 5 = zAV z full ∧ A 6 = .raw (.int .i64 z.length) ∧ A 7 = .raw (.int .i64 k) ∧ k ≤ z.length ∧ n = z.length - k ∧ I k τ) z.length ?_ ?_
  · exact ⟨0, by simp [zAV], by simp [zAV], by simp, by simp, by omega, by omega, h0⟩
  rintro n A τ ⟨k, a0, a5, a6, a7, hk, rfl, hIk⟩
  refine awp_seq ?_
  refine awp_reg ?_
  simp [a0, a5, a6, a7]
  refine awp_seq ?_
  refine awp_cond ?_
  simp
  constructor
  · intro hlt
    refine awp_skip ?_
    simp
    refine awp_seq ?_
    refine awp_block ?_
    refine awp_seq ?_
    have hx : z[k]? = some z[k] := List.getElem?_eq_getElem (by omega)
    refine awp_reg ?_
    simp [a0, a5, a6, a7, zAV, hx, rgAV]
    refine awp_seq ?_
    refine awp_reg ?_
    simp [a0, a5, a6, a7, zAV, hx, rgAV]
    refine YK.mono ?_ (hY k _ hlt (hI _ _ _ hIk (by rw [new_set]; exact Ext.new _ _ _ _)))
    rintro r τ' (⟨rfl, h⟩ | ⟨rfl, h⟩)
    · simp [a0]
      refine awp_cond ?_
      simp
      refine awp_skip ?_
      simp
      refine awp_reg ?_
      simp [a0, a5, a6, a7]
      refine ⟨z.length - (k + 1), by omega, k + 1, ?_, by omega, rfl, h⟩
      rw [wrap64 (by omega) (by omega)]; simp
    · simp [a0]
      refine awp_cond ?_
      simp
      refine awp_ret ?_
      simp
      exact retK_of (x := .tup []) (.inr rfl) (by simp) (.inr h)
  · intro hge
    refine awp_exit ?_
    simp
    have : k = z.length := by omega
    subst this
    exact retK_of (x := .tup []) (.inl rfl) (by simp) (.inl hIk)
end Go.Proofs.Ytajikhpjjbohaaa.Av

/- Zones in plain Lean: a right zone is known by what it has; joining cuts; merging; both; not. -/
namespace Go.Proofs.Ytajikhpjjbohaaa.Av
set_option linter.unusedSimpArgs false
set_option linter.unusedVariables false

def MZ (z : List Rg) (a : Int) : Prop := ∃ r ∈ z, r.lo ≤ a ∧ a ≤ r.hi
theorem mz_nil {a : Int} : ¬ MZ [] a := fun ⟨_, h, _⟩ => by cases h
theorem mz_cons {r : Rg} {z : List Rg} {a : Int} : MZ (r :: z) a ↔ (r.lo ≤ a ∧ a ≤ r.hi) ∨ MZ z a := by
  constructor
  · rintro ⟨s, h, k⟩
    rcases List.mem_cons.1 h with rfl | h
    · exact .inl k
    · exact .inr ⟨s, h, k⟩
  · rintro (h | ⟨s, h, k⟩)
    · exact ⟨r, by simp, h⟩
    · exact ⟨s, by simp [h], k⟩
theorem mz_append {x y : List Rg} {a : Int} : MZ (x ++ y) a ↔ MZ x a ∨ MZ y a := by
  induction x with
  | nil => simp [mz_nil]
  | cons r x ih => rw [List.cons_append, mz_cons, mz_cons, ih, or_assoc]
theorem hasB_iff {z : List Rg} {a : Int} : hasB z a = true ↔ MZ z a := by
  unfold hasB MZ
  rw [List.any_eq_true]
  simp

/-- Right, beginning above b + 1. -/
def RZ : Int → List Rg → Prop
  | _, [] => True
  | b, r :: z => b < r.lo ∧ r.lo ≤ r.hi ∧ RZ (r.hi + 1) z
theorem RZ.weaken {b c : Int} (h : c ≤ b) : ∀ {z : List Rg}, RZ b z → RZ c z
  | [], _ => trivial
  | r :: z, k => ⟨by have := k.1; omega, k.2.1, k.2.2⟩
theorem RZ.gt : ∀ {z : List Rg} {b a : Int}, RZ b z → MZ z a → b < a
  | [], _, _, _, h => absurd h mz_nil
  | r :: z, b, a, k, h => by
    rcases mz_cons.1 h with h | h
    · have := k.1; omega
    · have := RZ.gt k.2.2 h; have := k.1; have := k.2.1; omega
theorem RZ.ext : ∀ {x y : List Rg} {b c : Int}, RZ b x → RZ c y → (∀ a, MZ x a ↔ MZ y a) → x = y
  | [], [], _, _, _, _, _ => rfl
  | [], s :: y, _, _, _, k, h => absurd ((h s.lo).2 (mz_cons.2 (.inl ⟨Int.le_refl _, k.2.1⟩))) mz_nil
  | r :: x, [], _, _, k, _, h => absurd ((h r.lo).1 (mz_cons.2 (.inl ⟨Int.le_refl _, k.2.1⟩))) mz_nil
  | r :: x, s :: y, b, c, k, l, h => by
    obtain ⟨k1, k2, k3⟩ := k
    obtain ⟨l1, l2, l3⟩ := l
    have gx : ∀ {a}, MZ x a → r.hi + 1 < a := fun h => RZ.gt k3 h
    have gy : ∀ {a}, MZ y a → s.hi + 1 < a := fun h => RZ.gt l3 h
    have hlo : r.lo = s.lo := by
      have h1 := (h r.lo).1 (mz_cons.2 (.inl ⟨Int.le_refl _, k2⟩))
      have h2 := (h s.lo).2 (mz_cons.2 (.inl ⟨Int.le_refl _, l2⟩))
      rcases mz_cons.1 h1 with h1 | h1 <;> rcases mz_cons.1 h2 with h2 | h2
      · omega
      · have := gx h2; omega
      · have := gy h1; omega
      · have := gx h2; have := gy h1; omega
    have hhi : r.hi = s.hi := by
      rcases Int.lt_trichotomy r.hi s.hi with hl | hl | hl
      · have h1 := (h (r.hi + 1)).2 (mz_cons.2 (.inl ⟨by omega, by omega⟩))
        rcases mz_cons.1 h1 with h1 | h1
        · omega
        · have := gx h1; omega
      · exact hl
      · have h1 := (h (s.hi + 1)).1 (mz_cons.2 (.inl ⟨by omega, by omega⟩))
        rcases mz_cons.1 h1 with h1 | h1
        · omega
        · have := gy h1; omega
    have he : r = s := Rg.ext hlo hhi
    subst he
    congr 1
    refine RZ.ext k3 l3 fun a => ⟨fun ha => ?_, fun ha => ?_⟩
    · rcases mz_cons.1 ((h a).1 (mz_cons.2 (.inr ha))) with h1 | h1
      · have := gx ha; omega
      · exact h1
    · rcases mz_cons.1 ((h a).2 (mz_cons.2 (.inr ha))) with h1 | h1
      · have := gy ha; omega
      · exact h1

theorem rz_of : ∀ (z : List Rg) (b : Int), (∀ (i : Nat) (r : Rg), z[i]? = some r → r.lo ≤ r.hi) → (∀ (i : Nat) (r s : Rg), z[i]? = some r → z[i + 1]? = some s → r.hi + 1 < s.lo) → (∀ r : Rg, z[0]? = some r → b < r.lo) → RZ b z
  | [], _, _, _, _ => trivial
  | r :: z, b, h1, h2, h3 => ⟨h3 r rfl, h1 0 r rfl, rz_of z _ (fun i s h => h1 (i + 1) s (by simpa using h)) (fun i s t h k => h2 (i + 1) s t (by simpa using h) (by simpa using k)) fun s h => h2 0 r s rfl (by simpa using h)⟩
theorem rz_right {z : List Rg} (hz : InZ z) (h : rightB z = true) : RZ (-1) z :=
  rz_of z _ (fun i r hx => right_lo h hx) (fun i r s hx hy => right_next h hx hy) fun r hx => by have := (hz r (List.mem_of_getElem? hx)).1; omega
theorem RZ.at : ∀ {z : List Rg} {b : Int}, RZ b z → ∀ i r, z[i]? = some r → b < r.lo ∧ r.lo ≤ r.hi ∧ ∀ s, z[i + 1]? = some s → r.hi + 1 < s.lo
  | [], _, _, _, _, h => by simp at h
  | r :: z, b, k, 0, s, h => by
    simp at h; subst h
    refine ⟨k.1, k.2.1, fun s hs => ?_⟩
    cases z with
    | nil => simp at hs
    | cons t z => simp at hs; subst hs; exact k.2.2.1
  | r :: z, b, k, i + 1, s, h => by
    have := RZ.at k.2.2 i s (by simpa using h)
    refine ⟨by have := k.1; have := k.2.1; omega, this.2.1, fun t ht => this.2.2 t (by simpa using ht)⟩
theorem right_rz {z : List Rg} {b : Int} (h : RZ b z) : rightB z = true := rightB_true fun i hi => by
  have hx : z[i]? = some z[i] := List.getElem?_eq_getElem hi
  obtain ⟨_, h1, _⟩ := h.at i _ hx
  simp only [okAt, hx]
  cases i with
  | zero => simp [h1]
  | succ k =>
    have hy : z[k]? = some z[k] := List.getElem?_eq_getElem (by omega)
    have := (h.at k _ hy).2.2 _ hx
    simp [h1, hy, this]

/-! ### Merging what is sorted -/
def mg : Rg → List Rg → List Rg
  | r, [] => [r]
  | r, x :: l => if x.lo ≤ r.hi + 1 then mg ⟨r.lo, max r.hi x.hi⟩ l else r :: mg x l
def mergeZ : List Rg → List Rg
  | [] => []
  | r :: l => mg r l
theorem mg_spec : ∀ (l : List Rg) (r : Rg) (b : Int), b < r.lo → r.lo ≤ r.hi → (∀ x ∈ l, r.lo ≤ x.lo) → (∀ x ∈ l, x.lo ≤ x.hi) → l.Pairwise (fun x y => x.lo ≤ y.lo) →
    RZ b (mg r l) ∧ ∀ a, MZ (mg r l) a ↔ (r.lo ≤ a ∧ a ≤ r.hi) ∨ MZ l a
  | [], r, b, h1, h2, _, _, _ => ⟨⟨h1, h2, trivial⟩, fun a => mz_cons⟩
  | x :: l, r, b, h1, h2, h3, h4, h5 => by
    have hx := h3 x (by simp)
    have hxo := h4 x (by simp)
    rw [List.pairwise_cons] at h5
    unfold mg
    split
    · rename_i hle
      obtain ⟨q1, q2⟩ := mg_spec l ⟨r.lo, max r.hi x.hi⟩ b h1 (by simp only []; omega) (fun y hy => h3 y (by simp [hy])) (fun y hy => h4 y (by simp [hy])) h5.2
      refine ⟨q1, fun a => ?_⟩
      rw [q2, mz_cons]
      simp only []
      constructor
      · rintro (h | h)
        · by_cases a ≤ r.hi
          · exact .inl ⟨h.1, by assumption⟩
          · exact .inr (.inl ⟨by omega, by omega⟩)
        · exact .inr (.inr h)
      · rintro (h | h | h)
        · exact .inl ⟨h.1, by omega⟩
        · exact .inl ⟨by omega, by omega⟩
        · exact .inr h
    · rename_i hle
      obtain ⟨q1, q2⟩ := mg_spec l x (r.hi + 1) (by omega) hxo (fun y hy => h5.1 y hy) (fun y hy => h4 y (by simp [hy])) h5.2
      refine ⟨⟨h1, h2, q1⟩, fun a => ?_⟩
      rw [mz_cons, q2, mz_cons]
theorem mg_in : ∀ (l : List Rg) (r : Rg), r.In → InZ l → InZ (mg r l)
  | [], r, h, _ => by intro s hs; simp [mg] at hs; subst hs; exact h
  | x :: l, r, h, k => by
    have hx := k x (by simp)
    unfold mg
    split
    · refine mg_in l _ ⟨h.1, h.2.1, ?_, ?_⟩ fun y hy => k y (by simp [hy])
      · have := h.2.2.1; simp only []; omega
      · have := h.2.2.2; have := hx.2.2.2; simp only []; omega
    · intro s hs
      rcases List.mem_cons.1 hs with rfl | hs
      · exact h
      · exact mg_in l x hx (fun y hy => k y (by simp [hy])) s hs
theorem mg_len : ∀ (l : List Rg) (r : Rg), (mg r l).length ≤ l.length + 1
  | [], r => by simp [mg]
  | x :: l, r => by
    unfold mg
    split
    · have := mg_len l ⟨r.lo, max r.hi x.hi⟩; simp; omega
    · have := mg_len l x; simp; omega
theorem mergeZ_spec {l : List Rg} (hl : InZ l) (ho : ∀ x ∈ l, x.lo ≤ x.hi) (hs : l.Pairwise fun x y => x.lo ≤ y.lo) : RZ (-1) (mergeZ l) ∧ (∀ a, MZ (mergeZ l) a ↔ MZ l a) ∧ InZ (mergeZ l) ∧ (mergeZ l).length ≤ l.length := by
  cases l with
  | nil => exact ⟨trivial, fun a => Iff.rfl, (fun r h => by cases h), Nat.le_refl _⟩
  | cons r l =>
    rw [List.pairwise_cons] at hs
    obtain ⟨q1, q2⟩ := mg_spec l r (-1) (by have := (hl r (by simp)).1; omega) (ho r (by simp)) hs.1 (fun x hx => ho x (by simp [hx])) hs.2
    exact ⟨q1, fun a => by rw [mz_cons]; exact q2 a, mg_in l r (hl r (by simp)) fun x hx => hl x (by simp [hx]), by simpa [mergeZ] using mg_len l r⟩

/-! ### Both, and not -/
def andZ : List Rg → List Rg → List Rg
  | r :: x, s :: y => (if max r.lo s.lo ≤ min r.hi s.hi then [⟨max r.lo s.lo, min r.hi s.hi⟩] else []) ++ if r.hi < s.hi then andZ x (s :: y) else andZ (r :: x) y
  | _, _ => []
termination_by x y => x.length + y.length
theorem andZ_spec : ∀ (n : Nat) (x y : List Rg) (b c : Int), x.length + y.length ≤ n → RZ b x → RZ c y → RZ (max b c) (andZ x y) ∧ (∀ a, MZ (andZ x y) a ↔ MZ x a ∧ MZ y a) ∧ (InZ x → InZ y → InZ (andZ x y)) ∧ (andZ x y).length ≤ x.length + y.length
  | _, [], y, _, _, _, _, _ => by rw [andZ.eq_def]; exact ⟨trivial, fun a => ⟨fun h => absurd h mz_nil, fun h => absurd h.1 mz_nil⟩, (fun _ _ _ h => by cases h), by simp⟩
  | _, r :: x, [], _, _, _, _, _ => by rw [andZ.eq_def]; exact ⟨trivial, fun a => ⟨fun h => absurd h mz_nil, fun h => absurd h.2 mz_nil⟩, (fun _ _ _ h => by cases h), by simp⟩
  | 0, r :: x, s :: y, _, _, h, _, _ => by simp at h
  | n + 1, r :: x, s :: y, b, c, hn, hx, hy => by
    rw [andZ]
    obtain ⟨x1, x2, x3⟩ := id hx
    obtain ⟨y1, y2, y3⟩ := id hy
    simp only [List.length_cons] at hn
    have hrec : ∃ z, (if r.hi < s.hi then andZ x (s :: y) else andZ (r :: x) y) = z ∧ RZ (max b c) z ∧ RZ (min r.hi s.hi + 1) z ∧ (∀ a, MZ z a ↔ (MZ (r :: x) a ∧ MZ (s :: y) a) ∧ min r.hi s.hi < a) ∧ (InZ (r :: x) → InZ (s :: y) → InZ z) ∧ z.length ≤ x.length + y.length + 1 := by
      refine ⟨_, rfl, ?_⟩
      split
      · rename_i hlt
        obtain ⟨q1, q2, q3, q4⟩ := andZ_spec n x (s :: y) (r.hi + 1) c (by simp; omega) x3 hy
        refine ⟨q1.weaken (by omega), q1.weaken (by omega), fun a => ?_, fun h1 h2 => q3 (fun t ht => h1 t (by simp [ht])) h2, by simp at q4; omega⟩
        rw [q2, mz_cons (r := r)]
        constructor
        · rintro ⟨h1, h2⟩; have := RZ.gt x3 h1; exact ⟨⟨.inr h1, h2⟩, by omega⟩
        · rintro ⟨⟨h1 | h1, h2⟩, h3⟩
          · omega
          · exact ⟨h1, h2⟩
      · rename_i hlt
        obtain ⟨q1, q2, q3, q4⟩ := andZ_spec n (r :: x) y b (s.hi + 1) (by simp; omega) hx y3
        refine ⟨q1.weaken (by omega), q1.weaken (by omega), fun a => ?_, fun h1 h2 => q3 h1 (fun t ht => h2 t (by simp [ht])), by simp at q4; omega⟩
        rw [q2, mz_cons (r := s)]
        constructor
        · rintro ⟨h1, h2⟩; have := RZ.gt y3 h2; exact ⟨⟨h1, .inr h2⟩, by omega⟩
        · rintro ⟨⟨h1, h2 | h2⟩, h3⟩
          · omega
          · exact ⟨h1, h2⟩
    obtain ⟨z, hz, p1, p2, p3, p4, p5⟩ := hrec
    rw [hz]
    split
    · rename_i hq
      refine ⟨⟨by simp only []; omega, hq, p2⟩, fun a => ?_, fun h1 h2 => ?_, by simp; omega⟩
      · rw [List.singleton_append, mz_cons, p3]
        simp only []
        constructor
        · rintro (h | h)
          · exact ⟨mz_cons.2 (.inl (by omega)), mz_cons.2 (.inl (by omega))⟩
          · exact h.1
        · rintro ⟨h1, h2⟩
          by_cases hlt : min r.hi s.hi < a
          · exact .inr ⟨⟨h1, h2⟩, hlt⟩
          · refine .inl ⟨?_, by omega⟩
            rcases mz_cons.1 h1 with k1 | k1
            · rcases mz_cons.1 h2 with k2 | k2
              · omega
              · have := RZ.gt y3 k2; omega
            · have := RZ.gt x3 k1; omega
      · intro t ht
        simp only [List.singleton_append, List.mem_cons] at ht
        rcases ht with rfl | ht
        · have a1 := h1 r (by simp); have a2 := h2 s (by simp)
          unfold Rg.In at a1 a2 ⊢; simp only []; omega
        · exact p4 h1 h2 t ht
    · rename_i hq
      refine ⟨p1, fun a => ?_, p4, by simp; omega⟩
      rw [List.nil_append, p3]
      constructor
      · exact fun h => h.1
      · rintro ⟨h1, h2⟩
        refine ⟨⟨h1, h2⟩, ?_⟩
        rcases mz_cons.1 h1 with k1 | k1
        · rcases mz_cons.1 h2 with k2 | k2
          · omega
          · have := RZ.gt y3 k2; omega
        · have := RZ.gt x3 k1; omega

def notZ : Int → List Rg → List Rg
  | b, [] => if b ≤ 4294967295 then [⟨b, 4294967295⟩] else []
  | b, r :: z => (if b < r.lo then [⟨b, r.lo - 1⟩] else []) ++ notZ (r.hi + 1) z
theorem notZ_spec : ∀ (z : List Rg) (b : Int), RZ (b - 1) z → InZ z → 0 ≤ b → RZ (b - 1) (notZ b z) ∧ (∀ a, MZ (notZ b z) a ↔ (b ≤ a ∧ a < 4294967296) ∧ ¬ MZ z a) ∧ InZ (notZ b z) ∧ (notZ b z).length ≤ z.length + 1
  | [], b, _, _, h0 => by
    unfold notZ
    split
    · rename_i h
      refine ⟨⟨by simp only []; omega, h, trivial⟩, fun a => ?_, fun r hr => ?_, by simp⟩
      · rw [mz_cons]; simp only []
        constructor
        · rintro (h | h)
          · exact ⟨by omega, mz_nil⟩
          · exact absurd h mz_nil
        · exact fun h => .inl (by omega)
      · simp at hr; subst hr; unfold Rg.In; simp only []; omega
    · exact ⟨trivial, fun a => ⟨fun h => absurd h mz_nil, fun h => by omega⟩, (fun r hr => by cases hr), by simp⟩
  | r :: z, b, hz, hi, h0 => by
    obtain ⟨z1, z2, z3⟩ := hz
    have hr := hi r (by simp)
    obtain ⟨q1, q2, q3, q4⟩ := notZ_spec z (r.hi + 1) (z3.weaken (by omega)) (fun s hs => hi s (by simp [hs])) (by unfold Rg.In at hr; omega)
    unfold notZ
    have key : ∀ a, (b ≤ a ∧ a < 4294967296) ∧ ¬ MZ (r :: z) a ↔ (b ≤ a ∧ a < r.lo) ∨ ((r.hi + 1 ≤ a ∧ a < 4294967296) ∧ ¬ MZ z a) := fun a => by
      rw [mz_cons]
      constructor
      · rintro ⟨h1, h2⟩
        by_cases h : a < r.lo
        · exact .inl ⟨h1.1, h⟩
        · exact .inr ⟨⟨by omega, h1.2⟩, fun k => h2 (.inr k)⟩
      · rintro (h | h)
        · refine ⟨⟨h.1, by unfold Rg.In at hr; omega⟩, ?_⟩
          rintro (k | k)
          · omega
          · have := RZ.gt z3 k; omega
        · refine ⟨⟨by omega, h.1.2⟩, ?_⟩
          rintro (k | k)
          · omega
          · exact h.2 k
    split
    · rename_i h
      refine ⟨⟨by simp only []; omega, by simp only []; omega, q1.weaken (by simp only []; omega)⟩, fun a => ?_, fun s hs => ?_, by simp; omega⟩
      · rw [List.singleton_append, mz_cons, q2, key]; simp only []
        constructor
        · rintro (h | h)
          · exact .inl (by omega)
          · exact .inr h
        · rintro (h | h)
          · exact .inl (by omega)
          · exact .inr h
      · simp only [List.singleton_append, List.mem_cons] at hs
        rcases hs with rfl | hs
        · unfold Rg.In at hr ⊢; simp only []; omega
        · exact q3 s hs
    · rename_i h
      refine ⟨q1.weaken (by omega), fun a => ?_, q3, by simp; omega⟩
      rw [List.nil_append, q2, key]
      constructor
      · exact .inr
      · rintro (h | h)
        · omega
        · exact h
end Go.Proofs.Ytajikhpjjbohaaa.Av
