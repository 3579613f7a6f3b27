/- The queries' laws: the program walked, and plain laws of what it computes. Part 7 of 14: AvTy, AvN1, AvN3, AvN12, AvN8, AvN9, AvN13, AvN14. -/
import Derived.Test.YtanimmdlgmkmkaaNet6
import Derived.Test.YtanimmdlgmkmkaaProg

/- The facts on this program's types and functions that the abstract layer asks for. -/
namespace Go.Proofs.Ytanimmdlgmkmkaa.Av
open Go

@[simp] theorem tsz1 : tsz Try.prog 1 = some 1 := by kernel_rfl
@[simp] theorem tby1 : tbytes Try.prog 1 = some 8 := by kernel_rfl
@[simp] theorem tze1 : tzero Try.prog 1 = some .nilFunc := by kernel_rfl
@[simp] theorem tag1 : tagg Try.prog 1 = some false := by simp [tagg, Try.underlying1]
@[simp] theorem arr1 : arrOf Try.prog 1 = none := by simp [arrOf, Try.underlying1]
@[simp] theorem tsz2 : tsz Try.prog 2 = some 1 := by kernel_rfl
@[simp] theorem tby2 : tbytes Try.prog 2 = some 8 := by kernel_rfl
@[simp] theorem tze2 : tzero Try.prog 2 = some (.int .i64 (0)) := by kernel_rfl
@[simp] theorem tag2 : tagg Try.prog 2 = some false := by simp [tagg, Try.underlying2]
@[simp] theorem arr2 : arrOf Try.prog 2 = none := by simp [arrOf, Try.underlying2]
@[simp] theorem uin2 : uint Try.prog 2 = some .i64 := by kernel_rfl
@[simp] theorem pla2 : plainT Try.prog 2 = true := by kernel_rfl
@[simp] theorem tsz3 : tsz Try.prog 3 = some 1 := by kernel_rfl
@[simp] theorem tby3 : tbytes Try.prog 3 = some 8 := by kernel_rfl
@[simp] theorem tze3 : tzero Try.prog 3 = some (.int .i64 (0)) := by kernel_rfl
@[simp] theorem tag3 : tagg Try.prog 3 = some false := by simp [tagg, Try.underlying3]
@[simp] theorem arr3 : arrOf Try.prog 3 = none := by simp [arrOf, Try.underlying3]
@[simp] theorem uin3 : uint Try.prog 3 = some .i64 := by kernel_rfl
@[simp] theorem pla3 : plainT Try.prog 3 = true := by kernel_rfl
@[simp] theorem tsz4 : tsz Try.prog 4 = some 1 := by kernel_rfl
@[simp] theorem tby4 : tbytes Try.prog 4 = some 1 := by kernel_rfl
@[simp] theorem tze4 : tzero Try.prog 4 = some (.bool false) := by kernel_rfl
@[simp] theorem tag4 : tagg Try.prog 4 = some false := by simp [tagg, Try.underlying4]
@[simp] theorem arr4 : arrOf Try.prog 4 = none := by simp [arrOf, Try.underlying4]
@[simp] theorem ubo4 : ubool Try.prog 4 = true := by kernel_rfl
@[simp] theorem pla4 : plainT Try.prog 4 = true := by kernel_rfl
@[simp] theorem tsz5 : tsz Try.prog 5 = some 1 := by kernel_rfl
@[simp] theorem tby5 : tbytes Try.prog 5 = some 1 := by kernel_rfl
@[simp] theorem tze5 : tzero Try.prog 5 = some (.int .u8 (0)) := by kernel_rfl
@[simp] theorem tag5 : tagg Try.prog 5 = some false := by simp [tagg, Try.underlying5]
@[simp] theorem arr5 : arrOf Try.prog 5 = none := by simp [arrOf, Try.underlying5]
@[simp] theorem uin5 : uint Try.prog 5 = some .u8 := by kernel_rfl
@[simp] theorem pla5 : plainT Try.prog 5 = true := by kernel_rfl
@[simp] theorem tsz6 : tsz Try.prog 6 = some 1 := by kernel_rfl
@[simp] theorem tby6 : tbytes Try.prog 6 = some 1 := by kernel_rfl
@[simp] theorem tze6 : tzero Try.prog 6 = some (.int .u8 (0)) := by kernel_rfl
@[simp] theorem tag6 : tagg Try.prog 6 = some false := by simp [tagg, Try.underlying6]
@[simp] theorem arr6 : arrOf Try.prog 6 = none := by simp [arrOf, Try.underlying6]
@[simp] theorem uin6 : uint Try.prog 6 = some .u8 := by kernel_rfl
@[simp] theorem pla6 : plainT Try.prog 6 = true := by kernel_rfl
@[simp] theorem tsz7 : tsz Try.prog 7 = some 4 := by kernel_rfl
@[simp] theorem tby7 : tbytes Try.prog 7 = some 24 := by kernel_rfl
@[simp] theorem tze7 : tzero Try.prog 7 = some (.agg #[(.int .i64 (0)), (.int .i64 (0)), (.bool false), (.int .u8 (0))]) := by kernel_rfl
@[simp] theorem tag7 : tagg Try.prog 7 = some true := by simp [tagg, Try.underlying7]
@[simp] theorem arr7 : arrOf Try.prog 7 = none := by simp [arrOf, Try.underlying7]
@[simp] theorem fsz7 : fieldsSized Try.prog 7 = true := by kernel_rfl
@[simp] theorem wid7 : wideT Try.prog 7 = true := by kernel_rfl
@[simp] theorem fld7_0 : fieldOf Try.prog 7 0 = some (2, 0) := by kernel_rfl
@[simp] theorem fld7_1 : fieldOf Try.prog 7 1 = some (3, 1) := by kernel_rfl
@[simp] theorem fld7_2 : fieldOf Try.prog 7 2 = some (4, 2) := by kernel_rfl
@[simp] theorem fld7_3 : fieldOf Try.prog 7 3 = some (6, 3) := by kernel_rfl
@[simp] theorem eqg7 : Try.prog.eqGuardType Try.prog.depth 7 = false := by kernel_rfl
@[simp] theorem tsz8 : tsz Try.prog 8 = some 4 := by kernel_rfl
@[simp] theorem tby8 : tbytes Try.prog 8 = some 24 := by kernel_rfl
@[simp] theorem tze8 : tzero Try.prog 8 = some (.agg #[(.int .i64 (0)), (.int .i64 (0)), (.bool false), (.int .u8 (0))]) := by kernel_rfl
@[simp] theorem tag8 : tagg Try.prog 8 = some true := by simp [tagg, Try.underlying8]
@[simp] theorem arr8 : arrOf Try.prog 8 = none := by simp [arrOf, Try.underlying8]
@[simp] theorem fsz8 : fieldsSized Try.prog 8 = true := by kernel_rfl
@[simp] theorem wid8 : wideT Try.prog 8 = true := by kernel_rfl
@[simp] theorem fld8_0 : fieldOf Try.prog 8 0 = some (2, 0) := by kernel_rfl
@[simp] theorem fld8_1 : fieldOf Try.prog 8 1 = some (3, 1) := by kernel_rfl
@[simp] theorem fld8_2 : fieldOf Try.prog 8 2 = some (4, 2) := by kernel_rfl
@[simp] theorem fld8_3 : fieldOf Try.prog 8 3 = some (6, 3) := by kernel_rfl
@[simp] theorem eqg8 : Try.prog.eqGuardType Try.prog.depth 8 = false := by kernel_rfl
@[simp] theorem tsz9 : tsz Try.prog 9 = some 1 := by kernel_rfl
@[simp] theorem tby9 : tbytes Try.prog 9 = some 16 := by kernel_rfl
@[simp] theorem tze9 : tzero Try.prog 9 = some (.string ⟨#[]⟩) := by kernel_rfl
@[simp] theorem tag9 : tagg Try.prog 9 = some false := by simp [tagg, Try.underlying9]
@[simp] theorem arr9 : arrOf Try.prog 9 = none := by simp [arrOf, Try.underlying9]
@[simp] theorem ust9 : ustr Try.prog 9 = true := by kernel_rfl
@[simp] theorem pla9 : plainT Try.prog 9 = true := by kernel_rfl
@[simp] theorem tsz10 : tsz Try.prog 10 = some 1 := by kernel_rfl
@[simp] theorem tby10 : tbytes Try.prog 10 = some 16 := by kernel_rfl
@[simp] theorem tze10 : tzero Try.prog 10 = some (.string ⟨#[]⟩) := by kernel_rfl
@[simp] theorem tag10 : tagg Try.prog 10 = some false := by simp [tagg, Try.underlying10]
@[simp] theorem arr10 : arrOf Try.prog 10 = none := by simp [arrOf, Try.underlying10]
@[simp] theorem ust10 : ustr Try.prog 10 = true := by kernel_rfl
@[simp] theorem pla10 : plainT Try.prog 10 = true := by kernel_rfl
@[simp] theorem tsz11 : tsz Try.prog 11 = some 1 := by kernel_rfl
@[simp] theorem tby11 : tbytes Try.prog 11 = some 16 := by kernel_rfl
@[simp] theorem tze11 : tzero Try.prog 11 = some (.string ⟨#[]⟩) := by kernel_rfl
@[simp] theorem tag11 : tagg Try.prog 11 = some false := by simp [tagg, Try.underlying11]
@[simp] theorem arr11 : arrOf Try.prog 11 = none := by simp [arrOf, Try.underlying11]
@[simp] theorem ust11 : ustr Try.prog 11 = true := by kernel_rfl
@[simp] theorem pla11 : plainT Try.prog 11 = true := by kernel_rfl
@[simp] theorem tsz12 : tsz Try.prog 12 = some 1 := by kernel_rfl
@[simp] theorem tby12 : tbytes Try.prog 12 = some 8 := by kernel_rfl
@[simp] theorem tze12 : tzero Try.prog 12 = some (.int .u64 (0)) := by kernel_rfl
@[simp] theorem tag12 : tagg Try.prog 12 = some false := by simp [tagg, Try.underlying12]
@[simp] theorem arr12 : arrOf Try.prog 12 = none := by simp [arrOf, Try.underlying12]
@[simp] theorem uin12 : uint Try.prog 12 = some .u64 := by kernel_rfl
@[simp] theorem pla12 : plainT Try.prog 12 = true := by kernel_rfl
@[simp] theorem tsz13 : tsz Try.prog 13 = some 2 := by kernel_rfl
@[simp] theorem tby13 : tbytes Try.prog 13 = some 24 := by kernel_rfl
@[simp] theorem tze13 : tzero Try.prog 13 = some (.agg #[(.string ⟨#[]⟩), (.int .u64 (0))]) := by kernel_rfl
@[simp] theorem tag13 : tagg Try.prog 13 = some true := by simp [tagg, Try.underlying13]
@[simp] theorem arr13 : arrOf Try.prog 13 = none := by simp [arrOf, Try.underlying13]
@[simp] theorem fsz13 : fieldsSized Try.prog 13 = true := by kernel_rfl
@[simp] theorem wid13 : wideT Try.prog 13 = true := by kernel_rfl
@[simp] theorem fld13_0 : fieldOf Try.prog 13 0 = some (9, 0) := by kernel_rfl
@[simp] theorem fld13_1 : fieldOf Try.prog 13 1 = some (12, 1) := by kernel_rfl
@[simp] theorem eqg13 : Try.prog.eqGuardType Try.prog.depth 13 = false := by kernel_rfl
@[simp] theorem tsz14 : tsz Try.prog 14 = some 2 := by kernel_rfl
@[simp] theorem tby14 : tbytes Try.prog 14 = some 24 := by kernel_rfl
@[simp] theorem tze14 : tzero Try.prog 14 = some (.agg #[(.string ⟨#[]⟩), (.int .u64 (0))]) := by kernel_rfl
@[simp] theorem tag14 : tagg Try.prog 14 = some true := by simp [tagg, Try.underlying14]
@[simp] theorem arr14 : arrOf Try.prog 14 = none := by simp [arrOf, Try.underlying14]
@[simp] theorem fsz14 : fieldsSized Try.prog 14 = true := by kernel_rfl
@[simp] theorem wid14 : wideT Try.prog 14 = true := by kernel_rfl
@[simp] theorem fld14_0 : fieldOf Try.prog 14 0 = some (9, 0) := by kernel_rfl
@[simp] theorem fld14_1 : fieldOf Try.prog 14 1 = some (12, 1) := by kernel_rfl
@[simp] theorem eqg14 : Try.prog.eqGuardType Try.prog.depth 14 = false := by kernel_rfl
@[simp] theorem tsz15 : tsz Try.prog 15 = some 1 := by kernel_rfl
@[simp] theorem tby15 : tbytes Try.prog 15 = some 8 := by kernel_rfl
@[simp] theorem tze15 : tzero Try.prog 15 = some (.pointer none) := by kernel_rfl
@[simp] theorem tag15 : tagg Try.prog 15 = some false := by simp [tagg, Try.underlying15]
@[simp] theorem arr15 : arrOf Try.prog 15 = none := by simp [arrOf, Try.underlying15]
@[simp] theorem upt15 : uptr Try.prog 15 = true := by kernel_rfl
@[simp] theorem tsz16 : tsz Try.prog 16 = some 1 := by kernel_rfl
@[simp] theorem tby16 : tbytes Try.prog 16 = some 8 := by kernel_rfl
@[simp] theorem tze16 : tzero Try.prog 16 = some (.pointer none) := by kernel_rfl
@[simp] theorem tag16 : tagg Try.prog 16 = some false := by simp [tagg, Try.underlying16]
@[simp] theorem arr16 : arrOf Try.prog 16 = none := by simp [arrOf, Try.underlying16]
@[simp] theorem upt16 : uptr Try.prog 16 = true := by kernel_rfl
@[simp] theorem tsz17 : tsz Try.prog 17 = some 1 := by kernel_rfl
@[simp] theorem tby17 : tbytes Try.prog 17 = some 8 := by kernel_rfl
@[simp] theorem tze17 : tzero Try.prog 17 = some (.pointer none) := by kernel_rfl
@[simp] theorem tag17 : tagg Try.prog 17 = some false := by simp [tagg, Try.underlying17]
@[simp] theorem arr17 : arrOf Try.prog 17 = none := by simp [arrOf, Try.underlying17]
@[simp] theorem upt17 : uptr Try.prog 17 = true := by kernel_rfl
@[simp] theorem tsz18 : tsz Try.prog 18 = some 1 := by kernel_rfl
@[simp] theorem tby18 : tbytes Try.prog 18 = some 8 := by kernel_rfl
@[simp] theorem tze18 : tzero Try.prog 18 = some (.agg #[(.pointer none)]) := by kernel_rfl
@[simp] theorem tag18 : tagg Try.prog 18 = some true := by simp [tagg, Try.underlying18]
@[simp] theorem arr18 : arrOf Try.prog 18 = none := by simp [arrOf, Try.underlying18]
@[simp] theorem fsz18 : fieldsSized Try.prog 18 = true := by kernel_rfl
@[simp] theorem wid18 : wideT Try.prog 18 = true := by kernel_rfl
@[simp] theorem fld18_0 : fieldOf Try.prog 18 0 = some (17, 0) := by kernel_rfl
@[simp] theorem eqg18 : Try.prog.eqGuardType Try.prog.depth 18 = false := by kernel_rfl
@[simp] theorem tsz19 : tsz Try.prog 19 = some 1 := by kernel_rfl
@[simp] theorem tby19 : tbytes Try.prog 19 = some 8 := by kernel_rfl
@[simp] theorem tze19 : tzero Try.prog 19 = some (.agg #[(.pointer none)]) := by kernel_rfl
@[simp] theorem tag19 : tagg Try.prog 19 = some true := by simp [tagg, Try.underlying19]
@[simp] theorem arr19 : arrOf Try.prog 19 = none := by simp [arrOf, Try.underlying19]
@[simp] theorem fsz19 : fieldsSized Try.prog 19 = true := by kernel_rfl
@[simp] theorem wid19 : wideT Try.prog 19 = true := by kernel_rfl
@[simp] theorem fld19_0 : fieldOf Try.prog 19 0 = some (17, 0) := by kernel_rfl
@[simp] theorem eqg19 : Try.prog.eqGuardType Try.prog.depth 19 = false := by kernel_rfl
@[simp] theorem tsz20 : tsz Try.prog 20 = some 1 := by kernel_rfl
@[simp] theorem tby20 : tbytes Try.prog 20 = some 16 := by kernel_rfl
@[simp] theorem tze20 : tzero Try.prog 20 = some .nilIface := by kernel_rfl
@[simp] theorem tag20 : tagg Try.prog 20 = some false := by simp [tagg, Try.underlying20]
@[simp] theorem arr20 : arrOf Try.prog 20 = none := by simp [arrOf, Try.underlying20]
@[simp] theorem uif20 : uiface Try.prog 20 = true := by kernel_rfl
@[simp] theorem tsz21 : tsz Try.prog 21 = some 1 := by kernel_rfl
@[simp] theorem tby21 : tbytes Try.prog 21 = some 4 := by kernel_rfl
@[simp] theorem tze21 : tzero Try.prog 21 = some (.int .i32 (0)) := by kernel_rfl
@[simp] theorem tag21 : tagg Try.prog 21 = some false := by simp [tagg, Try.underlying21]
@[simp] theorem arr21 : arrOf Try.prog 21 = none := by simp [arrOf, Try.underlying21]
@[simp] theorem uin21 : uint Try.prog 21 = some .i32 := by kernel_rfl
@[simp] theorem pla21 : plainT Try.prog 21 = true := by kernel_rfl
@[simp] theorem tsz22 : tsz Try.prog 22 = some 1 := by kernel_rfl
@[simp] theorem tby22 : tbytes Try.prog 22 = some 24 := by kernel_rfl
@[simp] theorem tze22 : tzero Try.prog 22 = some (.slice none 0 0) := by kernel_rfl
@[simp] theorem tag22 : tagg Try.prog 22 = some false := by simp [tagg, Try.underlying22]
@[simp] theorem arr22 : arrOf Try.prog 22 = none := by simp [arrOf, Try.underlying22]
@[simp] theorem elm22 : elemOf Try.prog 22 = some 3 := by kernel_rfl
@[simp] theorem tsz23 : tsz Try.prog 23 = some 1 := by kernel_rfl
@[simp] theorem tby23 : tbytes Try.prog 23 = some 24 := by kernel_rfl
@[simp] theorem tze23 : tzero Try.prog 23 = some (.slice none 0 0) := by kernel_rfl
@[simp] theorem tag23 : tagg Try.prog 23 = some false := by simp [tagg, Try.underlying23]
@[simp] theorem arr23 : arrOf Try.prog 23 = none := by simp [arrOf, Try.underlying23]
@[simp] theorem elm23 : elemOf Try.prog 23 = some 129 := by kernel_rfl
@[simp] theorem tsz24 : tsz Try.prog 24 = some 2 := by kernel_rfl
@[simp] theorem tby24 : tbytes Try.prog 24 = some 48 := by kernel_rfl
@[simp] theorem tze24 : tzero Try.prog 24 = some (.agg #[(.slice none 0 0), (.slice none 0 0)]) := by kernel_rfl
@[simp] theorem tag24 : tagg Try.prog 24 = some true := by simp [tagg, Try.underlying24]
@[simp] theorem arr24 : arrOf Try.prog 24 = none := by simp [arrOf, Try.underlying24]
@[simp] theorem fsz24 : fieldsSized Try.prog 24 = true := by kernel_rfl
@[simp] theorem wid24 : wideT Try.prog 24 = true := by kernel_rfl
@[simp] theorem fld24_0 : fieldOf Try.prog 24 0 = some (22, 0) := by kernel_rfl
@[simp] theorem fld24_1 : fieldOf Try.prog 24 1 = some (23, 1) := by kernel_rfl
@[simp] theorem fli24 : fieldList Try.prog 24 = some [(22, 0), (23, 1)] := by kernel_rfl
@[simp] theorem eqg24 : Try.prog.eqGuardType Try.prog.depth 24 = false := by kernel_rfl
@[simp] theorem tsz25 : tsz Try.prog 25 = some 2 := by kernel_rfl
@[simp] theorem tby25 : tbytes Try.prog 25 = some 48 := by kernel_rfl
@[simp] theorem tze25 : tzero Try.prog 25 = some (.agg #[(.slice none 0 0), (.slice none 0 0)]) := by kernel_rfl
@[simp] theorem tag25 : tagg Try.prog 25 = some true := by simp [tagg, Try.underlying25]
@[simp] theorem arr25 : arrOf Try.prog 25 = none := by simp [arrOf, Try.underlying25]
@[simp] theorem fsz25 : fieldsSized Try.prog 25 = true := by kernel_rfl
@[simp] theorem wid25 : wideT Try.prog 25 = true := by kernel_rfl
@[simp] theorem fld25_0 : fieldOf Try.prog 25 0 = some (22, 0) := by kernel_rfl
@[simp] theorem fld25_1 : fieldOf Try.prog 25 1 = some (23, 1) := by kernel_rfl
@[simp] theorem fli25 : fieldList Try.prog 25 = some [(22, 0), (23, 1)] := by kernel_rfl
@[simp] theorem eqg25 : Try.prog.eqGuardType Try.prog.depth 25 = false := by kernel_rfl
@[simp] theorem tsz26 : tsz Try.prog 26 = some 1 := by kernel_rfl
@[simp] theorem tby26 : tbytes Try.prog 26 = some 24 := by kernel_rfl
@[simp] theorem tze26 : tzero Try.prog 26 = some (.slice none 0 0) := by kernel_rfl
@[simp] theorem tag26 : tagg Try.prog 26 = some false := by simp [tagg, Try.underlying26]
@[simp] theorem arr26 : arrOf Try.prog 26 = none := by simp [arrOf, Try.underlying26]
@[simp] theorem elm26 : elemOf Try.prog 26 = some 85 := by kernel_rfl
@[simp] theorem tsz27 : tsz Try.prog 27 = some 3 := by kernel_rfl
@[simp] theorem tby27 : tbytes Try.prog 27 = some 72 := by kernel_rfl
@[simp] theorem tze27 : tzero Try.prog 27 = some (.agg #[(.slice none 0 0), (.slice none 0 0), (.slice none 0 0)]) := by kernel_rfl
@[simp] theorem tag27 : tagg Try.prog 27 = some true := by simp [tagg, Try.underlying27]
@[simp] theorem arr27 : arrOf Try.prog 27 = none := by simp [arrOf, Try.underlying27]
@[simp] theorem fsz27 : fieldsSized Try.prog 27 = true := by kernel_rfl
@[simp] theorem wid27 : wideT Try.prog 27 = true := by kernel_rfl
@[simp] theorem fld27_0 : fieldOf Try.prog 27 0 = some (25, 0) := by kernel_rfl
@[simp] theorem fld27_1 : fieldOf Try.prog 27 1 = some (26, 2) := by kernel_rfl
@[simp] theorem fli27 : fieldList Try.prog 27 = some [(25, 0), (26, 2)] := by kernel_rfl
@[simp] theorem eqg27 : Try.prog.eqGuardType Try.prog.depth 27 = false := by kernel_rfl
@[simp] theorem tsz28 : tsz Try.prog 28 = some 3 := by kernel_rfl
@[simp] theorem tby28 : tbytes Try.prog 28 = some 72 := by kernel_rfl
@[simp] theorem tze28 : tzero Try.prog 28 = some (.agg #[(.slice none 0 0), (.slice none 0 0), (.slice none 0 0)]) := by kernel_rfl
@[simp] theorem tag28 : tagg Try.prog 28 = some true := by simp [tagg, Try.underlying28]
@[simp] theorem arr28 : arrOf Try.prog 28 = none := by simp [arrOf, Try.underlying28]
@[simp] theorem fsz28 : fieldsSized Try.prog 28 = true := by kernel_rfl
@[simp] theorem wid28 : wideT Try.prog 28 = true := by kernel_rfl
@[simp] theorem fld28_0 : fieldOf Try.prog 28 0 = some (25, 0) := by kernel_rfl
@[simp] theorem fld28_1 : fieldOf Try.prog 28 1 = some (26, 2) := by kernel_rfl
@[simp] theorem fli28 : fieldList Try.prog 28 = some [(25, 0), (26, 2)] := by kernel_rfl
@[simp] theorem eqg28 : Try.prog.eqGuardType Try.prog.depth 28 = false := by kernel_rfl
@[simp] theorem tsz29 : tsz Try.prog 29 = some 6 := by kernel_rfl
@[simp] theorem tby29 : tbytes Try.prog 29 = some 144 := by kernel_rfl
@[simp] theorem tze29 : tzero Try.prog 29 = some (.agg #[(.slice none 0 0), (.slice none 0 0), (.slice none 0 0), (.slice none 0 0), (.slice none 0 0), (.slice none 0 0)]) := by kernel_rfl
@[simp] theorem tag29 : tagg Try.prog 29 = some true := by simp [tagg, Try.underlying29]
@[simp] theorem arr29 : arrOf Try.prog 29 = some (2, 28) := by simp [arrOf, Try.underlying29]
@[simp] theorem tsz30 : tsz Try.prog 30 = some 2 := by kernel_rfl
@[simp] theorem tby30 : tbytes Try.prog 30 = some 16 := by kernel_rfl
@[simp] theorem tze30 : tzero Try.prog 30 = some (.agg #[(.int .i64 (0)), (.int .i64 (0))]) := by kernel_rfl
@[simp] theorem tag30 : tagg Try.prog 30 = some true := by simp [tagg, Try.underlying30]
@[simp] theorem arr30 : arrOf Try.prog 30 = some (2, 3) := by simp [arrOf, Try.underlying30]
@[simp] theorem tsz31 : tsz Try.prog 31 = some 1 := by kernel_rfl
@[simp] theorem tby31 : tbytes Try.prog 31 = some 4 := by kernel_rfl
@[simp] theorem tze31 : tzero Try.prog 31 = some (.int .u32 (0)) := by kernel_rfl
@[simp] theorem tag31 : tagg Try.prog 31 = some false := by simp [tagg, Try.underlying31]
@[simp] theorem arr31 : arrOf Try.prog 31 = none := by simp [arrOf, Try.underlying31]
@[simp] theorem uin31 : uint Try.prog 31 = some .u32 := by kernel_rfl
@[simp] theorem pla31 : plainT Try.prog 31 = true := by kernel_rfl
@[simp] theorem tsz32 : tsz Try.prog 32 = some 2 := by kernel_rfl
@[simp] theorem tby32 : tbytes Try.prog 32 = some 8 := by kernel_rfl
@[simp] theorem tze32 : tzero Try.prog 32 = some (.agg #[(.int .u32 (0)), (.int .u32 (0))]) := by kernel_rfl
@[simp] theorem tag32 : tagg Try.prog 32 = some true := by simp [tagg, Try.underlying32]
@[simp] theorem arr32 : arrOf Try.prog 32 = none := by simp [arrOf, Try.underlying32]
@[simp] theorem fsz32 : fieldsSized Try.prog 32 = true := by kernel_rfl
@[simp] theorem wid32 : wideT Try.prog 32 = true := by kernel_rfl
@[simp] theorem fld32_0 : fieldOf Try.prog 32 0 = some (31, 0) := by kernel_rfl
@[simp] theorem fld32_1 : fieldOf Try.prog 32 1 = some (31, 1) := by kernel_rfl
@[simp] theorem fli32 : fieldList Try.prog 32 = some [(31, 0), (31, 1)] := by kernel_rfl
@[simp] theorem eqg32 : Try.prog.eqGuardType Try.prog.depth 32 = false := by kernel_rfl
@[simp] theorem tsz33 : tsz Try.prog 33 = some 2 := by kernel_rfl
@[simp] theorem tby33 : tbytes Try.prog 33 = some 8 := by kernel_rfl
@[simp] theorem tze33 : tzero Try.prog 33 = some (.agg #[(.int .u32 (0)), (.int .u32 (0))]) := by kernel_rfl
@[simp] theorem tag33 : tagg Try.prog 33 = some true := by simp [tagg, Try.underlying33]
@[simp] theorem arr33 : arrOf Try.prog 33 = none := by simp [arrOf, Try.underlying33]
@[simp] theorem fsz33 : fieldsSized Try.prog 33 = true := by kernel_rfl
@[simp] theorem wid33 : wideT Try.prog 33 = true := by kernel_rfl
@[simp] theorem fld33_0 : fieldOf Try.prog 33 0 = some (31, 0) := by kernel_rfl
@[simp] theorem fld33_1 : fieldOf Try.prog 33 1 = some (31, 1) := by kernel_rfl
@[simp] theorem fli33 : fieldList Try.prog 33 = some [(31, 0), (31, 1)] := by kernel_rfl
@[simp] theorem eqg33 : Try.prog.eqGuardType Try.prog.depth 33 = false := by kernel_rfl
@[simp] theorem tsz34 : tsz Try.prog 34 = some 1 := by kernel_rfl
@[simp] theorem tby34 : tbytes Try.prog 34 = some 8 := by kernel_rfl
@[simp] theorem tze34 : tzero Try.prog 34 = some .nilFunc := by kernel_rfl
@[simp] theorem tag34 : tagg Try.prog 34 = some false := by simp [tagg, Try.underlying34]
@[simp] theorem arr34 : arrOf Try.prog 34 = none := by simp [arrOf, Try.underlying34]
@[simp] theorem tsz35 : tsz Try.prog 35 = some 1 := by kernel_rfl
@[simp] theorem tby35 : tbytes Try.prog 35 = some 8 := by kernel_rfl
@[simp] theorem tze35 : tzero Try.prog 35 = some (.int .i64 (0)) := by kernel_rfl
@[simp] theorem tag35 : tagg Try.prog 35 = some false := by simp [tagg, Try.underlying35]
@[simp] theorem arr35 : arrOf Try.prog 35 = none := by simp [arrOf, Try.underlying35]
@[simp] theorem uin35 : uint Try.prog 35 = some .i64 := by kernel_rfl
@[simp] theorem pla35 : plainT Try.prog 35 = true := by kernel_rfl
@[simp] theorem tsz36 : tsz Try.prog 36 = some 7 := by kernel_rfl
@[simp] theorem tby36 : tbytes Try.prog 36 = some 56 := by kernel_rfl
@[simp] theorem tze36 : tzero Try.prog 36 = some (.agg #[(.int .i64 (0)), (.int .i64 (0)), (.int .i64 (0)), (.int .i64 (0)), (.int .u32 (0)), (.int .u32 (0)), (.string ⟨#[]⟩)]) := by kernel_rfl
@[simp] theorem tag36 : tagg Try.prog 36 = some true := by simp [tagg, Try.underlying36]
@[simp] theorem arr36 : arrOf Try.prog 36 = none := by simp [arrOf, Try.underlying36]
@[simp] theorem fsz36 : fieldsSized Try.prog 36 = true := by kernel_rfl
@[simp] theorem wid36 : wideT Try.prog 36 = true := by kernel_rfl
@[simp] theorem fld36_0 : fieldOf Try.prog 36 0 = some (35, 0) := by kernel_rfl
@[simp] theorem fld36_1 : fieldOf Try.prog 36 1 = some (3, 1) := by kernel_rfl
@[simp] theorem fld36_2 : fieldOf Try.prog 36 2 = some (3, 2) := by kernel_rfl
@[simp] theorem fld36_3 : fieldOf Try.prog 36 3 = some (3, 3) := by kernel_rfl
@[simp] theorem fld36_4 : fieldOf Try.prog 36 4 = some (33, 4) := by kernel_rfl
@[simp] theorem fld36_5 : fieldOf Try.prog 36 5 = some (9, 6) := by kernel_rfl
@[simp] theorem fli36 : fieldList Try.prog 36 = some [(35, 0), (3, 1), (3, 2), (3, 3), (33, 4), (9, 6)] := by kernel_rfl
@[simp] theorem eqg36 : Try.prog.eqGuardType Try.prog.depth 36 = false := by kernel_rfl
@[simp] theorem tsz37 : tsz Try.prog 37 = some 7 := by kernel_rfl
@[simp] theorem tby37 : tbytes Try.prog 37 = some 56 := by kernel_rfl
@[simp] theorem tze37 : tzero Try.prog 37 = some (.agg #[(.int .i64 (0)), (.int .i64 (0)), (.int .i64 (0)), (.int .i64 (0)), (.int .u32 (0)), (.int .u32 (0)), (.string ⟨#[]⟩)]) := by kernel_rfl
@[simp] theorem tag37 : tagg Try.prog 37 = some true := by simp [tagg, Try.underlying37]
@[simp] theorem arr37 : arrOf Try.prog 37 = none := by simp [arrOf, Try.underlying37]
@[simp] theorem fsz37 : fieldsSized Try.prog 37 = true := by kernel_rfl
@[simp] theorem wid37 : wideT Try.prog 37 = true := by kernel_rfl
@[simp] theorem fld37_0 : fieldOf Try.prog 37 0 = some (35, 0) := by kernel_rfl
@[simp] theorem fld37_1 : fieldOf Try.prog 37 1 = some (3, 1) := by kernel_rfl
@[simp] theorem fld37_2 : fieldOf Try.prog 37 2 = some (3, 2) := by kernel_rfl
@[simp] theorem fld37_3 : fieldOf Try.prog 37 3 = some (3, 3) := by kernel_rfl
@[simp] theorem fld37_4 : fieldOf Try.prog 37 4 = some (33, 4) := by kernel_rfl
@[simp] theorem fld37_5 : fieldOf Try.prog 37 5 = some (9, 6) := by kernel_rfl
@[simp] theorem fli37 : fieldList Try.prog 37 = some [(35, 0), (3, 1), (3, 2), (3, 3), (33, 4), (9, 6)] := by kernel_rfl
@[simp] theorem eqg37 : Try.prog.eqGuardType Try.prog.depth 37 = false := by kernel_rfl
@[simp] theorem tsz38 : tsz Try.prog 38 = some 1 := by kernel_rfl
@[simp] theorem tby38 : tbytes Try.prog 38 = some 8 := by kernel_rfl
@[simp] theorem tze38 : tzero Try.prog 38 = some .nilFunc := by kernel_rfl
@[simp] theorem tag38 : tagg Try.prog 38 = some false := by simp [tagg, Try.underlying38]
@[simp] theorem arr38 : arrOf Try.prog 38 = none := by simp [arrOf, Try.underlying38]
@[simp] theorem tsz39 : tsz Try.prog 39 = some 1 := by kernel_rfl
@[simp] theorem tby39 : tbytes Try.prog 39 = some 8 := by kernel_rfl
@[simp] theorem tze39 : tzero Try.prog 39 = some (.int .i64 (0)) := by kernel_rfl
@[simp] theorem tag39 : tagg Try.prog 39 = some false := by simp [tagg, Try.underlying39]
@[simp] theorem arr39 : arrOf Try.prog 39 = none := by simp [arrOf, Try.underlying39]
@[simp] theorem uin39 : uint Try.prog 39 = some .i64 := by kernel_rfl
@[simp] theorem pla39 : plainT Try.prog 39 = true := by kernel_rfl
@[simp] theorem tsz40 : tsz Try.prog 40 = some 2 := by kernel_rfl
@[simp] theorem tby40 : tbytes Try.prog 40 = some 16 := by kernel_rfl
@[simp] theorem tze40 : tzero Try.prog 40 = some (.agg #[(.int .i64 (0)), (.int .i64 (0))]) := by kernel_rfl
@[simp] theorem tag40 : tagg Try.prog 40 = some true := by simp [tagg, Try.underlying40]
@[simp] theorem arr40 : arrOf Try.prog 40 = none := by simp [arrOf, Try.underlying40]
@[simp] theorem fsz40 : fieldsSized Try.prog 40 = true := by kernel_rfl
@[simp] theorem wid40 : wideT Try.prog 40 = true := by kernel_rfl
@[simp] theorem fld40_0 : fieldOf Try.prog 40 0 = some (3, 0) := by kernel_rfl
@[simp] theorem fld40_1 : fieldOf Try.prog 40 1 = some (3, 1) := by kernel_rfl
@[simp] theorem fli40 : fieldList Try.prog 40 = some [(3, 0), (3, 1)] := by kernel_rfl
@[simp] theorem eqg40 : Try.prog.eqGuardType Try.prog.depth 40 = false := by kernel_rfl
@[simp] theorem tsz41 : tsz Try.prog 41 = some 2 := by kernel_rfl
@[simp] theorem tby41 : tbytes Try.prog 41 = some 16 := by kernel_rfl
@[simp] theorem tze41 : tzero Try.prog 41 = some (.agg #[(.int .i64 (0)), (.int .i64 (0))]) := by kernel_rfl
@[simp] theorem tag41 : tagg Try.prog 41 = some true := by simp [tagg, Try.underlying41]
@[simp] theorem arr41 : arrOf Try.prog 41 = none := by simp [arrOf, Try.underlying41]
@[simp] theorem fsz41 : fieldsSized Try.prog 41 = true := by kernel_rfl
@[simp] theorem wid41 : wideT Try.prog 41 = true := by kernel_rfl
@[simp] theorem fld41_0 : fieldOf Try.prog 41 0 = some (3, 0) := by kernel_rfl
@[simp] theorem fld41_1 : fieldOf Try.prog 41 1 = some (3, 1) := by kernel_rfl
@[simp] theorem fli41 : fieldList Try.prog 41 = some [(3, 0), (3, 1)] := by kernel_rfl
@[simp] theorem eqg41 : Try.prog.eqGuardType Try.prog.depth 41 = false := by kernel_rfl
@[simp] theorem tsz42 : tsz Try.prog 42 = some 4 := by kernel_rfl
@[simp] theorem tby42 : tbytes Try.prog 42 = some 48 := by kernel_rfl
@[simp] theorem tze42 : tzero Try.prog 42 = some (.agg #[(.slice none 0 0), (.int .i64 (0)), (.int .i64 (0)), (.int .i64 (0))]) := by kernel_rfl
@[simp] theorem tag42 : tagg Try.prog 42 = some true := by simp [tagg, Try.underlying42]
@[simp] theorem arr42 : arrOf Try.prog 42 = none := by simp [arrOf, Try.underlying42]
@[simp] theorem fsz42 : fieldsSized Try.prog 42 = true := by kernel_rfl
@[simp] theorem wid42 : wideT Try.prog 42 = true := by kernel_rfl
@[simp] theorem fld42_0 : fieldOf Try.prog 42 0 = some (22, 0) := by kernel_rfl
@[simp] theorem fld42_1 : fieldOf Try.prog 42 1 = some (39, 1) := by kernel_rfl
@[simp] theorem fld42_2 : fieldOf Try.prog 42 2 = some (41, 2) := by kernel_rfl
@[simp] theorem fli42 : fieldList Try.prog 42 = some [(22, 0), (39, 1), (41, 2)] := by kernel_rfl
@[simp] theorem eqg42 : Try.prog.eqGuardType Try.prog.depth 42 = false := by kernel_rfl
@[simp] theorem tsz43 : tsz Try.prog 43 = some 4 := by kernel_rfl
@[simp] theorem tby43 : tbytes Try.prog 43 = some 48 := by kernel_rfl
@[simp] theorem tze43 : tzero Try.prog 43 = some (.agg #[(.slice none 0 0), (.int .i64 (0)), (.int .i64 (0)), (.int .i64 (0))]) := by kernel_rfl
@[simp] theorem tag43 : tagg Try.prog 43 = some true := by simp [tagg, Try.underlying43]
@[simp] theorem arr43 : arrOf Try.prog 43 = none := by simp [arrOf, Try.underlying43]
@[simp] theorem fsz43 : fieldsSized Try.prog 43 = true := by kernel_rfl
@[simp] theorem wid43 : wideT Try.prog 43 = true := by kernel_rfl
@[simp] theorem fld43_0 : fieldOf Try.prog 43 0 = some (22, 0) := by kernel_rfl
@[simp] theorem fld43_1 : fieldOf Try.prog 43 1 = some (39, 1) := by kernel_rfl
@[simp] theorem fld43_2 : fieldOf Try.prog 43 2 = some (41, 2) := by kernel_rfl
@[simp] theorem fli43 : fieldList Try.prog 43 = some [(22, 0), (39, 1), (41, 2)] := by kernel_rfl
@[simp] theorem eqg43 : Try.prog.eqGuardType Try.prog.depth 43 = false := by kernel_rfl
@[simp] theorem tsz44 : tsz Try.prog 44 = some 7 := by kernel_rfl
@[simp] theorem tby44 : tbytes Try.prog 44 = some 72 := by kernel_rfl
@[simp] theorem tze44 : tzero Try.prog 44 = some (.agg #[(.bool false), (.int .i64 (0)), (.int .u32 (0)), (.slice none 0 0), (.int .i64 (0)), (.int .i64 (0)), (.int .i64 (0))]) := by kernel_rfl
@[simp] theorem tag44 : tagg Try.prog 44 = some true := by simp [tagg, Try.underlying44]
@[simp] theorem arr44 : arrOf Try.prog 44 = none := by simp [arrOf, Try.underlying44]
@[simp] theorem fsz44 : fieldsSized Try.prog 44 = true := by kernel_rfl
@[simp] theorem wid44 : wideT Try.prog 44 = true := by kernel_rfl
@[simp] theorem fld44_0 : fieldOf Try.prog 44 0 = some (4, 0) := by kernel_rfl
@[simp] theorem fld44_1 : fieldOf Try.prog 44 1 = some (3, 1) := by kernel_rfl
@[simp] theorem fld44_2 : fieldOf Try.prog 44 2 = some (31, 2) := by kernel_rfl
@[simp] theorem fld44_3 : fieldOf Try.prog 44 3 = some (43, 3) := by kernel_rfl
@[simp] theorem fli44 : fieldList Try.prog 44 = some [(4, 0), (3, 1), (31, 2), (43, 3)] := by kernel_rfl
@[simp] theorem eqg44 : Try.prog.eqGuardType Try.prog.depth 44 = false := by kernel_rfl
@[simp] theorem tsz45 : tsz Try.prog 45 = some 7 := by kernel_rfl
@[simp] theorem tby45 : tbytes Try.prog 45 = some 72 := by kernel_rfl
@[simp] theorem tze45 : tzero Try.prog 45 = some (.agg #[(.bool false), (.int .i64 (0)), (.int .u32 (0)), (.slice none 0 0), (.int .i64 (0)), (.int .i64 (0)), (.int .i64 (0))]) := by kernel_rfl
@[simp] theorem tag45 : tagg Try.prog 45 = some true := by simp [tagg, Try.underlying45]
@[simp] theorem arr45 : arrOf Try.prog 45 = none := by simp [arrOf, Try.underlying45]
@[simp] theorem fsz45 : fieldsSized Try.prog 45 = true := by kernel_rfl
@[simp] theorem wid45 : wideT Try.prog 45 = true := by kernel_rfl
@[simp] theorem fld45_0 : fieldOf Try.prog 45 0 = some (4, 0) := by kernel_rfl
@[simp] theorem fld45_1 : fieldOf Try.prog 45 1 = some (3, 1) := by kernel_rfl
@[simp] theorem fld45_2 : fieldOf Try.prog 45 2 = some (31, 2) := by kernel_rfl
@[simp] theorem fld45_3 : fieldOf Try.prog 45 3 = some (43, 3) := by kernel_rfl
@[simp] theorem fli45 : fieldList Try.prog 45 = some [(4, 0), (3, 1), (31, 2), (43, 3)] := by kernel_rfl
@[simp] theorem eqg45 : Try.prog.eqGuardType Try.prog.depth 45 = false := by kernel_rfl
@[simp] theorem tsz46 : tsz Try.prog 46 = some 1 := by kernel_rfl
@[simp] theorem tby46 : tbytes Try.prog 46 = some 8 := by kernel_rfl
@[simp] theorem tze46 : tzero Try.prog 46 = some (.int .i64 (0)) := by kernel_rfl
@[simp] theorem tag46 : tagg Try.prog 46 = some false := by simp [tagg, Try.underlying46]
@[simp] theorem arr46 : arrOf Try.prog 46 = none := by simp [arrOf, Try.underlying46]
@[simp] theorem uin46 : uint Try.prog 46 = some .i64 := by kernel_rfl
@[simp] theorem pla46 : plainT Try.prog 46 = true := by kernel_rfl
@[simp] theorem tsz48 : tsz Try.prog 48 = some 1 := by kernel_rfl
@[simp] theorem tby48 : tbytes Try.prog 48 = some 8 := by kernel_rfl
@[simp] theorem tze48 : tzero Try.prog 48 = some .nilFunc := by kernel_rfl
@[simp] theorem tag48 : tagg Try.prog 48 = some false := by simp [tagg, Try.underlying48]
@[simp] theorem arr48 : arrOf Try.prog 48 = none := by simp [arrOf, Try.underlying48]
@[simp] theorem tsz49 : tsz Try.prog 49 = some 1 := by kernel_rfl
@[simp] theorem tby49 : tbytes Try.prog 49 = some 8 := by kernel_rfl
@[simp] theorem tze49 : tzero Try.prog 49 = some .nilFunc := by kernel_rfl
@[simp] theorem tag49 : tagg Try.prog 49 = some false := by simp [tagg, Try.underlying49]
@[simp] theorem arr49 : arrOf Try.prog 49 = none := by simp [arrOf, Try.underlying49]
@[simp] theorem tsz50 : tsz Try.prog 50 = some 1 := by kernel_rfl
@[simp] theorem tby50 : tbytes Try.prog 50 = some 8 := by kernel_rfl
@[simp] theorem tze50 : tzero Try.prog 50 = some .nilFunc := by kernel_rfl
@[simp] theorem tag50 : tagg Try.prog 50 = some false := by simp [tagg, Try.underlying50]
@[simp] theorem arr50 : arrOf Try.prog 50 = none := by simp [arrOf, Try.underlying50]
@[simp] theorem tsz51 : tsz Try.prog 51 = some 1 := by kernel_rfl
@[simp] theorem tby51 : tbytes Try.prog 51 = some 8 := by kernel_rfl
@[simp] theorem tze51 : tzero Try.prog 51 = some .nilFunc := by kernel_rfl
@[simp] theorem tag51 : tagg Try.prog 51 = some false := by simp [tagg, Try.underlying51]
@[simp] theorem arr51 : arrOf Try.prog 51 = none := by simp [arrOf, Try.underlying51]
@[simp] theorem tsz52 : tsz Try.prog 52 = some 2 := by kernel_rfl
@[simp] theorem tby52 : tbytes Try.prog 52 = some 16 := by kernel_rfl
@[simp] theorem tze52 : tzero Try.prog 52 = some (.agg #[(.int .i64 (0)), (.int .u32 (0))]) := by kernel_rfl
@[simp] theorem tag52 : tagg Try.prog 52 = some true := by simp [tagg, Try.underlying52]
@[simp] theorem arr52 : arrOf Try.prog 52 = none := by simp [arrOf, Try.underlying52]
@[simp] theorem fsz52 : fieldsSized Try.prog 52 = true := by kernel_rfl
@[simp] theorem wid52 : wideT Try.prog 52 = true := by kernel_rfl
@[simp] theorem fld52_0 : fieldOf Try.prog 52 0 = some (3, 0) := by kernel_rfl
@[simp] theorem fld52_1 : fieldOf Try.prog 52 1 = some (31, 1) := by kernel_rfl
@[simp] theorem fli52 : fieldList Try.prog 52 = some [(3, 0), (31, 1)] := by kernel_rfl
@[simp] theorem eqg52 : Try.prog.eqGuardType Try.prog.depth 52 = false := by kernel_rfl
@[simp] theorem tsz53 : tsz Try.prog 53 = some 2 := by kernel_rfl
@[simp] theorem tby53 : tbytes Try.prog 53 = some 16 := by kernel_rfl
@[simp] theorem tze53 : tzero Try.prog 53 = some (.agg #[(.int .i64 (0)), (.int .u32 (0))]) := by kernel_rfl
@[simp] theorem tag53 : tagg Try.prog 53 = some true := by simp [tagg, Try.underlying53]
@[simp] theorem arr53 : arrOf Try.prog 53 = none := by simp [arrOf, Try.underlying53]
@[simp] theorem fsz53 : fieldsSized Try.prog 53 = true := by kernel_rfl
@[simp] theorem wid53 : wideT Try.prog 53 = true := by kernel_rfl
@[simp] theorem fld53_0 : fieldOf Try.prog 53 0 = some (3, 0) := by kernel_rfl
@[simp] theorem fld53_1 : fieldOf Try.prog 53 1 = some (31, 1) := by kernel_rfl
@[simp] theorem fli53 : fieldList Try.prog 53 = some [(3, 0), (31, 1)] := by kernel_rfl
@[simp] theorem eqg53 : Try.prog.eqGuardType Try.prog.depth 53 = false := by kernel_rfl
@[simp] theorem tsz55 : tsz Try.prog 55 = some 1 := by kernel_rfl
@[simp] theorem tby55 : tbytes Try.prog 55 = some 8 := by kernel_rfl
@[simp] theorem tze55 : tzero Try.prog 55 = some .nilFunc := by kernel_rfl
@[simp] theorem tag55 : tagg Try.prog 55 = some false := by simp [tagg, Try.underlying55]
@[simp] theorem arr55 : arrOf Try.prog 55 = none := by simp [arrOf, Try.underlying55]
@[simp] theorem tsz56 : tsz Try.prog 56 = some 1 := by kernel_rfl
@[simp] theorem tby56 : tbytes Try.prog 56 = some 8 := by kernel_rfl
@[simp] theorem tze56 : tzero Try.prog 56 = some .nilFunc := by kernel_rfl
@[simp] theorem tag56 : tagg Try.prog 56 = some false := by simp [tagg, Try.underlying56]
@[simp] theorem arr56 : arrOf Try.prog 56 = none := by simp [arrOf, Try.underlying56]
@[simp] theorem tsz57 : tsz Try.prog 57 = some 1 := by kernel_rfl
@[simp] theorem tby57 : tbytes Try.prog 57 = some 8 := by kernel_rfl
@[simp] theorem tze57 : tzero Try.prog 57 = some .nilFunc := by kernel_rfl
@[simp] theorem tag57 : tagg Try.prog 57 = some false := by simp [tagg, Try.underlying57]
@[simp] theorem arr57 : arrOf Try.prog 57 = none := by simp [arrOf, Try.underlying57]
@[simp] theorem tsz58 : tsz Try.prog 58 = some 1 := by kernel_rfl
@[simp] theorem tby58 : tbytes Try.prog 58 = some 8 := by kernel_rfl
@[simp] theorem tze58 : tzero Try.prog 58 = some .nilFunc := by kernel_rfl
@[simp] theorem tag58 : tagg Try.prog 58 = some false := by simp [tagg, Try.underlying58]
@[simp] theorem arr58 : arrOf Try.prog 58 = none := by simp [arrOf, Try.underlying58]
@[simp] theorem tsz59 : tsz Try.prog 59 = some 1 := by kernel_rfl
@[simp] theorem tby59 : tbytes Try.prog 59 = some 8 := by kernel_rfl
@[simp] theorem tze59 : tzero Try.prog 59 = some .nilFunc := by kernel_rfl
@[simp] theorem tag59 : tagg Try.prog 59 = some false := by simp [tagg, Try.underlying59]
@[simp] theorem arr59 : arrOf Try.prog 59 = none := by simp [arrOf, Try.underlying59]
@[simp] theorem tsz60 : tsz Try.prog 60 = some 1 := by kernel_rfl
@[simp] theorem tby60 : tbytes Try.prog 60 = some 8 := by kernel_rfl
@[simp] theorem tze60 : tzero Try.prog 60 = some .nilFunc := by kernel_rfl
@[simp] theorem tag60 : tagg Try.prog 60 = some false := by simp [tagg, Try.underlying60]
@[simp] theorem arr60 : arrOf Try.prog 60 = none := by simp [arrOf, Try.underlying60]
@[simp] theorem tsz61 : tsz Try.prog 61 = some 1 := by kernel_rfl
@[simp] theorem tby61 : tbytes Try.prog 61 = some 8 := by kernel_rfl
@[simp] theorem tze61 : tzero Try.prog 61 = some (.pointer none) := by kernel_rfl
@[simp] theorem tag61 : tagg Try.prog 61 = some false := by simp [tagg, Try.underlying61]
@[simp] theorem arr61 : arrOf Try.prog 61 = none := by simp [arrOf, Try.underlying61]
@[simp] theorem upt61 : uptr Try.prog 61 = true := by kernel_rfl
@[simp] theorem tsz63 : tsz Try.prog 63 = some 1 := by kernel_rfl
@[simp] theorem tby63 : tbytes Try.prog 63 = some 8 := by kernel_rfl
@[simp] theorem tze63 : tzero Try.prog 63 = some .nilFunc := by kernel_rfl
@[simp] theorem tag63 : tagg Try.prog 63 = some false := by simp [tagg, Try.underlying63]
@[simp] theorem arr63 : arrOf Try.prog 63 = none := by simp [arrOf, Try.underlying63]
@[simp] theorem tsz64 : tsz Try.prog 64 = some 1 := by kernel_rfl
@[simp] theorem tby64 : tbytes Try.prog 64 = some 8 := by kernel_rfl
@[simp] theorem tze64 : tzero Try.prog 64 = some .nilFunc := by kernel_rfl
@[simp] theorem tag64 : tagg Try.prog 64 = some false := by simp [tagg, Try.underlying64]
@[simp] theorem arr64 : arrOf Try.prog 64 = none := by simp [arrOf, Try.underlying64]
@[simp] theorem tsz66 : tsz Try.prog 66 = some 1 := by kernel_rfl
@[simp] theorem tby66 : tbytes Try.prog 66 = some 8 := by kernel_rfl
@[simp] theorem tze66 : tzero Try.prog 66 = some .nilFunc := by kernel_rfl
@[simp] theorem tag66 : tagg Try.prog 66 = some false := by simp [tagg, Try.underlying66]
@[simp] theorem arr66 : arrOf Try.prog 66 = none := by simp [arrOf, Try.underlying66]
@[simp] theorem tsz68 : tsz Try.prog 68 = some 1 := by kernel_rfl
@[simp] theorem tby68 : tbytes Try.prog 68 = some 8 := by kernel_rfl
@[simp] theorem tze68 : tzero Try.prog 68 = some .nilFunc := by kernel_rfl
@[simp] theorem tag68 : tagg Try.prog 68 = some false := by simp [tagg, Try.underlying68]
@[simp] theorem arr68 : arrOf Try.prog 68 = none := by simp [arrOf, Try.underlying68]
@[simp] theorem tsz69 : tsz Try.prog 69 = some 1 := by kernel_rfl
@[simp] theorem tby69 : tbytes Try.prog 69 = some 8 := by kernel_rfl
@[simp] theorem tze69 : tzero Try.prog 69 = some .nilFunc := by kernel_rfl
@[simp] theorem tag69 : tagg Try.prog 69 = some false := by simp [tagg, Try.underlying69]
@[simp] theorem arr69 : arrOf Try.prog 69 = none := by simp [arrOf, Try.underlying69]
@[simp] theorem tsz70 : tsz Try.prog 70 = some 1 := by kernel_rfl
@[simp] theorem tby70 : tbytes Try.prog 70 = some 8 := by kernel_rfl
@[simp] theorem tze70 : tzero Try.prog 70 = some .nilFunc := by kernel_rfl
@[simp] theorem tag70 : tagg Try.prog 70 = some false := by simp [tagg, Try.underlying70]
@[simp] theorem arr70 : arrOf Try.prog 70 = none := by simp [arrOf, Try.underlying70]
@[simp] theorem tsz71 : tsz Try.prog 71 = some 1 := by kernel_rfl
@[simp] theorem tby71 : tbytes Try.prog 71 = some 8 := by kernel_rfl
@[simp] theorem tze71 : tzero Try.prog 71 = some (.pointer none) := by kernel_rfl
@[simp] theorem tag71 : tagg Try.prog 71 = some false := by simp [tagg, Try.underlying71]
@[simp] theorem arr71 : arrOf Try.prog 71 = none := by simp [arrOf, Try.underlying71]
@[simp] theorem upt71 : uptr Try.prog 71 = true := by kernel_rfl
@[simp] theorem tsz73 : tsz Try.prog 73 = some 1 := by kernel_rfl
@[simp] theorem tby73 : tbytes Try.prog 73 = some 8 := by kernel_rfl
@[simp] theorem tze73 : tzero Try.prog 73 = some .nilFunc := by kernel_rfl
@[simp] theorem tag73 : tagg Try.prog 73 = some false := by simp [tagg, Try.underlying73]
@[simp] theorem arr73 : arrOf Try.prog 73 = none := by simp [arrOf, Try.underlying73]
@[simp] theorem tsz75 : tsz Try.prog 75 = some 1 := by kernel_rfl
@[simp] theorem tby75 : tbytes Try.prog 75 = some 8 := by kernel_rfl
@[simp] theorem tze75 : tzero Try.prog 75 = some .nilFunc := by kernel_rfl
@[simp] theorem tag75 : tagg Try.prog 75 = some false := by simp [tagg, Try.underlying75]
@[simp] theorem arr75 : arrOf Try.prog 75 = none := by simp [arrOf, Try.underlying75]
@[simp] theorem tsz76 : tsz Try.prog 76 = some 1 := by kernel_rfl
@[simp] theorem tby76 : tbytes Try.prog 76 = some 8 := by kernel_rfl
@[simp] theorem tze76 : tzero Try.prog 76 = some .nilFunc := by kernel_rfl
@[simp] theorem tag76 : tagg Try.prog 76 = some false := by simp [tagg, Try.underlying76]
@[simp] theorem arr76 : arrOf Try.prog 76 = none := by simp [arrOf, Try.underlying76]
@[simp] theorem tsz77 : tsz Try.prog 77 = some 14 := by kernel_rfl
@[simp] theorem tby77 : tbytes Try.prog 77 = some 112 := by kernel_rfl
@[simp] theorem tze77 : tzero Try.prog 77 = some (.agg #[(.int .i64 (0)), (.int .i64 (0)), (.int .i64 (0)), (.int .i64 (0)), (.int .u32 (0)), (.int .u32 (0)), (.string ⟨#[]⟩), (.int .i64 (0)), (.int .i64 (0)), (.int .i64 (0)), (.int .i64 (0)), (.int .u32 (0)), (.int .u32 (0)), (.string ⟨#[]⟩)]) := by kernel_rfl
@[simp] theorem tag77 : tagg Try.prog 77 = some true := by simp [tagg, Try.underlying77]
@[simp] theorem arr77 : arrOf Try.prog 77 = some (2, 37) := by simp [arrOf, Try.underlying77]
@[simp] theorem tsz79 : tsz Try.prog 79 = some 1 := by kernel_rfl
@[simp] theorem tby79 : tbytes Try.prog 79 = some 8 := by kernel_rfl
@[simp] theorem tze79 : tzero Try.prog 79 = some .nilFunc := by kernel_rfl
@[simp] theorem tag79 : tagg Try.prog 79 = some false := by simp [tagg, Try.underlying79]
@[simp] theorem arr79 : arrOf Try.prog 79 = none := by simp [arrOf, Try.underlying79]
@[simp] theorem tsz80 : tsz Try.prog 80 = some 1 := by kernel_rfl
@[simp] theorem tby80 : tbytes Try.prog 80 = some 8 := by kernel_rfl
@[simp] theorem tze80 : tzero Try.prog 80 = some .nilFunc := by kernel_rfl
@[simp] theorem tag80 : tagg Try.prog 80 = some false := by simp [tagg, Try.underlying80]
@[simp] theorem arr80 : arrOf Try.prog 80 = none := by simp [arrOf, Try.underlying80]
@[simp] theorem tsz81 : tsz Try.prog 81 = some 1 := by kernel_rfl
@[simp] theorem tby81 : tbytes Try.prog 81 = some 8 := by kernel_rfl
@[simp] theorem tze81 : tzero Try.prog 81 = some .nilFunc := by kernel_rfl
@[simp] theorem tag81 : tagg Try.prog 81 = some false := by simp [tagg, Try.underlying81]
@[simp] theorem arr81 : arrOf Try.prog 81 = none := by simp [arrOf, Try.underlying81]
@[simp] theorem tsz82 : tsz Try.prog 82 = some 1 := by kernel_rfl
@[simp] theorem tby82 : tbytes Try.prog 82 = some 8 := by kernel_rfl
@[simp] theorem tze82 : tzero Try.prog 82 = some .nilFunc := by kernel_rfl
@[simp] theorem tag82 : tagg Try.prog 82 = some false := by simp [tagg, Try.underlying82]
@[simp] theorem arr82 : arrOf Try.prog 82 = none := by simp [arrOf, Try.underlying82]
@[simp] theorem tsz83 : tsz Try.prog 83 = some 1 := by kernel_rfl
@[simp] theorem tby83 : tbytes Try.prog 83 = some 8 := by kernel_rfl
@[simp] theorem tze83 : tzero Try.prog 83 = some (.int .i64 (0)) := by kernel_rfl
@[simp] theorem tag83 : tagg Try.prog 83 = some false := by simp [tagg, Try.underlying83]
@[simp] theorem arr83 : arrOf Try.prog 83 = none := by simp [arrOf, Try.underlying83]
@[simp] theorem uin83 : uint Try.prog 83 = some .i64 := by kernel_rfl
@[simp] theorem pla83 : plainT Try.prog 83 = true := by kernel_rfl
@[simp] theorem tsz84 : tsz Try.prog 84 = some 7 := by kernel_rfl
@[simp] theorem tby84 : tbytes Try.prog 84 = some 48 := by kernel_rfl
@[simp] theorem tze84 : tzero Try.prog 84 = some (.agg #[(.int .i64 (0)), (.int .i64 (0)), (.int .i64 (0)), (.int .i64 (0)), (.int .u32 (0)), (.int .u32 (0)), (.int .i64 (0))]) := by kernel_rfl
@[simp] theorem tag84 : tagg Try.prog 84 = some true := by simp [tagg, Try.underlying84]
@[simp] theorem arr84 : arrOf Try.prog 84 = none := by simp [arrOf, Try.underlying84]
@[simp] theorem fsz84 : fieldsSized Try.prog 84 = true := by kernel_rfl
@[simp] theorem wid84 : wideT Try.prog 84 = true := by kernel_rfl
@[simp] theorem fld84_0 : fieldOf Try.prog 84 0 = some (3, 0) := by kernel_rfl
@[simp] theorem fld84_1 : fieldOf Try.prog 84 1 = some (3, 1) := by kernel_rfl
@[simp] theorem fld84_2 : fieldOf Try.prog 84 2 = some (3, 2) := by kernel_rfl
@[simp] theorem fld84_3 : fieldOf Try.prog 84 3 = some (83, 3) := by kernel_rfl
@[simp] theorem fld84_4 : fieldOf Try.prog 84 4 = some (33, 4) := by kernel_rfl
@[simp] theorem fld84_5 : fieldOf Try.prog 84 5 = some (3, 6) := by kernel_rfl
@[simp] theorem fli84 : fieldList Try.prog 84 = some [(3, 0), (3, 1), (3, 2), (83, 3), (33, 4), (3, 6)] := by kernel_rfl
@[simp] theorem eqg84 : Try.prog.eqGuardType Try.prog.depth 84 = false := by kernel_rfl
@[simp] theorem tsz85 : tsz Try.prog 85 = some 7 := by kernel_rfl
@[simp] theorem tby85 : tbytes Try.prog 85 = some 48 := by kernel_rfl
@[simp] theorem tze85 : tzero Try.prog 85 = some (.agg #[(.int .i64 (0)), (.int .i64 (0)), (.int .i64 (0)), (.int .i64 (0)), (.int .u32 (0)), (.int .u32 (0)), (.int .i64 (0))]) := by kernel_rfl
@[simp] theorem tag85 : tagg Try.prog 85 = some true := by simp [tagg, Try.underlying85]
@[simp] theorem arr85 : arrOf Try.prog 85 = none := by simp [arrOf, Try.underlying85]
@[simp] theorem fsz85 : fieldsSized Try.prog 85 = true := by kernel_rfl
@[simp] theorem wid85 : wideT Try.prog 85 = true := by kernel_rfl
@[simp] theorem fld85_0 : fieldOf Try.prog 85 0 = some (3, 0) := by kernel_rfl
@[simp] theorem fld85_1 : fieldOf Try.prog 85 1 = some (3, 1) := by kernel_rfl
@[simp] theorem fld85_2 : fieldOf Try.prog 85 2 = some (3, 2) := by kernel_rfl
@[simp] theorem fld85_3 : fieldOf Try.prog 85 3 = some (83, 3) := by kernel_rfl
@[simp] theorem fld85_4 : fieldOf Try.prog 85 4 = some (33, 4) := by kernel_rfl
@[simp] theorem fld85_5 : fieldOf Try.prog 85 5 = some (3, 6) := by kernel_rfl
@[simp] theorem fli85 : fieldList Try.prog 85 = some [(3, 0), (3, 1), (3, 2), (83, 3), (33, 4), (3, 6)] := by kernel_rfl
@[simp] theorem eqg85 : Try.prog.eqGuardType Try.prog.depth 85 = false := by kernel_rfl
@[simp] theorem tsz86 : tsz Try.prog 86 = some 1 := by kernel_rfl
@[simp] theorem tby86 : tbytes Try.prog 86 = some 8 := by kernel_rfl
@[simp] theorem tze86 : tzero Try.prog 86 = some .nilFunc := by kernel_rfl
@[simp] theorem tag86 : tagg Try.prog 86 = some false := by simp [tagg, Try.underlying86]
@[simp] theorem arr86 : arrOf Try.prog 86 = none := by simp [arrOf, Try.underlying86]
@[simp] theorem tsz87 : tsz Try.prog 87 = some 1 := by kernel_rfl
@[simp] theorem tby87 : tbytes Try.prog 87 = some 8 := by kernel_rfl
@[simp] theorem tze87 : tzero Try.prog 87 = some .nilFunc := by kernel_rfl
@[simp] theorem tag87 : tagg Try.prog 87 = some false := by simp [tagg, Try.underlying87]
@[simp] theorem arr87 : arrOf Try.prog 87 = none := by simp [arrOf, Try.underlying87]
@[simp] theorem tsz88 : tsz Try.prog 88 = some 1 := by kernel_rfl
@[simp] theorem tby88 : tbytes Try.prog 88 = some 8 := by kernel_rfl
@[simp] theorem tze88 : tzero Try.prog 88 = some .nilFunc := by kernel_rfl
@[simp] theorem tag88 : tagg Try.prog 88 = some false := by simp [tagg, Try.underlying88]
@[simp] theorem arr88 : arrOf Try.prog 88 = none := by simp [arrOf, Try.underlying88]
@[simp] theorem tsz89 : tsz Try.prog 89 = some 1 := by kernel_rfl
@[simp] theorem tby89 : tbytes Try.prog 89 = some 8 := by kernel_rfl
@[simp] theorem tze89 : tzero Try.prog 89 = some .nilFunc := by kernel_rfl
@[simp] theorem tag89 : tagg Try.prog 89 = some false := by simp [tagg, Try.underlying89]
@[simp] theorem arr89 : arrOf Try.prog 89 = none := by simp [arrOf, Try.underlying89]
@[simp] theorem tsz90 : tsz Try.prog 90 = some 1 := by kernel_rfl
@[simp] theorem tby90 : tbytes Try.prog 90 = some 8 := by kernel_rfl
@[simp] theorem tze90 : tzero Try.prog 90 = some .nilFunc := by kernel_rfl
@[simp] theorem tag90 : tagg Try.prog 90 = some false := by simp [tagg, Try.underlying90]
@[simp] theorem arr90 : arrOf Try.prog 90 = none := by simp [arrOf, Try.underlying90]
@[simp] theorem tsz91 : tsz Try.prog 91 = some 1 := by kernel_rfl
@[simp] theorem tby91 : tbytes Try.prog 91 = some 8 := by kernel_rfl
@[simp] theorem tze91 : tzero Try.prog 91 = some .nilFunc := by kernel_rfl
@[simp] theorem tag91 : tagg Try.prog 91 = some false := by simp [tagg, Try.underlying91]
@[simp] theorem arr91 : arrOf Try.prog 91 = none := by simp [arrOf, Try.underlying91]
@[simp] theorem tsz92 : tsz Try.prog 92 = some 1 := by kernel_rfl
@[simp] theorem tby92 : tbytes Try.prog 92 = some 24 := by kernel_rfl
@[simp] theorem tze92 : tzero Try.prog 92 = some (.slice none 0 0) := by kernel_rfl
@[simp] theorem tag92 : tagg Try.prog 92 = some false := by simp [tagg, Try.underlying92]
@[simp] theorem arr92 : arrOf Try.prog 92 = none := by simp [arrOf, Try.underlying92]
@[simp] theorem elm92 : elemOf Try.prog 92 = some 33 := by kernel_rfl
@[simp] theorem tsz94 : tsz Try.prog 94 = some 1 := by kernel_rfl
@[simp] theorem tby94 : tbytes Try.prog 94 = some 8 := by kernel_rfl
@[simp] theorem tze94 : tzero Try.prog 94 = some .nilFunc := by kernel_rfl
@[simp] theorem tag94 : tagg Try.prog 94 = some false := by simp [tagg, Try.underlying94]
@[simp] theorem arr94 : arrOf Try.prog 94 = none := by simp [arrOf, Try.underlying94]
@[simp] theorem tsz95 : tsz Try.prog 95 = some 1 := by kernel_rfl
@[simp] theorem tby95 : tbytes Try.prog 95 = some 24 := by kernel_rfl
@[simp] theorem tze95 : tzero Try.prog 95 = some (.slice none 0 0) := by kernel_rfl
@[simp] theorem tag95 : tagg Try.prog 95 = some false := by simp [tagg, Try.underlying95]
@[simp] theorem arr95 : arrOf Try.prog 95 = none := by simp [arrOf, Try.underlying95]
@[simp] theorem elm95 : elemOf Try.prog 95 = some 28 := by kernel_rfl
@[simp] theorem tsz96 : tsz Try.prog 96 = some 1 := by kernel_rfl
@[simp] theorem tby96 : tbytes Try.prog 96 = some 8 := by kernel_rfl
@[simp] theorem tze96 : tzero Try.prog 96 = some .nilFunc := by kernel_rfl
@[simp] theorem tag96 : tagg Try.prog 96 = some false := by simp [tagg, Try.underlying96]
@[simp] theorem arr96 : arrOf Try.prog 96 = none := by simp [arrOf, Try.underlying96]
@[simp] theorem tsz97 : tsz Try.prog 97 = some 3 := by kernel_rfl
@[simp] theorem tby97 : tbytes Try.prog 97 = some 24 := by kernel_rfl
@[simp] theorem tze97 : tzero Try.prog 97 = some (.agg #[(.int .i64 (0)), (.int .i64 (0)), (.int .i64 (0))]) := by kernel_rfl
@[simp] theorem tag97 : tagg Try.prog 97 = some true := by simp [tagg, Try.underlying97]
@[simp] theorem arr97 : arrOf Try.prog 97 = none := by simp [arrOf, Try.underlying97]
@[simp] theorem fsz97 : fieldsSized Try.prog 97 = true := by kernel_rfl
@[simp] theorem wid97 : wideT Try.prog 97 = true := by kernel_rfl
@[simp] theorem fld97_0 : fieldOf Try.prog 97 0 = some (39, 0) := by kernel_rfl
@[simp] theorem fld97_1 : fieldOf Try.prog 97 1 = some (41, 1) := by kernel_rfl
@[simp] theorem fli97 : fieldList Try.prog 97 = some [(39, 0), (41, 1)] := by kernel_rfl
@[simp] theorem eqg97 : Try.prog.eqGuardType Try.prog.depth 97 = false := by kernel_rfl
@[simp] theorem tsz98 : tsz Try.prog 98 = some 3 := by kernel_rfl
@[simp] theorem tby98 : tbytes Try.prog 98 = some 24 := by kernel_rfl
@[simp] theorem tze98 : tzero Try.prog 98 = some (.agg #[(.int .i64 (0)), (.int .i64 (0)), (.int .i64 (0))]) := by kernel_rfl
@[simp] theorem tag98 : tagg Try.prog 98 = some true := by simp [tagg, Try.underlying98]
@[simp] theorem arr98 : arrOf Try.prog 98 = none := by simp [arrOf, Try.underlying98]
@[simp] theorem fsz98 : fieldsSized Try.prog 98 = true := by kernel_rfl
@[simp] theorem wid98 : wideT Try.prog 98 = true := by kernel_rfl
@[simp] theorem fld98_0 : fieldOf Try.prog 98 0 = some (39, 0) := by kernel_rfl
@[simp] theorem fld98_1 : fieldOf Try.prog 98 1 = some (41, 1) := by kernel_rfl
@[simp] theorem fli98 : fieldList Try.prog 98 = some [(39, 0), (41, 1)] := by kernel_rfl
@[simp] theorem eqg98 : Try.prog.eqGuardType Try.prog.depth 98 = false := by kernel_rfl
@[simp] theorem tsz99 : tsz Try.prog 99 = some 1 := by kernel_rfl
@[simp] theorem tby99 : tbytes Try.prog 99 = some 8 := by kernel_rfl
@[simp] theorem tze99 : tzero Try.prog 99 = some .nilFunc := by kernel_rfl
@[simp] theorem tag99 : tagg Try.prog 99 = some false := by simp [tagg, Try.underlying99]
@[simp] theorem arr99 : arrOf Try.prog 99 = none := by simp [arrOf, Try.underlying99]
@[simp] theorem tsz100 : tsz Try.prog 100 = some 1 := by kernel_rfl
@[simp] theorem tby100 : tbytes Try.prog 100 = some 8 := by kernel_rfl
@[simp] theorem tze100 : tzero Try.prog 100 = some .nilFunc := by kernel_rfl
@[simp] theorem tag100 : tagg Try.prog 100 = some false := by simp [tagg, Try.underlying100]
@[simp] theorem arr100 : arrOf Try.prog 100 = none := by simp [arrOf, Try.underlying100]
@[simp] theorem tsz101 : tsz Try.prog 101 = some 1 := by kernel_rfl
@[simp] theorem tby101 : tbytes Try.prog 101 = some 8 := by kernel_rfl
@[simp] theorem tze101 : tzero Try.prog 101 = some .nilFunc := by kernel_rfl
@[simp] theorem tag101 : tagg Try.prog 101 = some false := by simp [tagg, Try.underlying101]
@[simp] theorem arr101 : arrOf Try.prog 101 = none := by simp [arrOf, Try.underlying101]
@[simp] theorem tsz102 : tsz Try.prog 102 = some 1 := by kernel_rfl
@[simp] theorem tby102 : tbytes Try.prog 102 = some 8 := by kernel_rfl
@[simp] theorem tze102 : tzero Try.prog 102 = some (.pointer none) := by kernel_rfl
@[simp] theorem tag102 : tagg Try.prog 102 = some false := by simp [tagg, Try.underlying102]
@[simp] theorem arr102 : arrOf Try.prog 102 = none := by simp [arrOf, Try.underlying102]
@[simp] theorem upt102 : uptr Try.prog 102 = true := by kernel_rfl
@[simp] theorem tsz103 : tsz Try.prog 103 = some 1 := by kernel_rfl
@[simp] theorem tby103 : tbytes Try.prog 103 = some 8 := by kernel_rfl
@[simp] theorem tze103 : tzero Try.prog 103 = some .nilFunc := by kernel_rfl
@[simp] theorem tag103 : tagg Try.prog 103 = some false := by simp [tagg, Try.underlying103]
@[simp] theorem arr103 : arrOf Try.prog 103 = none := by simp [arrOf, Try.underlying103]
@[simp] theorem tsz104 : tsz Try.prog 104 = some 1 := by kernel_rfl
@[simp] theorem tby104 : tbytes Try.prog 104 = some 8 := by kernel_rfl
@[simp] theorem tze104 : tzero Try.prog 104 = some .nilFunc := by kernel_rfl
@[simp] theorem tag104 : tagg Try.prog 104 = some false := by simp [tagg, Try.underlying104]
@[simp] theorem arr104 : arrOf Try.prog 104 = none := by simp [arrOf, Try.underlying104]
@[simp] theorem tsz105 : tsz Try.prog 105 = some 6 := by kernel_rfl
@[simp] theorem tby105 : tbytes Try.prog 105 = some 48 := by kernel_rfl
@[simp] theorem tze105 : tzero Try.prog 105 = some (.agg #[.nilFunc, .nilFunc, .nilFunc, .nilFunc, .nilFunc, .nilFunc]) := by kernel_rfl
@[simp] theorem tag105 : tagg Try.prog 105 = some true := by simp [tagg, Try.underlying105]
@[simp] theorem arr105 : arrOf Try.prog 105 = some (6, 104) := by simp [arrOf, Try.underlying105]
@[simp] theorem tsz106 : tsz Try.prog 106 = some 1 := by kernel_rfl
@[simp] theorem tby106 : tbytes Try.prog 106 = some 8 := by kernel_rfl
@[simp] theorem tze106 : tzero Try.prog 106 = some .nilFunc := by kernel_rfl
@[simp] theorem tag106 : tagg Try.prog 106 = some false := by simp [tagg, Try.underlying106]
@[simp] theorem arr106 : arrOf Try.prog 106 = none := by simp [arrOf, Try.underlying106]
@[simp] theorem tsz107 : tsz Try.prog 107 = some 1 := by kernel_rfl
@[simp] theorem tby107 : tbytes Try.prog 107 = some 8 := by kernel_rfl
@[simp] theorem tze107 : tzero Try.prog 107 = some .nilFunc := by kernel_rfl
@[simp] theorem tag107 : tagg Try.prog 107 = some false := by simp [tagg, Try.underlying107]
@[simp] theorem arr107 : arrOf Try.prog 107 = none := by simp [arrOf, Try.underlying107]
@[simp] theorem tsz108 : tsz Try.prog 108 = some 1 := by kernel_rfl
@[simp] theorem tby108 : tbytes Try.prog 108 = some 8 := by kernel_rfl
@[simp] theorem tze108 : tzero Try.prog 108 = some .nilFunc := by kernel_rfl
@[simp] theorem tag108 : tagg Try.prog 108 = some false := by simp [tagg, Try.underlying108]
@[simp] theorem arr108 : arrOf Try.prog 108 = none := by simp [arrOf, Try.underlying108]
@[simp] theorem tsz109 : tsz Try.prog 109 = some 1 := by kernel_rfl
@[simp] theorem tby109 : tbytes Try.prog 109 = some 8 := by kernel_rfl
@[simp] theorem tze109 : tzero Try.prog 109 = some (.pointer none) := by kernel_rfl
@[simp] theorem tag109 : tagg Try.prog 109 = some false := by simp [tagg, Try.underlying109]
@[simp] theorem arr109 : arrOf Try.prog 109 = none := by simp [arrOf, Try.underlying109]
@[simp] theorem upt109 : uptr Try.prog 109 = true := by kernel_rfl
@[simp] theorem tsz110 : tsz Try.prog 110 = some 1 := by kernel_rfl
@[simp] theorem tby110 : tbytes Try.prog 110 = some 8 := by kernel_rfl
@[simp] theorem tze110 : tzero Try.prog 110 = some .nilFunc := by kernel_rfl
@[simp] theorem tag110 : tagg Try.prog 110 = some false := by simp [tagg, Try.underlying110]
@[simp] theorem arr110 : arrOf Try.prog 110 = none := by simp [arrOf, Try.underlying110]
@[simp] theorem tsz111 : tsz Try.prog 111 = some 1 := by kernel_rfl
@[simp] theorem tby111 : tbytes Try.prog 111 = some 24 := by kernel_rfl
@[simp] theorem tze111 : tzero Try.prog 111 = some (.slice none 0 0) := by kernel_rfl
@[simp] theorem tag111 : tagg Try.prog 111 = some false := by simp [tagg, Try.underlying111]
@[simp] theorem arr111 : arrOf Try.prog 111 = none := by simp [arrOf, Try.underlying111]
@[simp] theorem elm111 : elemOf Try.prog 111 = some 22 := by kernel_rfl
@[simp] theorem tsz112 : tsz Try.prog 112 = some 5 := by kernel_rfl
@[simp] theorem tby112 : tbytes Try.prog 112 = some 104 := by kernel_rfl
@[simp] theorem tze112 : tzero Try.prog 112 = some (.agg #[(.slice none 0 0), (.slice none 0 0), (.slice none 0 0), (.pointer none), (.slice none 0 0)]) := by kernel_rfl
@[simp] theorem tag112 : tagg Try.prog 112 = some true := by simp [tagg, Try.underlying112]
@[simp] theorem arr112 : arrOf Try.prog 112 = none := by simp [arrOf, Try.underlying112]
@[simp] theorem fsz112 : fieldsSized Try.prog 112 = true := by kernel_rfl
@[simp] theorem wid112 : wideT Try.prog 112 = true := by kernel_rfl
@[simp] theorem fld112_0 : fieldOf Try.prog 112 0 = some (28, 0) := by kernel_rfl
@[simp] theorem fld112_1 : fieldOf Try.prog 112 1 = some (109, 3) := by kernel_rfl
@[simp] theorem fld112_2 : fieldOf Try.prog 112 2 = some (111, 4) := by kernel_rfl
@[simp] theorem fli112 : fieldList Try.prog 112 = some [(28, 0), (109, 3), (111, 4)] := by kernel_rfl
@[simp] theorem eqg112 : Try.prog.eqGuardType Try.prog.depth 112 = false := by kernel_rfl
@[simp] theorem tsz113 : tsz Try.prog 113 = some 5 := by kernel_rfl
@[simp] theorem tby113 : tbytes Try.prog 113 = some 104 := by kernel_rfl
@[simp] theorem tze113 : tzero Try.prog 113 = some (.agg #[(.slice none 0 0), (.slice none 0 0), (.slice none 0 0), (.pointer none), (.slice none 0 0)]) := by kernel_rfl
@[simp] theorem tag113 : tagg Try.prog 113 = some true := by simp [tagg, Try.underlying113]
@[simp] theorem arr113 : arrOf Try.prog 113 = none := by simp [arrOf, Try.underlying113]
@[simp] theorem fsz113 : fieldsSized Try.prog 113 = true := by kernel_rfl
@[simp] theorem wid113 : wideT Try.prog 113 = true := by kernel_rfl
@[simp] theorem fld113_0 : fieldOf Try.prog 113 0 = some (28, 0) := by kernel_rfl
@[simp] theorem fld113_1 : fieldOf Try.prog 113 1 = some (109, 3) := by kernel_rfl
@[simp] theorem fld113_2 : fieldOf Try.prog 113 2 = some (111, 4) := by kernel_rfl
@[simp] theorem fli113 : fieldList Try.prog 113 = some [(28, 0), (109, 3), (111, 4)] := by kernel_rfl
@[simp] theorem eqg113 : Try.prog.eqGuardType Try.prog.depth 113 = false := by kernel_rfl
@[simp] theorem tsz115 : tsz Try.prog 115 = some 1 := by kernel_rfl
@[simp] theorem tby115 : tbytes Try.prog 115 = some 8 := by kernel_rfl
@[simp] theorem tze115 : tzero Try.prog 115 = some .nilFunc := by kernel_rfl
@[simp] theorem tag115 : tagg Try.prog 115 = some false := by simp [tagg, Try.underlying115]
@[simp] theorem arr115 : arrOf Try.prog 115 = none := by simp [arrOf, Try.underlying115]
@[simp] theorem tsz116 : tsz Try.prog 116 = some 1 := by kernel_rfl
@[simp] theorem tby116 : tbytes Try.prog 116 = some 8 := by kernel_rfl
@[simp] theorem tze116 : tzero Try.prog 116 = some .nilFunc := by kernel_rfl
@[simp] theorem tag116 : tagg Try.prog 116 = some false := by simp [tagg, Try.underlying116]
@[simp] theorem arr116 : arrOf Try.prog 116 = none := by simp [arrOf, Try.underlying116]
@[simp] theorem tsz118 : tsz Try.prog 118 = some 1 := by kernel_rfl
@[simp] theorem tby118 : tbytes Try.prog 118 = some 8 := by kernel_rfl
@[simp] theorem tze118 : tzero Try.prog 118 = some .nilFunc := by kernel_rfl
@[simp] theorem tag118 : tagg Try.prog 118 = some false := by simp [tagg, Try.underlying118]
@[simp] theorem arr118 : arrOf Try.prog 118 = none := by simp [arrOf, Try.underlying118]
@[simp] theorem tsz119 : tsz Try.prog 119 = some 34 := by kernel_rfl
@[simp] theorem tby119 : tbytes Try.prog 119 = some 464 := by kernel_rfl
@[simp] theorem tze119 : tzero Try.prog 119 = some (.agg #[(.slice none 0 0), (.slice none 0 0), (.slice none 0 0), (.slice none 0 0), (.slice none 0 0), (.slice none 0 0), (.int .i64 (0)), (.int .i64 (0)), (.int .i64 (0)), (.int .i64 (0)), (.int .u32 (0)), (.int .u32 (0)), (.string ⟨#[]⟩), (.slice none 0 0), (.slice none 0 0), (.slice none 0 0), (.int .i64 (0)), (.slice none 0 0), (.int .i64 (0)), (.int .i64 (0)), (.int .i64 (0)), (.slice none 0 0), (.int .i64 (0)), (.int .i64 (0)), (.int .i64 (0)), .nilFunc, (.bool false), (.bool false), (.int .i64 (0)), (.int .u32 (0)), (.slice none 0 0), (.int .i64 (0)), (.int .i64 (0)), (.int .i64 (0))]) := by kernel_rfl
@[simp] theorem tag119 : tagg Try.prog 119 = some true := by simp [tagg, Try.underlying119]
@[simp] theorem arr119 : arrOf Try.prog 119 = none := by simp [arrOf, Try.underlying119]
@[simp] theorem fsz119 : fieldsSized Try.prog 119 = true := by kernel_rfl
@[simp] theorem wid119 : wideT Try.prog 119 = true := by kernel_rfl
@[simp] theorem fld119_0 : fieldOf Try.prog 119 0 = some (28, 0) := by kernel_rfl
@[simp] theorem fld119_1 : fieldOf Try.prog 119 1 = some (28, 3) := by kernel_rfl
@[simp] theorem fld119_2 : fieldOf Try.prog 119 2 = some (37, 6) := by kernel_rfl
@[simp] theorem fld119_3 : fieldOf Try.prog 119 3 = some (22, 13) := by kernel_rfl
@[simp] theorem fld119_4 : fieldOf Try.prog 119 4 = some (92, 14) := by kernel_rfl
@[simp] theorem fld119_5 : fieldOf Try.prog 119 5 = some (92, 15) := by kernel_rfl
@[simp] theorem fld119_6 : fieldOf Try.prog 119 6 = some (3, 16) := by kernel_rfl
@[simp] theorem fld119_7 : fieldOf Try.prog 119 7 = some (43, 17) := by kernel_rfl
@[simp] theorem fld119_8 : fieldOf Try.prog 119 8 = some (43, 21) := by kernel_rfl
@[simp] theorem fld119_9 : fieldOf Try.prog 119 9 = some (1, 25) := by kernel_rfl
@[simp] theorem fld119_10 : fieldOf Try.prog 119 10 = some (4, 26) := by kernel_rfl
@[simp] theorem fld119_11 : fieldOf Try.prog 119 11 = some (45, 27) := by kernel_rfl
@[simp] theorem fli119 : fieldList Try.prog 119 = some [(28, 0), (28, 3), (37, 6), (22, 13), (92, 14), (92, 15), (3, 16), (43, 17), (43, 21), (1, 25), (4, 26), (45, 27)] := by kernel_rfl
@[simp] theorem eqg119 : Try.prog.eqGuardType Try.prog.depth 119 = false := by kernel_rfl
@[simp] theorem tsz120 : tsz Try.prog 120 = some 34 := by kernel_rfl
@[simp] theorem tby120 : tbytes Try.prog 120 = some 464 := by kernel_rfl
@[simp] theorem tze120 : tzero Try.prog 120 = some (.agg #[(.slice none 0 0), (.slice none 0 0), (.slice none 0 0), (.slice none 0 0), (.slice none 0 0), (.slice none 0 0), (.int .i64 (0)), (.int .i64 (0)), (.int .i64 (0)), (.int .i64 (0)), (.int .u32 (0)), (.int .u32 (0)), (.string ⟨#[]⟩), (.slice none 0 0), (.slice none 0 0), (.slice none 0 0), (.int .i64 (0)), (.slice none 0 0), (.int .i64 (0)), (.int .i64 (0)), (.int .i64 (0)), (.slice none 0 0), (.int .i64 (0)), (.int .i64 (0)), (.int .i64 (0)), .nilFunc, (.bool false), (.bool false), (.int .i64 (0)), (.int .u32 (0)), (.slice none 0 0), (.int .i64 (0)), (.int .i64 (0)), (.int .i64 (0))]) := by kernel_rfl
@[simp] theorem tag120 : tagg Try.prog 120 = some true := by simp [tagg, Try.underlying120]
@[simp] theorem arr120 : arrOf Try.prog 120 = none := by simp [arrOf, Try.underlying120]
@[simp] theorem fsz120 : fieldsSized Try.prog 120 = true := by kernel_rfl
@[simp] theorem wid120 : wideT Try.prog 120 = true := by kernel_rfl
@[simp] theorem fld120_0 : fieldOf Try.prog 120 0 = some (28, 0) := by kernel_rfl
@[simp] theorem fld120_1 : fieldOf Try.prog 120 1 = some (28, 3) := by kernel_rfl
@[simp] theorem fld120_2 : fieldOf Try.prog 120 2 = some (37, 6) := by kernel_rfl
@[simp] theorem fld120_3 : fieldOf Try.prog 120 3 = some (22, 13) := by kernel_rfl
@[simp] theorem fld120_4 : fieldOf Try.prog 120 4 = some (92, 14) := by kernel_rfl
@[simp] theorem fld120_5 : fieldOf Try.prog 120 5 = some (92, 15) := by kernel_rfl
@[simp] theorem fld120_6 : fieldOf Try.prog 120 6 = some (3, 16) := by kernel_rfl
@[simp] theorem fld120_7 : fieldOf Try.prog 120 7 = some (43, 17) := by kernel_rfl
@[simp] theorem fld120_8 : fieldOf Try.prog 120 8 = some (43, 21) := by kernel_rfl
@[simp] theorem fld120_9 : fieldOf Try.prog 120 9 = some (1, 25) := by kernel_rfl
@[simp] theorem fld120_10 : fieldOf Try.prog 120 10 = some (4, 26) := by kernel_rfl
@[simp] theorem fld120_11 : fieldOf Try.prog 120 11 = some (45, 27) := by kernel_rfl
@[simp] theorem fli120 : fieldList Try.prog 120 = some [(28, 0), (28, 3), (37, 6), (22, 13), (92, 14), (92, 15), (3, 16), (43, 17), (43, 21), (1, 25), (4, 26), (45, 27)] := by kernel_rfl
@[simp] theorem eqg120 : Try.prog.eqGuardType Try.prog.depth 120 = false := by kernel_rfl
@[simp] theorem tsz121 : tsz Try.prog 121 = some 1 := by kernel_rfl
@[simp] theorem tby121 : tbytes Try.prog 121 = some 8 := by kernel_rfl
@[simp] theorem tze121 : tzero Try.prog 121 = some .nilFunc := by kernel_rfl
@[simp] theorem tag121 : tagg Try.prog 121 = some false := by simp [tagg, Try.underlying121]
@[simp] theorem arr121 : arrOf Try.prog 121 = none := by simp [arrOf, Try.underlying121]
@[simp] theorem tsz122 : tsz Try.prog 122 = some 1 := by kernel_rfl
@[simp] theorem tby122 : tbytes Try.prog 122 = some 8 := by kernel_rfl
@[simp] theorem tze122 : tzero Try.prog 122 = some .nilFunc := by kernel_rfl
@[simp] theorem tag122 : tagg Try.prog 122 = some false := by simp [tagg, Try.underlying122]
@[simp] theorem arr122 : arrOf Try.prog 122 = none := by simp [arrOf, Try.underlying122]
@[simp] theorem tsz123 : tsz Try.prog 123 = some 1 := by kernel_rfl
@[simp] theorem tby123 : tbytes Try.prog 123 = some 8 := by kernel_rfl
@[simp] theorem tze123 : tzero Try.prog 123 = some .nilFunc := by kernel_rfl
@[simp] theorem tag123 : tagg Try.prog 123 = some false := by simp [tagg, Try.underlying123]
@[simp] theorem arr123 : arrOf Try.prog 123 = none := by simp [arrOf, Try.underlying123]
@[simp] theorem tsz124 : tsz Try.prog 124 = some 1 := by kernel_rfl
@[simp] theorem tby124 : tbytes Try.prog 124 = some 8 := by kernel_rfl
@[simp] theorem tze124 : tzero Try.prog 124 = some .nilFunc := by kernel_rfl
@[simp] theorem tag124 : tagg Try.prog 124 = some false := by simp [tagg, Try.underlying124]
@[simp] theorem arr124 : arrOf Try.prog 124 = none := by simp [arrOf, Try.underlying124]
@[simp] theorem tsz125 : tsz Try.prog 125 = some 1 := by kernel_rfl
@[simp] theorem tby125 : tbytes Try.prog 125 = some 8 := by kernel_rfl
@[simp] theorem tze125 : tzero Try.prog 125 = some .nilFunc := by kernel_rfl
@[simp] theorem tag125 : tagg Try.prog 125 = some false := by simp [tagg, Try.underlying125]
@[simp] theorem arr125 : arrOf Try.prog 125 = none := by simp [arrOf, Try.underlying125]
@[simp] theorem tsz126 : tsz Try.prog 126 = some 1 := by kernel_rfl
@[simp] theorem tby126 : tbytes Try.prog 126 = some 8 := by kernel_rfl
@[simp] theorem tze126 : tzero Try.prog 126 = some .nilFunc := by kernel_rfl
@[simp] theorem tag126 : tagg Try.prog 126 = some false := by simp [tagg, Try.underlying126]
@[simp] theorem arr126 : arrOf Try.prog 126 = none := by simp [arrOf, Try.underlying126]
@[simp] theorem tsz127 : tsz Try.prog 127 = some 1 := by kernel_rfl
@[simp] theorem tby127 : tbytes Try.prog 127 = some 8 := by kernel_rfl
@[simp] theorem tze127 : tzero Try.prog 127 = some .nilFunc := by kernel_rfl
@[simp] theorem tag127 : tagg Try.prog 127 = some false := by simp [tagg, Try.underlying127]
@[simp] theorem arr127 : arrOf Try.prog 127 = none := by simp [arrOf, Try.underlying127]
@[simp] theorem tsz128 : tsz Try.prog 128 = some 4 := by kernel_rfl
@[simp] theorem tby128 : tbytes Try.prog 128 = some 32 := by kernel_rfl
@[simp] theorem tze128 : tzero Try.prog 128 = some (.agg #[(.int .i64 (0)), (.int .i64 (0)), (.int .i64 (0)), (.int .i64 (0))]) := by kernel_rfl
@[simp] theorem tag128 : tagg Try.prog 128 = some true := by simp [tagg, Try.underlying128]
@[simp] theorem arr128 : arrOf Try.prog 128 = none := by simp [arrOf, Try.underlying128]
@[simp] theorem fsz128 : fieldsSized Try.prog 128 = true := by kernel_rfl
@[simp] theorem wid128 : wideT Try.prog 128 = true := by kernel_rfl
@[simp] theorem fld128_0 : fieldOf Try.prog 128 0 = some (41, 0) := by kernel_rfl
@[simp] theorem fld128_1 : fieldOf Try.prog 128 1 = some (41, 2) := by kernel_rfl
@[simp] theorem fli128 : fieldList Try.prog 128 = some [(41, 0), (41, 2)] := by kernel_rfl
@[simp] theorem eqg128 : Try.prog.eqGuardType Try.prog.depth 128 = false := by kernel_rfl
@[simp] theorem tsz129 : tsz Try.prog 129 = some 4 := by kernel_rfl
@[simp] theorem tby129 : tbytes Try.prog 129 = some 32 := by kernel_rfl
@[simp] theorem tze129 : tzero Try.prog 129 = some (.agg #[(.int .i64 (0)), (.int .i64 (0)), (.int .i64 (0)), (.int .i64 (0))]) := by kernel_rfl
@[simp] theorem tag129 : tagg Try.prog 129 = some true := by simp [tagg, Try.underlying129]
@[simp] theorem arr129 : arrOf Try.prog 129 = none := by simp [arrOf, Try.underlying129]
@[simp] theorem fsz129 : fieldsSized Try.prog 129 = true := by kernel_rfl
@[simp] theorem wid129 : wideT Try.prog 129 = true := by kernel_rfl
@[simp] theorem fld129_0 : fieldOf Try.prog 129 0 = some (41, 0) := by kernel_rfl
@[simp] theorem fld129_1 : fieldOf Try.prog 129 1 = some (41, 2) := by kernel_rfl
@[simp] theorem fli129 : fieldList Try.prog 129 = some [(41, 0), (41, 2)] := by kernel_rfl
@[simp] theorem eqg129 : Try.prog.eqGuardType Try.prog.depth 129 = false := by kernel_rfl
@[simp] theorem tsz130 : tsz Try.prog 130 = some 1 := by kernel_rfl
@[simp] theorem tby130 : tbytes Try.prog 130 = some 8 := by kernel_rfl
@[simp] theorem tze130 : tzero Try.prog 130 = some .nilFunc := by kernel_rfl
@[simp] theorem tag130 : tagg Try.prog 130 = some false := by simp [tagg, Try.underlying130]
@[simp] theorem arr130 : arrOf Try.prog 130 = none := by simp [arrOf, Try.underlying130]
@[simp] theorem tsz131 : tsz Try.prog 131 = some 1 := by kernel_rfl
@[simp] theorem tby131 : tbytes Try.prog 131 = some 8 := by kernel_rfl
@[simp] theorem tze131 : tzero Try.prog 131 = some .nilFunc := by kernel_rfl
@[simp] theorem tag131 : tagg Try.prog 131 = some false := by simp [tagg, Try.underlying131]
@[simp] theorem arr131 : arrOf Try.prog 131 = none := by simp [arrOf, Try.underlying131]
@[simp] theorem tsz132 : tsz Try.prog 132 = some 1 := by kernel_rfl
@[simp] theorem tby132 : tbytes Try.prog 132 = some 8 := by kernel_rfl
@[simp] theorem tze132 : tzero Try.prog 132 = some .nilFunc := by kernel_rfl
@[simp] theorem tag132 : tagg Try.prog 132 = some false := by simp [tagg, Try.underlying132]
@[simp] theorem arr132 : arrOf Try.prog 132 = none := by simp [arrOf, Try.underlying132]
@[simp] theorem tsz133 : tsz Try.prog 133 = some 1 := by kernel_rfl
@[simp] theorem tby133 : tbytes Try.prog 133 = some 8 := by kernel_rfl
@[simp] theorem tze133 : tzero Try.prog 133 = some .nilFunc := by kernel_rfl
@[simp] theorem tag133 : tagg Try.prog 133 = some false := by simp [tagg, Try.underlying133]
@[simp] theorem arr133 : arrOf Try.prog 133 = none := by simp [arrOf, Try.underlying133]
@[simp] theorem tsz135 : tsz Try.prog 135 = some 1 := by kernel_rfl
@[simp] theorem tby135 : tbytes Try.prog 135 = some 8 := by kernel_rfl
@[simp] theorem tze135 : tzero Try.prog 135 = some .nilFunc := by kernel_rfl
@[simp] theorem tag135 : tagg Try.prog 135 = some false := by simp [tagg, Try.underlying135]
@[simp] theorem arr135 : arrOf Try.prog 135 = none := by simp [arrOf, Try.underlying135]
@[simp] theorem tsz136 : tsz Try.prog 136 = some 1 := by kernel_rfl
@[simp] theorem tby136 : tbytes Try.prog 136 = some 8 := by kernel_rfl
@[simp] theorem tze136 : tzero Try.prog 136 = some .nilFunc := by kernel_rfl
@[simp] theorem tag136 : tagg Try.prog 136 = some false := by simp [tagg, Try.underlying136]
@[simp] theorem arr136 : arrOf Try.prog 136 = none := by simp [arrOf, Try.underlying136]
@[simp] theorem tsz137 : tsz Try.prog 137 = some 1 := by kernel_rfl
@[simp] theorem tby137 : tbytes Try.prog 137 = some 8 := by kernel_rfl
@[simp] theorem tze137 : tzero Try.prog 137 = some .nilFunc := by kernel_rfl
@[simp] theorem tag137 : tagg Try.prog 137 = some false := by simp [tagg, Try.underlying137]
@[simp] theorem arr137 : arrOf Try.prog 137 = none := by simp [arrOf, Try.underlying137]
@[simp] theorem tsz138 : tsz Try.prog 138 = some 1 := by kernel_rfl
@[simp] theorem tby138 : tbytes Try.prog 138 = some 8 := by kernel_rfl
@[simp] theorem tze138 : tzero Try.prog 138 = some .nilFunc := by kernel_rfl
@[simp] theorem tag138 : tagg Try.prog 138 = some false := by simp [tagg, Try.underlying138]
@[simp] theorem arr138 : arrOf Try.prog 138 = none := by simp [arrOf, Try.underlying138]
@[simp] theorem tsz139 : tsz Try.prog 139 = some 1 := by kernel_rfl
@[simp] theorem tby139 : tbytes Try.prog 139 = some 8 := by kernel_rfl
@[simp] theorem tze139 : tzero Try.prog 139 = some .nilFunc := by kernel_rfl
@[simp] theorem tag139 : tagg Try.prog 139 = some false := by simp [tagg, Try.underlying139]
@[simp] theorem arr139 : arrOf Try.prog 139 = none := by simp [arrOf, Try.underlying139]
@[simp] theorem tsz140 : tsz Try.prog 140 = some 1 := by kernel_rfl
@[simp] theorem tby140 : tbytes Try.prog 140 = some 8 := by kernel_rfl
@[simp] theorem tze140 : tzero Try.prog 140 = some .nilFunc := by kernel_rfl
@[simp] theorem tag140 : tagg Try.prog 140 = some false := by simp [tagg, Try.underlying140]
@[simp] theorem arr140 : arrOf Try.prog 140 = none := by simp [arrOf, Try.underlying140]
@[simp] theorem tsz141 : tsz Try.prog 141 = some 1 := by kernel_rfl
@[simp] theorem tby141 : tbytes Try.prog 141 = some 8 := by kernel_rfl
@[simp] theorem tze141 : tzero Try.prog 141 = some .nilFunc := by kernel_rfl
@[simp] theorem tag141 : tagg Try.prog 141 = some false := by simp [tagg, Try.underlying141]
@[simp] theorem arr141 : arrOf Try.prog 141 = none := by simp [arrOf, Try.underlying141]
@[simp] theorem tsz142 : tsz Try.prog 142 = some 1 := by kernel_rfl
@[simp] theorem tby142 : tbytes Try.prog 142 = some 8 := by kernel_rfl
@[simp] theorem tze142 : tzero Try.prog 142 = some .nilFunc := by kernel_rfl
@[simp] theorem tag142 : tagg Try.prog 142 = some false := by simp [tagg, Try.underlying142]
@[simp] theorem arr142 : arrOf Try.prog 142 = none := by simp [arrOf, Try.underlying142]
@[simp] theorem tsz143 : tsz Try.prog 143 = some 1 := by kernel_rfl
@[simp] theorem tby143 : tbytes Try.prog 143 = some 8 := by kernel_rfl
@[simp] theorem tze143 : tzero Try.prog 143 = some (.pointer none) := by kernel_rfl
@[simp] theorem tag143 : tagg Try.prog 143 = some false := by simp [tagg, Try.underlying143]
@[simp] theorem arr143 : arrOf Try.prog 143 = none := by simp [arrOf, Try.underlying143]
@[simp] theorem upt143 : uptr Try.prog 143 = true := by kernel_rfl
@[simp] theorem tsz145 : tsz Try.prog 145 = some 1 := by kernel_rfl
@[simp] theorem tby145 : tbytes Try.prog 145 = some 8 := by kernel_rfl
@[simp] theorem tze145 : tzero Try.prog 145 = some .nilFunc := by kernel_rfl
@[simp] theorem tag145 : tagg Try.prog 145 = some false := by simp [tagg, Try.underlying145]
@[simp] theorem arr145 : arrOf Try.prog 145 = none := by simp [arrOf, Try.underlying145]
@[simp] theorem tsz146 : tsz Try.prog 146 = some 1 := by kernel_rfl
@[simp] theorem tby146 : tbytes Try.prog 146 = some 8 := by kernel_rfl
@[simp] theorem tze146 : tzero Try.prog 146 = some .nilFunc := by kernel_rfl
@[simp] theorem tag146 : tagg Try.prog 146 = some false := by simp [tagg, Try.underlying146]
@[simp] theorem arr146 : arrOf Try.prog 146 = none := by simp [arrOf, Try.underlying146]
@[simp] theorem tsz147 : tsz Try.prog 147 = some 1 := by kernel_rfl
@[simp] theorem tby147 : tbytes Try.prog 147 = some 8 := by kernel_rfl
@[simp] theorem tze147 : tzero Try.prog 147 = some (.int .u64 (0)) := by kernel_rfl
@[simp] theorem tag147 : tagg Try.prog 147 = some false := by simp [tagg, Try.underlying147]
@[simp] theorem arr147 : arrOf Try.prog 147 = none := by simp [arrOf, Try.underlying147]
@[simp] theorem uin147 : uint Try.prog 147 = some .u64 := by kernel_rfl
@[simp] theorem pla147 : plainT Try.prog 147 = true := by kernel_rfl
@[simp] theorem tsz148 : tsz Try.prog 148 = some 3 := by kernel_rfl
@[simp] theorem tby148 : tbytes Try.prog 148 = some 24 := by kernel_rfl
@[simp] theorem tze148 : tzero Try.prog 148 = some (.agg #[(.pointer none), (.pointer none), (.int .i64 (0))]) := by kernel_rfl
@[simp] theorem tag148 : tagg Try.prog 148 = some true := by simp [tagg, Try.underlying148]
@[simp] theorem arr148 : arrOf Try.prog 148 = none := by simp [arrOf, Try.underlying148]
@[simp] theorem fsz148 : fieldsSized Try.prog 148 = true := by kernel_rfl
@[simp] theorem wid148 : wideT Try.prog 148 = true := by kernel_rfl
@[simp] theorem fld148_0 : fieldOf Try.prog 148 0 = some (143, 0) := by kernel_rfl
@[simp] theorem fld148_1 : fieldOf Try.prog 148 1 = some (143, 1) := by kernel_rfl
@[simp] theorem fld148_2 : fieldOf Try.prog 148 2 = some (3, 2) := by kernel_rfl
@[simp] theorem fli148 : fieldList Try.prog 148 = some [(143, 0), (143, 1), (3, 2)] := by kernel_rfl
@[simp] theorem eqg148 : Try.prog.eqGuardType Try.prog.depth 148 = false := by kernel_rfl
@[simp] theorem tsz149 : tsz Try.prog 149 = some 3 := by kernel_rfl
@[simp] theorem tby149 : tbytes Try.prog 149 = some 24 := by kernel_rfl
@[simp] theorem tze149 : tzero Try.prog 149 = some (.agg #[(.pointer none), (.pointer none), (.int .i64 (0))]) := by kernel_rfl
@[simp] theorem tag149 : tagg Try.prog 149 = some true := by simp [tagg, Try.underlying149]
@[simp] theorem arr149 : arrOf Try.prog 149 = none := by simp [arrOf, Try.underlying149]
@[simp] theorem fsz149 : fieldsSized Try.prog 149 = true := by kernel_rfl
@[simp] theorem wid149 : wideT Try.prog 149 = true := by kernel_rfl
@[simp] theorem fld149_0 : fieldOf Try.prog 149 0 = some (143, 0) := by kernel_rfl
@[simp] theorem fld149_1 : fieldOf Try.prog 149 1 = some (143, 1) := by kernel_rfl
@[simp] theorem fld149_2 : fieldOf Try.prog 149 2 = some (3, 2) := by kernel_rfl
@[simp] theorem fli149 : fieldList Try.prog 149 = some [(143, 0), (143, 1), (3, 2)] := by kernel_rfl
@[simp] theorem eqg149 : Try.prog.eqGuardType Try.prog.depth 149 = false := by kernel_rfl
@[simp] theorem tsz150 : tsz Try.prog 150 = some 1 := by kernel_rfl
@[simp] theorem tby150 : tbytes Try.prog 150 = some 8 := by kernel_rfl
@[simp] theorem tze150 : tzero Try.prog 150 = some .nilFunc := by kernel_rfl
@[simp] theorem tag150 : tagg Try.prog 150 = some false := by simp [tagg, Try.underlying150]
@[simp] theorem arr150 : arrOf Try.prog 150 = none := by simp [arrOf, Try.underlying150]
@[simp] theorem tsz151 : tsz Try.prog 151 = some 2 := by kernel_rfl
@[simp] theorem tby151 : tbytes Try.prog 151 = some 16 := by kernel_rfl
@[simp] theorem tze151 : tzero Try.prog 151 = some (.agg #[(.int .u64 (0)), (.int .i64 (0))]) := by kernel_rfl
@[simp] theorem tag151 : tagg Try.prog 151 = some true := by simp [tagg, Try.underlying151]
@[simp] theorem arr151 : arrOf Try.prog 151 = none := by simp [arrOf, Try.underlying151]
@[simp] theorem fsz151 : fieldsSized Try.prog 151 = true := by kernel_rfl
@[simp] theorem wid151 : wideT Try.prog 151 = true := by kernel_rfl
@[simp] theorem fld151_0 : fieldOf Try.prog 151 0 = some (147, 0) := by kernel_rfl
@[simp] theorem fld151_1 : fieldOf Try.prog 151 1 = some (3, 1) := by kernel_rfl
@[simp] theorem fli151 : fieldList Try.prog 151 = some [(147, 0), (3, 1)] := by kernel_rfl
@[simp] theorem eqg151 : Try.prog.eqGuardType Try.prog.depth 151 = false := by kernel_rfl
@[simp] theorem tsz152 : tsz Try.prog 152 = some 2 := by kernel_rfl
@[simp] theorem tby152 : tbytes Try.prog 152 = some 16 := by kernel_rfl
@[simp] theorem tze152 : tzero Try.prog 152 = some (.agg #[(.int .u64 (0)), (.int .i64 (0))]) := by kernel_rfl
@[simp] theorem tag152 : tagg Try.prog 152 = some true := by simp [tagg, Try.underlying152]
@[simp] theorem arr152 : arrOf Try.prog 152 = none := by simp [arrOf, Try.underlying152]
@[simp] theorem fsz152 : fieldsSized Try.prog 152 = true := by kernel_rfl
@[simp] theorem wid152 : wideT Try.prog 152 = true := by kernel_rfl
@[simp] theorem fld152_0 : fieldOf Try.prog 152 0 = some (147, 0) := by kernel_rfl
@[simp] theorem fld152_1 : fieldOf Try.prog 152 1 = some (3, 1) := by kernel_rfl
@[simp] theorem fli152 : fieldList Try.prog 152 = some [(147, 0), (3, 1)] := by kernel_rfl
@[simp] theorem eqg152 : Try.prog.eqGuardType Try.prog.depth 152 = false := by kernel_rfl
@[simp] theorem tsz154 : tsz Try.prog 154 = some 1 := by kernel_rfl
@[simp] theorem tby154 : tbytes Try.prog 154 = some 8 := by kernel_rfl
@[simp] theorem tze154 : tzero Try.prog 154 = some .nilFunc := by kernel_rfl
@[simp] theorem tag154 : tagg Try.prog 154 = some false := by simp [tagg, Try.underlying154]
@[simp] theorem arr154 : arrOf Try.prog 154 = none := by simp [arrOf, Try.underlying154]
@[simp] theorem tsz155 : tsz Try.prog 155 = some 1 := by kernel_rfl
@[simp] theorem tby155 : tbytes Try.prog 155 = some 8 := by kernel_rfl
@[simp] theorem tze155 : tzero Try.prog 155 = some .nilFunc := by kernel_rfl
@[simp] theorem tag155 : tagg Try.prog 155 = some false := by simp [tagg, Try.underlying155]
@[simp] theorem arr155 : arrOf Try.prog 155 = none := by simp [arrOf, Try.underlying155]
@[simp] theorem tsz157 : tsz Try.prog 157 = some 1 := by kernel_rfl
@[simp] theorem tby157 : tbytes Try.prog 157 = some 8 := by kernel_rfl
@[simp] theorem tze157 : tzero Try.prog 157 = some .nilFunc := by kernel_rfl
@[simp] theorem tag157 : tagg Try.prog 157 = some false := by simp [tagg, Try.underlying157]
@[simp] theorem arr157 : arrOf Try.prog 157 = none := by simp [arrOf, Try.underlying157]
@[simp] theorem tsz158 : tsz Try.prog 158 = some 1 := by kernel_rfl
@[simp] theorem tby158 : tbytes Try.prog 158 = some 8 := by kernel_rfl
@[simp] theorem tze158 : tzero Try.prog 158 = some .nilFunc := by kernel_rfl
@[simp] theorem tag158 : tagg Try.prog 158 = some false := by simp [tagg, Try.underlying158]
@[simp] theorem arr158 : arrOf Try.prog 158 = none := by simp [arrOf, Try.underlying158]
@[simp] theorem tsz159 : tsz Try.prog 159 = some 1 := by kernel_rfl
@[simp] theorem tby159 : tbytes Try.prog 159 = some 8 := by kernel_rfl
@[simp] theorem tze159 : tzero Try.prog 159 = some .nilFunc := by kernel_rfl
@[simp] theorem tag159 : tagg Try.prog 159 = some false := by simp [tagg, Try.underlying159]
@[simp] theorem arr159 : arrOf Try.prog 159 = none := by simp [arrOf, Try.underlying159]
@[simp] theorem tsz160 : tsz Try.prog 160 = some 1 := by kernel_rfl
@[simp] theorem tby160 : tbytes Try.prog 160 = some 8 := by kernel_rfl
@[simp] theorem tze160 : tzero Try.prog 160 = some .nilFunc := by kernel_rfl
@[simp] theorem tag160 : tagg Try.prog 160 = some false := by simp [tagg, Try.underlying160]
@[simp] theorem arr160 : arrOf Try.prog 160 = none := by simp [arrOf, Try.underlying160]
@[simp] theorem tsz161 : tsz Try.prog 161 = some 1 := by kernel_rfl
@[simp] theorem tby161 : tbytes Try.prog 161 = some 8 := by kernel_rfl
@[simp] theorem tze161 : tzero Try.prog 161 = some .nilFunc := by kernel_rfl
@[simp] theorem tag161 : tagg Try.prog 161 = some false := by simp [tagg, Try.underlying161]
@[simp] theorem arr161 : arrOf Try.prog 161 = none := by simp [arrOf, Try.underlying161]
@[simp] theorem tsz162 : tsz Try.prog 162 = some 1 := by kernel_rfl
@[simp] theorem tby162 : tbytes Try.prog 162 = some 8 := by kernel_rfl
@[simp] theorem tze162 : tzero Try.prog 162 = some .nilFunc := by kernel_rfl
@[simp] theorem tag162 : tagg Try.prog 162 = some false := by simp [tagg, Try.underlying162]
@[simp] theorem arr162 : arrOf Try.prog 162 = none := by simp [arrOf, Try.underlying162]
@[simp] theorem tsz163 : tsz Try.prog 163 = some 1 := by kernel_rfl
@[simp] theorem tby163 : tbytes Try.prog 163 = some 8 := by kernel_rfl
@[simp] theorem tze163 : tzero Try.prog 163 = some .nilFunc := by kernel_rfl
@[simp] theorem tag163 : tagg Try.prog 163 = some false := by simp [tagg, Try.underlying163]
@[simp] theorem arr163 : arrOf Try.prog 163 = none := by simp [arrOf, Try.underlying163]
@[simp] theorem tsz164 : tsz Try.prog 164 = some 1 := by kernel_rfl
@[simp] theorem tby164 : tbytes Try.prog 164 = some 8 := by kernel_rfl
@[simp] theorem tze164 : tzero Try.prog 164 = some .nilFunc := by kernel_rfl
@[simp] theorem tag164 : tagg Try.prog 164 = some false := by simp [tagg, Try.underlying164]
@[simp] theorem arr164 : arrOf Try.prog 164 = none := by simp [arrOf, Try.underlying164]
@[simp] theorem tsz165 : tsz Try.prog 165 = some 1 := by kernel_rfl
@[simp] theorem tby165 : tbytes Try.prog 165 = some 8 := by kernel_rfl
@[simp] theorem tze165 : tzero Try.prog 165 = some .nilFunc := by kernel_rfl
@[simp] theorem tag165 : tagg Try.prog 165 = some false := by simp [tagg, Try.underlying165]
@[simp] theorem arr165 : arrOf Try.prog 165 = none := by simp [arrOf, Try.underlying165]
@[simp] theorem tsz166 : tsz Try.prog 166 = some 1 := by kernel_rfl
@[simp] theorem tby166 : tbytes Try.prog 166 = some 8 := by kernel_rfl
@[simp] theorem tze166 : tzero Try.prog 166 = some .nilFunc := by kernel_rfl
@[simp] theorem tag166 : tagg Try.prog 166 = some false := by simp [tagg, Try.underlying166]
@[simp] theorem arr166 : arrOf Try.prog 166 = none := by simp [arrOf, Try.underlying166]
@[simp] theorem tsz167 : tsz Try.prog 167 = some 1 := by kernel_rfl
@[simp] theorem tby167 : tbytes Try.prog 167 = some 8 := by kernel_rfl
@[simp] theorem tze167 : tzero Try.prog 167 = some (.map none) := by kernel_rfl
@[simp] theorem tag167 : tagg Try.prog 167 = some false := by simp [tagg, Try.underlying167]
@[simp] theorem arr167 : arrOf Try.prog 167 = none := by simp [arrOf, Try.underlying167]
@[simp] theorem uma167 : umap Try.prog 167 = true := by kernel_rfl
@[simp] theorem mty167 : mapTypes Try.prog 167 = some (41, 41) := by kernel_rfl
@[simp] theorem tsz168 : tsz Try.prog 168 = some 1 := by kernel_rfl
@[simp] theorem tby168 : tbytes Try.prog 168 = some 8 := by kernel_rfl
@[simp] theorem tze168 : tzero Try.prog 168 = some .nilFunc := by kernel_rfl
@[simp] theorem tag168 : tagg Try.prog 168 = some false := by simp [tagg, Try.underlying168]
@[simp] theorem arr168 : arrOf Try.prog 168 = none := by simp [arrOf, Try.underlying168]
@[simp] theorem tsz169 : tsz Try.prog 169 = some 1 := by kernel_rfl
@[simp] theorem tby169 : tbytes Try.prog 169 = some 24 := by kernel_rfl
@[simp] theorem tze169 : tzero Try.prog 169 = some (.slice none 0 0) := by kernel_rfl
@[simp] theorem tag169 : tagg Try.prog 169 = some false := by simp [tagg, Try.underlying169]
@[simp] theorem arr169 : arrOf Try.prog 169 = none := by simp [arrOf, Try.underlying169]
@[simp] theorem elm169 : elemOf Try.prog 169 = some 41 := by kernel_rfl
@[simp] theorem tsz170 : tsz Try.prog 170 = some 1 := by kernel_rfl
@[simp] theorem tby170 : tbytes Try.prog 170 = some 8 := by kernel_rfl
@[simp] theorem tze170 : tzero Try.prog 170 = some .nilFunc := by kernel_rfl
@[simp] theorem tag170 : tagg Try.prog 170 = some false := by simp [tagg, Try.underlying170]
@[simp] theorem arr170 : arrOf Try.prog 170 = none := by simp [arrOf, Try.underlying170]
@[simp] theorem tsz171 : tsz Try.prog 171 = some 1 := by kernel_rfl
@[simp] theorem tby171 : tbytes Try.prog 171 = some 8 := by kernel_rfl
@[simp] theorem tze171 : tzero Try.prog 171 = some .nilFunc := by kernel_rfl
@[simp] theorem tag171 : tagg Try.prog 171 = some false := by simp [tagg, Try.underlying171]
@[simp] theorem arr171 : arrOf Try.prog 171 = none := by simp [arrOf, Try.underlying171]
@[simp] theorem tsz172 : tsz Try.prog 172 = some 1 := by kernel_rfl
@[simp] theorem tby172 : tbytes Try.prog 172 = some 8 := by kernel_rfl
@[simp] theorem tze172 : tzero Try.prog 172 = some .nilFunc := by kernel_rfl
@[simp] theorem tag172 : tagg Try.prog 172 = some false := by simp [tagg, Try.underlying172]
@[simp] theorem arr172 : arrOf Try.prog 172 = none := by simp [arrOf, Try.underlying172]
@[simp] theorem tsz173 : tsz Try.prog 173 = some 1 := by kernel_rfl
@[simp] theorem tby173 : tbytes Try.prog 173 = some 8 := by kernel_rfl
@[simp] theorem tze173 : tzero Try.prog 173 = some .nilFunc := by kernel_rfl
@[simp] theorem tag173 : tagg Try.prog 173 = some false := by simp [tagg, Try.underlying173]
@[simp] theorem arr173 : arrOf Try.prog 173 = none := by simp [arrOf, Try.underlying173]
@[simp] theorem tsz174 : tsz Try.prog 174 = some 1 := by kernel_rfl
@[simp] theorem tby174 : tbytes Try.prog 174 = some 8 := by kernel_rfl
@[simp] theorem tze174 : tzero Try.prog 174 = some (.pointer none) := by kernel_rfl
@[simp] theorem tag174 : tagg Try.prog 174 = some false := by simp [tagg, Try.underlying174]
@[simp] theorem arr174 : arrOf Try.prog 174 = none := by simp [arrOf, Try.underlying174]
@[simp] theorem upt174 : uptr Try.prog 174 = true := by kernel_rfl
@[simp] theorem tsz175 : tsz Try.prog 175 = some 1 := by kernel_rfl
@[simp] theorem tby175 : tbytes Try.prog 175 = some 8 := by kernel_rfl
@[simp] theorem tze175 : tzero Try.prog 175 = some (.agg #[(.pointer none)]) := by kernel_rfl
@[simp] theorem tag175 : tagg Try.prog 175 = some true := by simp [tagg, Try.underlying175]
@[simp] theorem arr175 : arrOf Try.prog 175 = none := by simp [arrOf, Try.underlying175]
@[simp] theorem fsz175 : fieldsSized Try.prog 175 = true := by kernel_rfl
@[simp] theorem wid175 : wideT Try.prog 175 = true := by kernel_rfl
@[simp] theorem fld175_0 : fieldOf Try.prog 175 0 = some (174, 0) := by kernel_rfl
@[simp] theorem fli175 : fieldList Try.prog 175 = some [(174, 0)] := by kernel_rfl
@[simp] theorem eqg175 : Try.prog.eqGuardType Try.prog.depth 175 = false := by kernel_rfl
@[simp] theorem tsz176 : tsz Try.prog 176 = some 1 := by kernel_rfl
@[simp] theorem tby176 : tbytes Try.prog 176 = some 8 := by kernel_rfl
@[simp] theorem tze176 : tzero Try.prog 176 = some (.agg #[(.pointer none)]) := by kernel_rfl
@[simp] theorem tag176 : tagg Try.prog 176 = some true := by simp [tagg, Try.underlying176]
@[simp] theorem arr176 : arrOf Try.prog 176 = none := by simp [arrOf, Try.underlying176]
@[simp] theorem fsz176 : fieldsSized Try.prog 176 = true := by kernel_rfl
@[simp] theorem wid176 : wideT Try.prog 176 = true := by kernel_rfl
@[simp] theorem fld176_0 : fieldOf Try.prog 176 0 = some (174, 0) := by kernel_rfl
@[simp] theorem fli176 : fieldList Try.prog 176 = some [(174, 0)] := by kernel_rfl
@[simp] theorem eqg176 : Try.prog.eqGuardType Try.prog.depth 176 = false := by kernel_rfl
@[simp] theorem tsz177 : tsz Try.prog 177 = some 1 := by kernel_rfl
@[simp] theorem tby177 : tbytes Try.prog 177 = some 8 := by kernel_rfl
@[simp] theorem tze177 : tzero Try.prog 177 = some .nilFunc := by kernel_rfl
@[simp] theorem tag177 : tagg Try.prog 177 = some false := by simp [tagg, Try.underlying177]
@[simp] theorem arr177 : arrOf Try.prog 177 = none := by simp [arrOf, Try.underlying177]
@[simp] theorem tsz178 : tsz Try.prog 178 = some 1 := by kernel_rfl
@[simp] theorem tby178 : tbytes Try.prog 178 = some 8 := by kernel_rfl
@[simp] theorem tze178 : tzero Try.prog 178 = some .nilFunc := by kernel_rfl
@[simp] theorem tag178 : tagg Try.prog 178 = some false := by simp [tagg, Try.underlying178]
@[simp] theorem arr178 : arrOf Try.prog 178 = none := by simp [arrOf, Try.underlying178]
@[simp] theorem tsz179 : tsz Try.prog 179 = some 1 := by kernel_rfl
@[simp] theorem tby179 : tbytes Try.prog 179 = some 8 := by kernel_rfl
@[simp] theorem tze179 : tzero Try.prog 179 = some .nilFunc := by kernel_rfl
@[simp] theorem tag179 : tagg Try.prog 179 = some false := by simp [tagg, Try.underlying179]
@[simp] theorem arr179 : arrOf Try.prog 179 = none := by simp [arrOf, Try.underlying179]
@[simp] theorem tsz180 : tsz Try.prog 180 = some 1 := by kernel_rfl
@[simp] theorem tby180 : tbytes Try.prog 180 = some 8 := by kernel_rfl
@[simp] theorem tze180 : tzero Try.prog 180 = some .nilFunc := by kernel_rfl
@[simp] theorem tag180 : tagg Try.prog 180 = some false := by simp [tagg, Try.underlying180]
@[simp] theorem arr180 : arrOf Try.prog 180 = none := by simp [arrOf, Try.underlying180]
@[simp] theorem tsz181 : tsz Try.prog 181 = some 1 := by kernel_rfl
@[simp] theorem tby181 : tbytes Try.prog 181 = some 8 := by kernel_rfl
@[simp] theorem tze181 : tzero Try.prog 181 = some .nilFunc := by kernel_rfl
@[simp] theorem tag181 : tagg Try.prog 181 = some false := by simp [tagg, Try.underlying181]
@[simp] theorem arr181 : arrOf Try.prog 181 = none := by simp [arrOf, Try.underlying181]
@[simp] theorem tsz182 : tsz Try.prog 182 = some 1 := by kernel_rfl
@[simp] theorem tby182 : tbytes Try.prog 182 = some 24 := by kernel_rfl
@[simp] theorem tze182 : tzero Try.prog 182 = some (.slice none 0 0) := by kernel_rfl
@[simp] theorem tag182 : tagg Try.prog 182 = some false := by simp [tagg, Try.underlying182]
@[simp] theorem arr182 : arrOf Try.prog 182 = none := by simp [arrOf, Try.underlying182]
@[simp] theorem elm182 : elemOf Try.prog 182 = some 147 := by kernel_rfl
@[simp] theorem tsz183 : tsz Try.prog 183 = some 1 := by kernel_rfl
@[simp] theorem tby183 : tbytes Try.prog 183 = some 8 := by kernel_rfl
@[simp] theorem tze183 : tzero Try.prog 183 = some .nilFunc := by kernel_rfl
@[simp] theorem tag183 : tagg Try.prog 183 = some false := by simp [tagg, Try.underlying183]
@[simp] theorem arr183 : arrOf Try.prog 183 = none := by simp [arrOf, Try.underlying183]
@[simp] theorem tsz184 : tsz Try.prog 184 = some 6 := by kernel_rfl
@[simp] theorem tby184 : tbytes Try.prog 184 = some 48 := by kernel_rfl
@[simp] theorem tze184 : tzero Try.prog 184 = some (.agg #[(.int .u64 (0)), (.int .i64 (0)), (.pointer none), (.pointer none), (.int .i64 (0)), (.int .i64 (0))]) := by kernel_rfl
@[simp] theorem tag184 : tagg Try.prog 184 = some true := by simp [tagg, Try.underlying184]
@[simp] theorem arr184 : arrOf Try.prog 184 = none := by simp [arrOf, Try.underlying184]
@[simp] theorem fsz184 : fieldsSized Try.prog 184 = true := by kernel_rfl
@[simp] theorem wid184 : wideT Try.prog 184 = true := by kernel_rfl
@[simp] theorem fld184_0 : fieldOf Try.prog 184 0 = some (152, 0) := by kernel_rfl
@[simp] theorem fld184_1 : fieldOf Try.prog 184 1 = some (174, 2) := by kernel_rfl
@[simp] theorem fld184_2 : fieldOf Try.prog 184 2 = some (174, 3) := by kernel_rfl
@[simp] theorem fld184_3 : fieldOf Try.prog 184 3 = some (3, 4) := by kernel_rfl
@[simp] theorem fld184_4 : fieldOf Try.prog 184 4 = some (3, 5) := by kernel_rfl
@[simp] theorem fli184 : fieldList Try.prog 184 = some [(152, 0), (174, 2), (174, 3), (3, 4), (3, 5)] := by kernel_rfl
@[simp] theorem eqg184 : Try.prog.eqGuardType Try.prog.depth 184 = false := by kernel_rfl
@[simp] theorem tsz185 : tsz Try.prog 185 = some 6 := by kernel_rfl
@[simp] theorem tby185 : tbytes Try.prog 185 = some 48 := by kernel_rfl
@[simp] theorem tze185 : tzero Try.prog 185 = some (.agg #[(.int .u64 (0)), (.int .i64 (0)), (.pointer none), (.pointer none), (.int .i64 (0)), (.int .i64 (0))]) := by kernel_rfl
@[simp] theorem tag185 : tagg Try.prog 185 = some true := by simp [tagg, Try.underlying185]
@[simp] theorem arr185 : arrOf Try.prog 185 = none := by simp [arrOf, Try.underlying185]
@[simp] theorem fsz185 : fieldsSized Try.prog 185 = true := by kernel_rfl
@[simp] theorem wid185 : wideT Try.prog 185 = true := by kernel_rfl
@[simp] theorem fld185_0 : fieldOf Try.prog 185 0 = some (152, 0) := by kernel_rfl
@[simp] theorem fld185_1 : fieldOf Try.prog 185 1 = some (174, 2) := by kernel_rfl
@[simp] theorem fld185_2 : fieldOf Try.prog 185 2 = some (174, 3) := by kernel_rfl
@[simp] theorem fld185_3 : fieldOf Try.prog 185 3 = some (3, 4) := by kernel_rfl
@[simp] theorem fld185_4 : fieldOf Try.prog 185 4 = some (3, 5) := by kernel_rfl
@[simp] theorem fli185 : fieldList Try.prog 185 = some [(152, 0), (174, 2), (174, 3), (3, 4), (3, 5)] := by kernel_rfl
@[simp] theorem eqg185 : Try.prog.eqGuardType Try.prog.depth 185 = false := by kernel_rfl
@[simp] theorem tsz186 : tsz Try.prog 186 = some 1 := by kernel_rfl
@[simp] theorem tby186 : tbytes Try.prog 186 = some 8 := by kernel_rfl
@[simp] theorem tze186 : tzero Try.prog 186 = some .nilFunc := by kernel_rfl
@[simp] theorem tag186 : tagg Try.prog 186 = some false := by simp [tagg, Try.underlying186]
@[simp] theorem arr186 : arrOf Try.prog 186 = none := by simp [arrOf, Try.underlying186]
@[simp] theorem tsz187 : tsz Try.prog 187 = some 1 := by kernel_rfl
@[simp] theorem tby187 : tbytes Try.prog 187 = some 8 := by kernel_rfl
@[simp] theorem tze187 : tzero Try.prog 187 = some .nilFunc := by kernel_rfl
@[simp] theorem tag187 : tagg Try.prog 187 = some false := by simp [tagg, Try.underlying187]
@[simp] theorem arr187 : arrOf Try.prog 187 = none := by simp [arrOf, Try.underlying187]
@[simp] theorem tsz188 : tsz Try.prog 188 = some 1 := by kernel_rfl
@[simp] theorem tby188 : tbytes Try.prog 188 = some 8 := by kernel_rfl
@[simp] theorem tze188 : tzero Try.prog 188 = some (.pointer none) := by kernel_rfl
@[simp] theorem tag188 : tagg Try.prog 188 = some false := by simp [tagg, Try.underlying188]
@[simp] theorem arr188 : arrOf Try.prog 188 = none := by simp [arrOf, Try.underlying188]
@[simp] theorem upt188 : uptr Try.prog 188 = true := by kernel_rfl
@[simp] theorem tsz189 : tsz Try.prog 189 = some 1 := by kernel_rfl
@[simp] theorem tby189 : tbytes Try.prog 189 = some 8 := by kernel_rfl
@[simp] theorem tze189 : tzero Try.prog 189 = some (.int .u64 (0)) := by kernel_rfl
@[simp] theorem tag189 : tagg Try.prog 189 = some false := by simp [tagg, Try.underlying189]
@[simp] theorem arr189 : arrOf Try.prog 189 = none := by simp [arrOf, Try.underlying189]
@[simp] theorem uin189 : uint Try.prog 189 = some .u64 := by kernel_rfl
@[simp] theorem pla189 : plainT Try.prog 189 = true := by kernel_rfl
@[simp] theorem tsz191 : tsz Try.prog 191 = some 1 := by kernel_rfl
@[simp] theorem tby191 : tbytes Try.prog 191 = some 8 := by kernel_rfl
@[simp] theorem tze191 : tzero Try.prog 191 = some .nilFunc := by kernel_rfl
@[simp] theorem tag191 : tagg Try.prog 191 = some false := by simp [tagg, Try.underlying191]
@[simp] theorem arr191 : arrOf Try.prog 191 = none := by simp [arrOf, Try.underlying191]
@[simp] theorem tsz192 : tsz Try.prog 192 = some 1 := by kernel_rfl
@[simp] theorem tby192 : tbytes Try.prog 192 = some 8 := by kernel_rfl
@[simp] theorem tze192 : tzero Try.prog 192 = some .nilFunc := by kernel_rfl
@[simp] theorem tag192 : tagg Try.prog 192 = some false := by simp [tagg, Try.underlying192]
@[simp] theorem arr192 : arrOf Try.prog 192 = none := by simp [arrOf, Try.underlying192]
@[simp] theorem tsz193 : tsz Try.prog 193 = some 1 := by kernel_rfl
@[simp] theorem tby193 : tbytes Try.prog 193 = some 8 := by kernel_rfl
@[simp] theorem tze193 : tzero Try.prog 193 = some .nilFunc := by kernel_rfl
@[simp] theorem tag193 : tagg Try.prog 193 = some false := by simp [tagg, Try.underlying193]
@[simp] theorem arr193 : arrOf Try.prog 193 = none := by simp [arrOf, Try.underlying193]
@[simp] theorem tsz194 : tsz Try.prog 194 = some 1 := by kernel_rfl
@[simp] theorem tby194 : tbytes Try.prog 194 = some 8 := by kernel_rfl
@[simp] theorem tze194 : tzero Try.prog 194 = some .nilFunc := by kernel_rfl
@[simp] theorem tag194 : tagg Try.prog 194 = some false := by simp [tagg, Try.underlying194]
@[simp] theorem arr194 : arrOf Try.prog 194 = none := by simp [arrOf, Try.underlying194]
@[simp] theorem tsz195 : tsz Try.prog 195 = some 1 := by kernel_rfl
@[simp] theorem tby195 : tbytes Try.prog 195 = some 8 := by kernel_rfl
@[simp] theorem tze195 : tzero Try.prog 195 = some .nilFunc := by kernel_rfl
@[simp] theorem tag195 : tagg Try.prog 195 = some false := by simp [tagg, Try.underlying195]
@[simp] theorem arr195 : arrOf Try.prog 195 = none := by simp [arrOf, Try.underlying195]
@[simp] theorem tsz196 : tsz Try.prog 196 = some 1 := by kernel_rfl
@[simp] theorem tby196 : tbytes Try.prog 196 = some 8 := by kernel_rfl
@[simp] theorem tze196 : tzero Try.prog 196 = some .nilFunc := by kernel_rfl
@[simp] theorem tag196 : tagg Try.prog 196 = some false := by simp [tagg, Try.underlying196]
@[simp] theorem arr196 : arrOf Try.prog 196 = none := by simp [arrOf, Try.underlying196]
@[simp] theorem tsz197 : tsz Try.prog 197 = some 1 := by kernel_rfl
@[simp] theorem tby197 : tbytes Try.prog 197 = some 8 := by kernel_rfl
@[simp] theorem tze197 : tzero Try.prog 197 = some .nilFunc := by kernel_rfl
@[simp] theorem tag197 : tagg Try.prog 197 = some false := by simp [tagg, Try.underlying197]
@[simp] theorem arr197 : arrOf Try.prog 197 = none := by simp [arrOf, Try.underlying197]
@[simp] theorem tsz198 : tsz Try.prog 198 = some 1 := by kernel_rfl
@[simp] theorem tby198 : tbytes Try.prog 198 = some 8 := by kernel_rfl
@[simp] theorem tze198 : tzero Try.prog 198 = some .nilFunc := by kernel_rfl
@[simp] theorem tag198 : tagg Try.prog 198 = some false := by simp [tagg, Try.underlying198]
@[simp] theorem arr198 : arrOf Try.prog 198 = none := by simp [arrOf, Try.underlying198]
@[simp] theorem tsz199 : tsz Try.prog 199 = some 1 := by kernel_rfl
@[simp] theorem tby199 : tbytes Try.prog 199 = some 8 := by kernel_rfl
@[simp] theorem tze199 : tzero Try.prog 199 = some .nilFunc := by kernel_rfl
@[simp] theorem tag199 : tagg Try.prog 199 = some false := by simp [tagg, Try.underlying199]
@[simp] theorem arr199 : arrOf Try.prog 199 = none := by simp [arrOf, Try.underlying199]
@[simp] theorem tsz200 : tsz Try.prog 200 = some 1 := by kernel_rfl
@[simp] theorem tby200 : tbytes Try.prog 200 = some 8 := by kernel_rfl
@[simp] theorem tze200 : tzero Try.prog 200 = some .nilFunc := by kernel_rfl
@[simp] theorem tag200 : tagg Try.prog 200 = some false := by simp [tagg, Try.underlying200]
@[simp] theorem arr200 : arrOf Try.prog 200 = none := by simp [arrOf, Try.underlying200]
@[simp] theorem tsz202 : tsz Try.prog 202 = some 1 := by kernel_rfl
@[simp] theorem tby202 : tbytes Try.prog 202 = some 8 := by kernel_rfl
@[simp] theorem tze202 : tzero Try.prog 202 = some .nilFunc := by kernel_rfl
@[simp] theorem tag202 : tagg Try.prog 202 = some false := by simp [tagg, Try.underlying202]
@[simp] theorem arr202 : arrOf Try.prog 202 = none := by simp [arrOf, Try.underlying202]
@[simp] theorem tsz203 : tsz Try.prog 203 = some 1 := by kernel_rfl
@[simp] theorem tby203 : tbytes Try.prog 203 = some 8 := by kernel_rfl
@[simp] theorem tze203 : tzero Try.prog 203 = some .nilFunc := by kernel_rfl
@[simp] theorem tag203 : tagg Try.prog 203 = some false := by simp [tagg, Try.underlying203]
@[simp] theorem arr203 : arrOf Try.prog 203 = none := by simp [arrOf, Try.underlying203]
@[simp] theorem tsz204 : tsz Try.prog 204 = some 1 := by kernel_rfl
@[simp] theorem tby204 : tbytes Try.prog 204 = some 8 := by kernel_rfl
@[simp] theorem tze204 : tzero Try.prog 204 = some .nilFunc := by kernel_rfl
@[simp] theorem tag204 : tagg Try.prog 204 = some false := by simp [tagg, Try.underlying204]
@[simp] theorem arr204 : arrOf Try.prog 204 = none := by simp [arrOf, Try.underlying204]
@[simp] theorem tsz205 : tsz Try.prog 205 = some 1 := by kernel_rfl
@[simp] theorem tby205 : tbytes Try.prog 205 = some 8 := by kernel_rfl
@[simp] theorem tze205 : tzero Try.prog 205 = some .nilFunc := by kernel_rfl
@[simp] theorem tag205 : tagg Try.prog 205 = some false := by simp [tagg, Try.underlying205]
@[simp] theorem arr205 : arrOf Try.prog 205 = none := by simp [arrOf, Try.underlying205]
@[simp] theorem tsz206 : tsz Try.prog 206 = some 1 := by kernel_rfl
@[simp] theorem tby206 : tbytes Try.prog 206 = some 8 := by kernel_rfl
@[simp] theorem tze206 : tzero Try.prog 206 = some .nilFunc := by kernel_rfl
@[simp] theorem tag206 : tagg Try.prog 206 = some false := by simp [tagg, Try.underlying206]
@[simp] theorem arr206 : arrOf Try.prog 206 = none := by simp [arrOf, Try.underlying206]
@[simp] theorem tsz207 : tsz Try.prog 207 = some 1 := by kernel_rfl
@[simp] theorem tby207 : tbytes Try.prog 207 = some 8 := by kernel_rfl
@[simp] theorem tze207 : tzero Try.prog 207 = some .nilFunc := by kernel_rfl
@[simp] theorem tag207 : tagg Try.prog 207 = some false := by simp [tagg, Try.underlying207]
@[simp] theorem arr207 : arrOf Try.prog 207 = none := by simp [arrOf, Try.underlying207]
@[simp] theorem tsz209 : tsz Try.prog 209 = some 1 := by kernel_rfl
@[simp] theorem tby209 : tbytes Try.prog 209 = some 8 := by kernel_rfl
@[simp] theorem tze209 : tzero Try.prog 209 = some .nilFunc := by kernel_rfl
@[simp] theorem tag209 : tagg Try.prog 209 = some false := by simp [tagg, Try.underlying209]
@[simp] theorem arr209 : arrOf Try.prog 209 = none := by simp [arrOf, Try.underlying209]
@[simp] theorem tsz210 : tsz Try.prog 210 = some 1 := by kernel_rfl
@[simp] theorem tby210 : tbytes Try.prog 210 = some 8 := by kernel_rfl
@[simp] theorem tze210 : tzero Try.prog 210 = some .nilFunc := by kernel_rfl
@[simp] theorem tag210 : tagg Try.prog 210 = some false := by simp [tagg, Try.underlying210]
@[simp] theorem arr210 : arrOf Try.prog 210 = none := by simp [arrOf, Try.underlying210]
@[simp] theorem tsz211 : tsz Try.prog 211 = some 4 := by kernel_rfl
@[simp] theorem tby211 : tbytes Try.prog 211 = some 40 := by kernel_rfl
@[simp] theorem tze211 : tzero Try.prog 211 = some (.agg #[(.pointer none), (.pointer none), (.pointer none), (.string ⟨#[]⟩)]) := by kernel_rfl
@[simp] theorem tag211 : tagg Try.prog 211 = some true := by simp [tagg, Try.underlying211]
@[simp] theorem arr211 : arrOf Try.prog 211 = none := by simp [arrOf, Try.underlying211]
@[simp] theorem fsz211 : fieldsSized Try.prog 211 = true := by kernel_rfl
@[simp] theorem wid211 : wideT Try.prog 211 = true := by kernel_rfl
@[simp] theorem fld211_0 : fieldOf Try.prog 211 0 = some (17, 0) := by kernel_rfl
@[simp] theorem fld211_1 : fieldOf Try.prog 211 1 = some (17, 1) := by kernel_rfl
@[simp] theorem fld211_2 : fieldOf Try.prog 211 2 = some (17, 2) := by kernel_rfl
@[simp] theorem fld211_3 : fieldOf Try.prog 211 3 = some (9, 3) := by kernel_rfl
@[simp] theorem eqg211 : Try.prog.eqGuardType Try.prog.depth 211 = false := by kernel_rfl
@[simp] theorem tsz212 : tsz Try.prog 212 = some 4 := by kernel_rfl
@[simp] theorem tby212 : tbytes Try.prog 212 = some 40 := by kernel_rfl
@[simp] theorem tze212 : tzero Try.prog 212 = some (.agg #[(.pointer none), (.pointer none), (.pointer none), (.string ⟨#[]⟩)]) := by kernel_rfl
@[simp] theorem tag212 : tagg Try.prog 212 = some true := by simp [tagg, Try.underlying212]
@[simp] theorem arr212 : arrOf Try.prog 212 = none := by simp [arrOf, Try.underlying212]
@[simp] theorem fsz212 : fieldsSized Try.prog 212 = true := by kernel_rfl
@[simp] theorem wid212 : wideT Try.prog 212 = true := by kernel_rfl
@[simp] theorem fld212_0 : fieldOf Try.prog 212 0 = some (17, 0) := by kernel_rfl
@[simp] theorem fld212_1 : fieldOf Try.prog 212 1 = some (17, 1) := by kernel_rfl
@[simp] theorem fld212_2 : fieldOf Try.prog 212 2 = some (17, 2) := by kernel_rfl
@[simp] theorem fld212_3 : fieldOf Try.prog 212 3 = some (9, 3) := by kernel_rfl
@[simp] theorem eqg212 : Try.prog.eqGuardType Try.prog.depth 212 = false := by kernel_rfl
@[simp] theorem tsz213 : tsz Try.prog 213 = some 0 := by kernel_rfl
@[simp] theorem tby213 : tbytes Try.prog 213 = some 0 := by kernel_rfl
@[simp] theorem tze213 : tzero Try.prog 213 = some (.agg #[]) := by kernel_rfl
@[simp] theorem tag213 : tagg Try.prog 213 = some true := by simp [tagg, Try.underlying213]
@[simp] theorem arr213 : arrOf Try.prog 213 = some (0, 16) := by simp [arrOf, Try.underlying213]
@[simp] theorem tsz214 : tsz Try.prog 214 = some 0 := by kernel_rfl
@[simp] theorem tby214 : tbytes Try.prog 214 = some 0 := by kernel_rfl
@[simp] theorem tze214 : tzero Try.prog 214 = some (.agg #[]) := by kernel_rfl
@[simp] theorem tag214 : tagg Try.prog 214 = some true := by simp [tagg, Try.underlying214]
@[simp] theorem arr214 : arrOf Try.prog 214 = none := by simp [arrOf, Try.underlying214]
@[simp] theorem fsz214 : fieldsSized Try.prog 214 = true := by kernel_rfl
@[simp] theorem wid214 : wideT Try.prog 214 = true := by kernel_rfl
@[simp] theorem fld214_0 : fieldOf Try.prog 214 0 = some (213, 0) := by kernel_rfl
@[simp] theorem eqg214 : Try.prog.eqGuardType Try.prog.depth 214 = false := by kernel_rfl
@[simp] theorem tsz215 : tsz Try.prog 215 = some 0 := by kernel_rfl
@[simp] theorem tby215 : tbytes Try.prog 215 = some 0 := by kernel_rfl
@[simp] theorem tze215 : tzero Try.prog 215 = some (.agg #[]) := by kernel_rfl
@[simp] theorem tag215 : tagg Try.prog 215 = some true := by simp [tagg, Try.underlying215]
@[simp] theorem arr215 : arrOf Try.prog 215 = none := by simp [arrOf, Try.underlying215]
@[simp] theorem fsz215 : fieldsSized Try.prog 215 = true := by kernel_rfl
@[simp] theorem wid215 : wideT Try.prog 215 = true := by kernel_rfl
@[simp] theorem fld215_0 : fieldOf Try.prog 215 0 = some (213, 0) := by kernel_rfl
@[simp] theorem eqg215 : Try.prog.eqGuardType Try.prog.depth 215 = false := by kernel_rfl
@[simp] theorem tsz216 : tsz Try.prog 216 = some 1 := by kernel_rfl
@[simp] theorem tby216 : tbytes Try.prog 216 = some 1 := by kernel_rfl
@[simp] theorem tze216 : tzero Try.prog 216 = some (.int .u8 (0)) := by kernel_rfl
@[simp] theorem tag216 : tagg Try.prog 216 = some false := by simp [tagg, Try.underlying216]
@[simp] theorem arr216 : arrOf Try.prog 216 = none := by simp [arrOf, Try.underlying216]
@[simp] theorem uin216 : uint Try.prog 216 = some .u8 := by kernel_rfl
@[simp] theorem pla216 : plainT Try.prog 216 = true := by kernel_rfl
@[simp] theorem tsz217 : tsz Try.prog 217 = some 1 := by kernel_rfl
@[simp] theorem tby217 : tbytes Try.prog 217 = some 1 := by kernel_rfl
@[simp] theorem tze217 : tzero Try.prog 217 = some (.int .u8 (0)) := by kernel_rfl
@[simp] theorem tag217 : tagg Try.prog 217 = some false := by simp [tagg, Try.underlying217]
@[simp] theorem arr217 : arrOf Try.prog 217 = none := by simp [arrOf, Try.underlying217]
@[simp] theorem uin217 : uint Try.prog 217 = some .u8 := by kernel_rfl
@[simp] theorem pla217 : plainT Try.prog 217 = true := by kernel_rfl
@[simp] theorem tsz218 : tsz Try.prog 218 = some 1 := by kernel_rfl
@[simp] theorem tby218 : tbytes Try.prog 218 = some 8 := by kernel_rfl
@[simp] theorem tze218 : tzero Try.prog 218 = some .nilFunc := by kernel_rfl
@[simp] theorem tag218 : tagg Try.prog 218 = some false := by simp [tagg, Try.underlying218]
@[simp] theorem arr218 : arrOf Try.prog 218 = none := by simp [arrOf, Try.underlying218]
@[simp] theorem tsz219 : tsz Try.prog 219 = some 1 := by kernel_rfl
@[simp] theorem tby219 : tbytes Try.prog 219 = some 8 := by kernel_rfl
@[simp] theorem tze219 : tzero Try.prog 219 = some (.pointer none) := by kernel_rfl
@[simp] theorem tag219 : tagg Try.prog 219 = some false := by simp [tagg, Try.underlying219]
@[simp] theorem arr219 : arrOf Try.prog 219 = none := by simp [arrOf, Try.underlying219]
@[simp] theorem upt219 : uptr Try.prog 219 = true := by kernel_rfl
@[simp] theorem tsz220 : tsz Try.prog 220 = some 1 := by kernel_rfl
@[simp] theorem tby220 : tbytes Try.prog 220 = some 4 := by kernel_rfl
@[simp] theorem tze220 : tzero Try.prog 220 = some (.int .i32 (0)) := by kernel_rfl
@[simp] theorem tag220 : tagg Try.prog 220 = some false := by simp [tagg, Try.underlying220]
@[simp] theorem arr220 : arrOf Try.prog 220 = none := by simp [arrOf, Try.underlying220]
@[simp] theorem uin220 : uint Try.prog 220 = some .i32 := by kernel_rfl
@[simp] theorem pla220 : plainT Try.prog 220 = true := by kernel_rfl
@[simp] theorem tsz221 : tsz Try.prog 221 = some 1 := by kernel_rfl
@[simp] theorem tby221 : tbytes Try.prog 221 = some 4 := by kernel_rfl
@[simp] theorem tze221 : tzero Try.prog 221 = some (.int .i32 (0)) := by kernel_rfl
@[simp] theorem tag221 : tagg Try.prog 221 = some false := by simp [tagg, Try.underlying221]
@[simp] theorem arr221 : arrOf Try.prog 221 = none := by simp [arrOf, Try.underlying221]
@[simp] theorem uin221 : uint Try.prog 221 = some .i32 := by kernel_rfl
@[simp] theorem pla221 : plainT Try.prog 221 = true := by kernel_rfl
@[simp] theorem tsz222 : tsz Try.prog 222 = some 11 := by kernel_rfl
@[simp] theorem tby222 : tbytes Try.prog 222 = some 48 := by kernel_rfl
@[simp] theorem tze222 : tzero Try.prog 222 = some (.agg #[(.int .u64 (0)), (.int .u64 (0)), (.int .u32 (0)), (.int .u8 (0)), (.int .u8 (0)), (.int .u8 (0)), (.int .u8 (0)), .nilFunc, (.pointer none), (.int .i32 (0)), (.int .i32 (0))]) := by kernel_rfl
@[simp] theorem tag222 : tagg Try.prog 222 = some true := by simp [tagg, Try.underlying222]
@[simp] theorem arr222 : arrOf Try.prog 222 = none := by simp [arrOf, Try.underlying222]
@[simp] theorem fsz222 : fieldsSized Try.prog 222 = true := by kernel_rfl
@[simp] theorem wid222 : wideT Try.prog 222 = true := by kernel_rfl
@[simp] theorem fld222_0 : fieldOf Try.prog 222 0 = some (12, 0) := by kernel_rfl
@[simp] theorem fld222_1 : fieldOf Try.prog 222 1 = some (12, 1) := by kernel_rfl
@[simp] theorem fld222_2 : fieldOf Try.prog 222 2 = some (31, 2) := by kernel_rfl
@[simp] theorem fld222_3 : fieldOf Try.prog 222 3 = some (216, 3) := by kernel_rfl
@[simp] theorem fld222_4 : fieldOf Try.prog 222 4 = some (5, 4) := by kernel_rfl
@[simp] theorem fld222_5 : fieldOf Try.prog 222 5 = some (5, 5) := by kernel_rfl
@[simp] theorem fld222_6 : fieldOf Try.prog 222 6 = some (217, 6) := by kernel_rfl
@[simp] theorem fld222_7 : fieldOf Try.prog 222 7 = some (218, 7) := by kernel_rfl
@[simp] theorem fld222_8 : fieldOf Try.prog 222 8 = some (219, 8) := by kernel_rfl
@[simp] theorem fld222_9 : fieldOf Try.prog 222 9 = some (220, 9) := by kernel_rfl
@[simp] theorem fld222_10 : fieldOf Try.prog 222 10 = some (221, 10) := by kernel_rfl
@[simp] theorem eqg222 : Try.prog.eqGuardType Try.prog.depth 222 = false := by kernel_rfl
@[simp] theorem tsz223 : tsz Try.prog 223 = some 11 := by kernel_rfl
@[simp] theorem tby223 : tbytes Try.prog 223 = some 48 := by kernel_rfl
@[simp] theorem tze223 : tzero Try.prog 223 = some (.agg #[(.int .u64 (0)), (.int .u64 (0)), (.int .u32 (0)), (.int .u8 (0)), (.int .u8 (0)), (.int .u8 (0)), (.int .u8 (0)), .nilFunc, (.pointer none), (.int .i32 (0)), (.int .i32 (0))]) := by kernel_rfl
@[simp] theorem tag223 : tagg Try.prog 223 = some true := by simp [tagg, Try.underlying223]
@[simp] theorem arr223 : arrOf Try.prog 223 = none := by simp [arrOf, Try.underlying223]
@[simp] theorem fsz223 : fieldsSized Try.prog 223 = true := by kernel_rfl
@[simp] theorem wid223 : wideT Try.prog 223 = true := by kernel_rfl
@[simp] theorem fld223_0 : fieldOf Try.prog 223 0 = some (12, 0) := by kernel_rfl
@[simp] theorem fld223_1 : fieldOf Try.prog 223 1 = some (12, 1) := by kernel_rfl
@[simp] theorem fld223_2 : fieldOf Try.prog 223 2 = some (31, 2) := by kernel_rfl
@[simp] theorem fld223_3 : fieldOf Try.prog 223 3 = some (216, 3) := by kernel_rfl
@[simp] theorem fld223_4 : fieldOf Try.prog 223 4 = some (5, 4) := by kernel_rfl
@[simp] theorem fld223_5 : fieldOf Try.prog 223 5 = some (5, 5) := by kernel_rfl
@[simp] theorem fld223_6 : fieldOf Try.prog 223 6 = some (217, 6) := by kernel_rfl
@[simp] theorem fld223_7 : fieldOf Try.prog 223 7 = some (218, 7) := by kernel_rfl
@[simp] theorem fld223_8 : fieldOf Try.prog 223 8 = some (219, 8) := by kernel_rfl
@[simp] theorem fld223_9 : fieldOf Try.prog 223 9 = some (220, 9) := by kernel_rfl
@[simp] theorem fld223_10 : fieldOf Try.prog 223 10 = some (221, 10) := by kernel_rfl
@[simp] theorem eqg223 : Try.prog.eqGuardType Try.prog.depth 223 = false := by kernel_rfl
@[simp] theorem tsz224 : tsz Try.prog 224 = some 1 := by kernel_rfl
@[simp] theorem tby224 : tbytes Try.prog 224 = some 8 := by kernel_rfl
@[simp] theorem tze224 : tzero Try.prog 224 = some (.pointer none) := by kernel_rfl
@[simp] theorem tag224 : tagg Try.prog 224 = some false := by simp [tagg, Try.underlying224]
@[simp] theorem arr224 : arrOf Try.prog 224 = none := by simp [arrOf, Try.underlying224]
theorem slt22 : SlT Try.prog 22 1 8 := ⟨⟨3, _, elm22, tsz3, tby3, tze3, rfl, by decide, by decide⟩⟩
theorem slt23 : SlT Try.prog 23 4 32 := ⟨⟨129, _, elm23, tsz129, tby129, tze129, rfl, by decide, by decide⟩⟩
theorem slt26 : SlT Try.prog 26 7 48 := ⟨⟨85, _, elm26, tsz85, tby85, tze85, rfl, by decide, by decide⟩⟩
theorem slt92 : SlT Try.prog 92 2 8 := ⟨⟨33, _, elm92, tsz33, tby33, tze33, rfl, by decide, by decide⟩⟩
theorem slt95 : SlT Try.prog 95 3 72 := ⟨⟨28, _, elm95, tsz28, tby28, tze28, rfl, by decide, by decide⟩⟩
theorem slt111 : SlT Try.prog 111 1 24 := ⟨⟨22, _, elm111, tsz22, tby22, tze22, rfl, by decide, by decide⟩⟩
theorem slt169 : SlT Try.prog 169 2 16 := ⟨⟨41, _, elm169, tsz41, tby41, tze41, rfl, by decide, by decide⟩⟩
theorem slt182 : SlT Try.prog 182 1 8 := ⟨⟨147, _, elm182, tsz147, tby147, tze147, rfl, by decide, by decide⟩⟩
theorem mixed : Try.prog.follows .mixedOrders = true := by kernel_rfl
end Go.Proofs.Ytanimmdlgmkmkaa.Av

/- Networks: what they are; functions that only look at one port or one rule. -/
namespace Go.Proofs.Ytanimmdlgmkmkaa.Av
open Go
set_option linter.unusedSimpArgs false
set_option linter.unusedVariables false
set_option maxRecDepth 100000
set_option maxHeartbeats 1000000
set_option pp.maxSteps 300

theorem Ext.setF {σ τ : St} {i : Id} {o : Ob} (h : Ext σ τ) (hi : σ.m i = none) : Ext σ (τ.set i o) := ⟨fun j p hj => by
    have hne : j ≠ i := fun e => by rw [e, hi] at hj; cases hj
    simp only [St.set, hne, false_and, if_false]
    exact h.m j p hj, h.nx⟩
theorem set_hit {τ : St} {i : Id} {o p : Ob} (h : τ.m i = some p) : (τ.set i o).m i = some o := by simp [St.set, h]
theorem set_ne {τ : St} {i j : Id} {o : Ob} (h : j ≠ i) : (τ.set i o).m j = τ.m j := by simp [St.set, h]

structure Pt where
  dev : Int
  port : Int
deriving DecidableEq
structure Lk where
  a : Pt
  b : Pt
deriving DecidableEq
structure Rg where
  lo : Int
  hi : Int
deriving DecidableEq
structure Ru where
  id : Int
  dev : Int
  prio : Int
  kind : Int
  r : Rg
  port : Int
deriving DecidableEq
structure Tp where
  ports : List Int
  links : List Lk
deriving DecidableEq
structure Nw where
  t : Tp
  rules : List Ru
deriving DecidableEq
def iAV (n : Int) : AV := .raw (.int .i64 n)
def uAV (n : Int) : AV := .raw (.int .u32 n)
def ptAV (p : Pt) : AV := .agg [.raw (.int .i64 p.dev), .raw (.int .i64 p.port)]
def lkAV (l : Lk) : AV := .agg [.raw (.int .i64 l.a.dev), .raw (.int .i64 l.a.port), .raw (.int .i64 l.b.dev), .raw (.int .i64 l.b.port)]
def rgAV (r : Rg) : AV := .agg [.raw (.int .u32 r.lo), .raw (.int .u32 r.hi)]
def ruAV (r : Ru) : AV := .agg [.raw (.int .i64 r.id), .raw (.int .i64 r.dev), .raw (.int .i64 r.prio), .raw (.int .i64 r.kind), .raw (.int .u32 r.r.lo), .raw (.int .u32 r.r.hi), .raw (.int .i64 r.port)]
def intsAV (l : List Int) (f : Bool) : AV := .sl 1 (l.map iAV) f
def linksAV (l : List Lk) (f : Bool) : AV := .sl 4 (l.map lkAV) f
def rulesAV (l : List Ru) (f : Bool) : AV := .sl 7 (l.map ruAV) f
/-- Are the lists' arrays full? -/
structure Fl where
  p : Bool
  l : Bool
  r : Bool
def tpAV (t : Tp) (f : Fl) : AV := .agg [intsAV t.ports f.p, linksAV t.links f.l]
def nwAV (n : Nw) (f : Fl) : AV := .agg [intsAV n.t.ports f.p, linksAV n.t.links f.l, rulesAV n.rules f.r]

def hasB (t : Tp) (p : Pt) : Bool := decide (0 ≤ p.dev) && match t.ports[p.dev.toNat]? with | some n => decide (0 ≤ p.port) && decide (p.port < n) | none => false

theorem has_calls (t : Tp) (f : Fl) (p : Pt) (hl : t.ports.length < 2 ^ 60) : PCalls Try.prog 117 [tpAV t f, ptAV p] (.raw (.bool (hasB t p))) := by
  refine pbody Try.func117 rfl (N := 32) rfl rfl (by simp) (by simp [noIds]) fun σ => ?_
  by_cases h1 : 0 ≤ p.dev
  · obtain ⟨k, hk⟩ : ∃ k : Nat, p.dev = k := ⟨p.dev.toNat, by omega⟩
    by_cases h2 : k < t.ports.length
    · have hx : t.ports[k]? = some t.ports[k] := List.getElem?_eq_getElem h2
      (try (first | (with_reducible refine dops_go ?_; simp [tpAV, ptAV, intsAV, linksAV, iAV, hk, h2, hx]) | (with_reducible refine OKv_go ?_; simp [tpAV, ptAV, intsAV, linksAV, iAV, hk, h2, hx]) | (with_reducible refine OKr_go ?_; simp [tpAV, ptAV, intsAV, linksAV, iAV, hk, h2, hx]))); repeat' (first | refine awp_seq ?_ | refine awp_block ?_ | (refine awp_skip ?_; try simp) | (refine awp_exit ?_; try simp) | (refine awp_ret ?_; try simp) | (refine retP_same (by simp) ?_; simp) | (refine retP_flat (by simp) (by simp) (by simp (maxDischargeDepth := 30) [tpAV, ptAV, intsAV, linksAV, iAV, hk, h2, hx]) ?_; simp) | (refine awp_reg ?_; simp [tpAV, ptAV, intsAV, linksAV, iAV, hk, h2, hx]) | (refine awp_drawT (fun _ => false) mixed (by decide +kernel) ?_; simp [tpAV, ptAV, intsAV, linksAV, iAV, hk, h2, hx]) | (refine guarded_split ?_ ?_ <;> (intro hg; simp only [hg]; simp [tpAV, ptAV, intsAV, linksAV, iAV, hk, h2, hx])) | (apply awp_cond_t; focus (simp [tpAV, ptAV, intsAV, linksAV, iAV, hk, h2, hx]; done)) | (apply awp_cond_f; focus (simp [tpAV, ptAV, intsAV, linksAV, iAV, hk, h2, hx]; done)) | (refine awp_cond ?_; simp [tpAV, ptAV, intsAV, linksAV, iAV, hk, h2, hx]; refine ⟨?_, ?_⟩ <;> intro hc))
      all_goals (simp_all [hasB] <;> intros <;> omega)
    · have hx : t.ports[k]? = none := List.getElem?_eq_none (by omega)
      (try (first | (with_reducible refine dops_go ?_; simp [tpAV, ptAV, intsAV, linksAV, iAV, hk, h2, hx]) | (with_reducible refine OKv_go ?_; simp [tpAV, ptAV, intsAV, linksAV, iAV, hk, h2, hx]) | (with_reducible refine OKr_go ?_; simp [tpAV, ptAV, intsAV, linksAV, iAV, hk, h2, hx]))); repeat' (first | refine awp_seq ?_ | refine awp_block ?_ | (refine awp_skip ?_; try simp) | (refine awp_exit ?_; try simp) | (refine awp_ret ?_; try simp) | (refine retP_same (by simp) ?_; simp) | (refine retP_flat (by simp) (by simp) (by simp (maxDischargeDepth := 30) [tpAV, ptAV, intsAV, linksAV, iAV, hk, h2, hx]) ?_; simp) | (refine awp_reg ?_; simp [tpAV, ptAV, intsAV, linksAV, iAV, hk, h2, hx]) | (refine awp_drawT (fun _ => false) mixed (by decide +kernel) ?_; simp [tpAV, ptAV, intsAV, linksAV, iAV, hk, h2, hx]) | (refine guarded_split ?_ ?_ <;> (intro hg; simp only [hg]; simp [tpAV, ptAV, intsAV, linksAV, iAV, hk, h2, hx])) | (apply awp_cond_t; focus (simp [tpAV, ptAV, intsAV, linksAV, iAV, hk, h2, hx]; done)) | (apply awp_cond_f; focus (simp [tpAV, ptAV, intsAV, linksAV, iAV, hk, h2, hx]; done)) | (refine awp_cond ?_; simp [tpAV, ptAV, intsAV, linksAV, iAV, hk, h2, hx]; refine ⟨?_, ?_⟩ <;> intro hc))
      all_goals (simp_all [hasB] <;> intros <;> omega)
  · (try (first | (with_reducible refine dops_go ?_; simp [tpAV, ptAV, intsAV, linksAV, iAV, h1]) | (with_reducible refine OKv_go ?_; simp [tpAV, ptAV, intsAV, linksAV, iAV, h1]) | (with_reducible refine OKr_go ?_; simp [tpAV, ptAV, intsAV, linksAV, iAV, h1]))); repeat' (first | refine awp_seq ?_ | refine awp_block ?_ | (refine awp_skip ?_; try simp) | (refine awp_exit ?_; try simp) | (refine awp_ret ?_; try simp) | (refine retP_same (by simp) ?_; simp) | (refine retP_flat (by simp) (by simp) (by simp (maxDischargeDepth := 30) [tpAV, ptAV, intsAV, linksAV, iAV, h1]) ?_; simp) | (refine awp_reg ?_; simp [tpAV, ptAV, intsAV, linksAV, iAV, h1]) | (refine awp_drawT (fun _ => false) mixed (by decide +kernel) ?_; simp [tpAV, ptAV, intsAV, linksAV, iAV, h1]) | (refine guarded_split ?_ ?_ <;> (intro hg; simp only [hg]; simp [tpAV, ptAV, intsAV, linksAV, iAV, h1])) | (apply awp_cond_t; focus (simp [tpAV, ptAV, intsAV, linksAV, iAV, h1]; done)) | (apply awp_cond_f; focus (simp [tpAV, ptAV, intsAV, linksAV, iAV, h1]; done)) | (refine awp_cond ?_; simp [tpAV, ptAV, intsAV, linksAV, iAV, h1]; refine ⟨?_, ?_⟩ <;> intro hc))
    all_goals (simp_all [hasB] <;> intros <;> omega)
theorem within_calls (n a b : Int) : PCalls Try.prog 141 [.raw (.int .i64 n), .raw (.int .i64 a), .raw (.int .i64 b)] (.raw (.bool (decide (a ≤ n) && decide (n ≤ b)))) := by
  refine pbody Try.func141 rfl (N := 15) rfl rfl (by simp) (by simp [noIds]) fun σ => ?_
  (try (first | (with_reducible refine dops_go ?_; simp) | (with_reducible refine OKv_go ?_; simp) | (with_reducible refine OKr_go ?_; simp))); repeat' (first | refine awp_seq ?_ | refine awp_block ?_ | (refine awp_skip ?_; try simp) | (refine awp_exit ?_; try simp) | (refine awp_ret ?_; try simp) | (refine retP_same (by simp) ?_; simp) | (refine retP_flat (by simp) (by simp) (by simp (maxDischargeDepth := 30)) ?_; simp) | (refine awp_reg ?_; simp) | (refine awp_drawT (fun _ => false) mixed (by decide +kernel) ?_; simp) | (refine guarded_split ?_ ?_ <;> (intro hg; simp only [hg]; simp)) | (apply awp_cond_t; focus (simp; done)) | (apply awp_cond_f; focus (simp; done)) | (refine awp_cond ?_; simp; refine ⟨?_, ?_⟩ <;> intro hc))
theorem refWithin_calls (n b : Int) : PCalls Try.prog 139 [.raw (.int .i64 n), .raw (.int .i64 b)] (.raw (.bool (decide (0 ≤ n) && decide (n ≤ b)))) := by
  refine pbody Try.func139 rfl (N := 12) rfl rfl (by simp) (by simp [noIds]) fun σ => ?_
  (try (first | (with_reducible refine dops_go ?_; simp) | (with_reducible refine OKv_go ?_; simp) | (with_reducible refine OKr_go ?_; simp))); repeat' (first | refine awp_seq ?_ | refine awp_block ?_ | (refine awp_skip ?_; try simp) | (refine awp_exit ?_; try simp) | (refine awp_ret ?_; try simp) | (refine retP_same (by simp) ?_; simp) | (refine retP_flat (by simp) (by simp) (by simp (maxDischargeDepth := 30)) ?_; simp) | (refine awp_reg ?_; simp) | (refine awp_drawT (fun _ => false) mixed (by decide +kernel) ?_; simp) | (refine guarded_split ?_ ?_ <;> (intro hg; simp only [hg]; simp)) | (apply awp_cond_t; focus (simp; done)) | (apply awp_cond_f; focus (simp; done)) | (refine awp_cond ?_; simp; refine ⟨?_, ?_⟩ <;> intro hc))
def takesB (r : Ru) (d a : Int) : Bool := decide (r.dev = d) && (decide (r.r.lo ≤ a) && decide (a ≤ r.r.hi))
theorem takes_calls (r : Ru) (d a : Int) : PCalls Try.prog 137 [ruAV r, .raw (.int .i64 d), .raw (.int .u32 a)] (.raw (.bool (takesB r d a))) := by
  refine pbody Try.func137 rfl (N := 25) rfl rfl (by simp) (by simp [noIds]) fun σ => ?_
  (try (first | (with_reducible refine dops_go ?_; simp [ruAV]) | (with_reducible refine OKv_go ?_; simp [ruAV]) | (with_reducible refine OKr_go ?_; simp [ruAV]))); repeat' (first | refine awp_seq ?_ | refine awp_block ?_ | (refine awp_skip ?_; try simp) | (refine awp_exit ?_; try simp) | (refine awp_ret ?_; try simp) | (refine retP_same (by simp) ?_; simp) | (refine retP_flat (by simp) (by simp) (by simp (maxDischargeDepth := 30) [ruAV]) ?_; simp) | (refine awp_reg ?_; simp [ruAV]) | (refine awp_drawT (fun _ => false) mixed (by decide +kernel) ?_; simp [ruAV]) | (refine guarded_split ?_ ?_ <;> (intro hg; simp only [hg]; simp [ruAV])) | (apply awp_cond_t; focus (simp [ruAV]; done)) | (apply awp_cond_f; focus (simp [ruAV]; done)) | (refine awp_cond ?_; simp [ruAV]; refine ⟨?_, ?_⟩ <;> intro hc))
  all_goals (simp_all [takesB] <;> intros <;> omega)
theorem isNaN_calls (a : Int) : PCalls Try.prog 132 [.raw (.int .i64 a)] (.raw (.bool false)) := by
  refine pbody Try.func132 rfl (N := 6) rfl rfl (by simp) (by simp [noIds]) fun σ => ?_
  (try (first | (with_reducible refine dops_go ?_; simp) | (with_reducible refine OKv_go ?_; simp) | (with_reducible refine OKr_go ?_; simp))); repeat' (first | refine awp_seq ?_ | refine awp_block ?_ | (refine awp_skip ?_; try simp) | (refine awp_exit ?_; try simp) | (refine awp_ret ?_; try simp) | (refine retP_same (by simp) ?_; simp) | (refine retP_flat (by simp) (by simp) (by simp (maxDischargeDepth := 30)) ?_; simp) | (refine awp_reg ?_; simp) | (refine awp_drawT (fun _ => false) mixed (by decide +kernel) ?_; simp) | (refine guarded_split ?_ ?_ <;> (intro hg; simp only [hg]; simp)) | (apply awp_cond_t; focus (simp; done)) | (apply awp_cond_f; focus (simp; done)) | (refine awp_cond ?_; simp; refine ⟨?_, ?_⟩ <;> intro hc))
def cmpI (a b : Int) : Int := if a < b then -1 else if b < a then 1 else 0
theorem compare_calls (a b : Int) : PCalls Try.prog 102 [.raw (.int .i64 a), .raw (.int .i64 b)] (.raw (.int .i64 (cmpI a b))) := by
  refine pbody Try.func102 rfl (N := 20) rfl rfl (by simp) (by simp [noIds]) fun σ => ?_
  (try (first | (with_reducible refine dops_go ?_; simp) | (with_reducible refine OKv_go ?_; simp) | (with_reducible refine OKr_go ?_; simp))); repeat' (first | refine awp_seq ?_ | refine awp_block ?_ | (refine awp_skip ?_; try simp) | (refine awp_exit ?_; try simp) | (refine awp_ret ?_; try simp) | (refine retP_same (by simp) ?_; simp) | (refine retP_flat (by simp) (by simp) (by simp (maxDischargeDepth := 30)) ?_; simp) | (refine awp_reg ?_; simp) | (refine awp_drawT (fun _ => false) mixed (by decide +kernel) ?_; simp) | (refine guarded_split ?_ ?_ <;> (intro hg; simp only [hg]; simp)) | (apply awp_cond_t; focus (simp; done)) | (apply awp_cond_f; focus (simp; done)) | (refine awp_cond ?_; simp; refine ⟨?_, ?_⟩ <;> intro hc))
  refine PCalls.use (isNaN_calls a) ?_
  (try (first | (with_reducible refine dops_go ?_; simp) | (with_reducible refine OKv_go ?_; simp) | (with_reducible refine OKr_go ?_; simp))); repeat' (first | refine awp_seq ?_ | refine awp_block ?_ | (refine awp_skip ?_; try simp) | (refine awp_exit ?_; try simp) | (refine awp_ret ?_; try simp) | (refine retP_same (by simp) ?_; simp) | (refine retP_flat (by simp) (by simp) (by simp (maxDischargeDepth := 30)) ?_; simp) | (refine awp_reg ?_; simp) | (refine awp_drawT (fun _ => false) mixed (by decide +kernel) ?_; simp) | (refine guarded_split ?_ ?_ <;> (intro hg; simp only [hg]; simp)) | (apply awp_cond_t; focus (simp; done)) | (apply awp_cond_f; focus (simp; done)) | (refine awp_cond ?_; simp; refine ⟨?_, ?_⟩ <;> intro hc))
  refine PCalls.use (isNaN_calls b) ?_
  (try (first | (with_reducible refine dops_go ?_; simp [cmpI]) | (with_reducible refine OKv_go ?_; simp [cmpI]) | (with_reducible refine OKr_go ?_; simp [cmpI]))); repeat' (first | refine awp_seq ?_ | refine awp_block ?_ | (refine awp_skip ?_; try simp) | (refine awp_exit ?_; try simp) | (refine awp_ret ?_; try simp) | (refine retP_same (by simp) ?_; simp) | (refine retP_flat (by simp) (by simp) (by simp (maxDischargeDepth := 30) [cmpI]) ?_; simp) | (refine awp_reg ?_; simp [cmpI]) | (refine awp_drawT (fun _ => false) mixed (by decide +kernel) ?_; simp [cmpI]) | (refine guarded_split ?_ ?_ <;> (intro hg; simp only [hg]; simp [cmpI])) | (apply awp_cond_t; focus (simp [cmpI]; done)) | (apply awp_cond_f; focus (simp [cmpI]; done)) | (refine awp_cond ?_; simp [cmpI]; refine ⟨?_, ?_⟩ <;> intro hc))
  all_goals (unfold cmpI; (repeat' split) <;> omega)
end Go.Proofs.Ytanimmdlgmkmkaa.Av

/- Networks: searching lists by a function. -/
namespace Go.Proofs.Ytanimmdlgmkmkaa.Av
open Go
set_option linter.unusedSimpArgs false
set_option linter.unusedVariables false
set_option maxRecDepth 100000
set_option maxHeartbeats 1000000
set_option pp.maxSteps 300

/-- The first that is asked for; -1: there is none. -/
def idxOf {T : Type} (p : T → Bool) (z : List T) : Int := if z.any p then (z.findIdx p : Nat) else -1
theorem idxOf_here {T : Type} {p : T → Bool} {z : List T} {i : Nat} {x : T} (hx : z[i]? = some x) (hp : p x = true) (hn : ∀ j, j < i → ∀ y, z[j]? = some y → p y = false) : idxOf p z = i := by
  unfold idxOf
  obtain ⟨hi, he⟩ := List.getElem?_eq_some_iff.1 hx
  rw [if_pos (List.any_eq_true.2 ⟨x, List.mem_of_getElem? hx, hp⟩)]
  congr 1
  rw [List.findIdx_eq hi]
  refine ⟨by rw [he]; exact hp, fun j hj => ?_⟩
  exact hn j hj _ (List.getElem?_eq_getElem (by omega))
theorem idxOf_none {T : Type} {p : T → Bool} {z : List T} (hn : ∀ j, j < z.length → ∀ y, z[j]? = some y → p y = false) : idxOf p z = -1 ∧ z.any p = false := by
  have : z.any p = false := by
    rw [List.any_eq_false]
    intro x hx
    obtain ⟨j, hj⟩ := List.getElem?_of_mem hx
    simp [hn j (List.getElem?_eq_some_iff.1 hj).1 x hj]
  exact ⟨by unfold idxOf; rw [this]; rfl, this⟩
theorem idxOf_any {T : Type} (p : T → Bool) (z : List T) : decide (0 ≤ idxOf p z) = z.any p := by
  unfold idxOf
  cases z.any p <;> simp
theorem ru_cells (r : Ru) : (ruAV r).cells = [.raw (.int .i64 r.id), .raw (.int .i64 r.dev), .raw (.int .i64 r.prio), .raw (.int .i64 r.kind), .raw (.int .u32 r.r.lo), .raw (.int .u32 r.r.hi), .raw (.int .i64 r.port)] := rfl
theorem lk_cells (l : Lk) : (lkAV l).cells = [.raw (.int .i64 l.a.dev), .raw (.int .i64 l.a.port), .raw (.int .i64 l.b.dev), .raw (.int .i64 l.b.port)] := rfl
theorem i_cells (n : Int) : (iAV n).cells = [.raw (.int .i64 n)] := rfl

theorem lkIndex_calls {g : FuncId} {caps : List AV} {p : Lk → Bool} (z : List Lk) (fz : Bool) (hl : z.length < 2 ^ 60) (hg : ∀ r ∈ z, PCalls Try.prog g (lkAV r :: caps) (.raw (.bool (p r)))) :
    PCalls Try.prog 140 [linksAV z fz, .fn (.func g) [] caps] (.raw (.int .i64 (idxOf p z))) := by
  refine pbody Try.func140 rfl (N := 19) rfl rfl (by simp) (by simp [noIds]) fun σ => ?_
  (try (first | (with_reducible refine dops_go ?_; simp [linksAV]) | (with_reducible refine OKv_go ?_; simp [linksAV]) | (with_reducible refine OKr_go ?_; simp [linksAV]))); repeat' (first | refine awp_seq ?_ | refine awp_block ?_ | (refine awp_skip ?_; try simp) | (refine awp_exit ?_; try simp) | (refine awp_ret ?_; try simp) | (refine retP_same (by simp) ?_; simp) | (refine retP_flat (by simp) (by simp) (by simp (maxDischargeDepth := 30) [linksAV]) ?_; simp) | (refine awp_reg ?_; simp [linksAV]) | (refine awp_drawT (fun _ => false) mixed (by decide +kernel) ?_; simp [linksAV]) | (refine guarded_split ?_ ?_ <;> (intro hg; simp only [hg]; simp [linksAV])) | (apply awp_cond_t; focus (simp [linksAV]; done)) | (apply awp_cond_f; focus (simp [linksAV]; done)) | (refine awp_cond ?_; simp [linksAV]; refine ⟨?_, ?_⟩ <;> intro hc))
  refine awp_loopH (fun n A τ => τ = σ ∧ A 0 = linksAV z fz ∧ A 1 = .fn (.func g) [] caps ∧ A 7 = .raw (.int .i64 z.length) ∧ ∃ i : Nat, A 8 = .raw (.int .i64 i) ∧ i ≤ z.length ∧ n = z.length - i ∧ ∀ j, j < i → ∀ y, z[j]? = some y → p y = false) z.length ?_ ?_
  · exact ⟨rfl, by simp [linksAV], by simp, by simp, 0, by simp, by omega, by omega, fun j h => by omega⟩
  rintro n A τ ⟨rfl, a0, a1, a7, i, a8, hi, rfl, hn⟩ I1 hI1
  by_cases hlt : i < z.length
  · have hx : z[i]? = some z[i] := List.getElem?_eq_getElem hlt
    have w1 : IntKind.i64.wrap ((i : Int) + 1) = ((i + 1 : Nat) : Int) := by rw [wrap64 (by omega) (by omega)]; omega
    have hr : AV.agg [.raw (.int .i64 z[i].a.dev), .raw (.int .i64 z[i].a.port), .raw (.int .i64 z[i].b.dev), .raw (.int .i64 z[i].b.port)] = lkAV z[i] := rfl
    (try (first | (with_reducible refine dops_go ?_; simp [linksAV, a0, a1, a7, a8, hlt, hx, lk_cells, hr]) | (with_reducible refine OKv_go ?_; simp [linksAV, a0, a1, a7, a8, hlt, hx, lk_cells, hr]) | (with_reducible refine OKr_go ?_; simp [linksAV, a0, a1, a7, a8, hlt, hx, lk_cells, hr]))); repeat' (first | refine awp_seq ?_ | refine awp_block ?_ | (refine awp_skip ?_; try simp) | (refine awp_exit ?_; try simp) | (refine awp_ret ?_; try simp) | (refine retP_same (by simp) ?_; simp) | (refine retP_flat (by simp) (by simp) (by simp (maxDischargeDepth := 30) [linksAV, a0, a1, a7, a8, hlt, hx, lk_cells, hr]) ?_; simp) | (refine awp_reg ?_; simp [linksAV, a0, a1, a7, a8, hlt, hx, lk_cells, hr]) | (refine awp_drawT (fun _ => false) mixed (by decide +kernel) ?_; simp [linksAV, a0, a1, a7, a8, hlt, hx, lk_cells, hr]) | (refine guarded_split ?_ ?_ <;> (intro hg; simp only [hg]; simp [linksAV, a0, a1, a7, a8, hlt, hx, lk_cells, hr])) | (apply awp_cond_t; focus (simp [linksAV, a0, a1, a7, a8, hlt, hx, lk_cells, hr]; done)) | (apply awp_cond_f; focus (simp [linksAV, a0, a1, a7, a8, hlt, hx, lk_cells, hr]; done)) | (refine awp_cond ?_; simp [linksAV, a0, a1, a7, a8, hlt, hx, lk_cells, hr]; refine ⟨?_, ?_⟩ <;> intro hc))
    refine PCalls.use (hg z[i] (List.getElem_mem _)) ?_
    cases hp : p z[i] with
    | true =>
      (try (first | (with_reducible refine dops_go ?_; simp [linksAV, a0, a1, a7, a8, hlt, hx, lk_cells, hr]) | (with_reducible refine OKv_go ?_; simp [linksAV, a0, a1, a7, a8, hlt, hx, lk_cells, hr]) | (with_reducible refine OKr_go ?_; simp [linksAV, a0, a1, a7, a8, hlt, hx, lk_cells, hr]))); repeat' (first | refine awp_seq ?_ | refine awp_block ?_ | (refine awp_skip ?_; try simp) | (refine awp_exit ?_; try simp) | (refine awp_ret ?_; try simp) | (refine retP_same (by simp) ?_; simp) | (refine retP_flat (by simp) (by simp) (by simp (maxDischargeDepth := 30) [linksAV, a0, a1, a7, a8, hlt, hx, lk_cells, hr]) ?_; simp) | (refine awp_reg ?_; simp [linksAV, a0, a1, a7, a8, hlt, hx, lk_cells, hr]) | (refine awp_drawT (fun _ => false) mixed (by decide +kernel) ?_; simp [linksAV, a0, a1, a7, a8, hlt, hx, lk_cells, hr]) | (refine guarded_split ?_ ?_ <;> (intro hg; simp only [hg]; simp [linksAV, a0, a1, a7, a8, hlt, hx, lk_cells, hr])) | (apply awp_cond_t; focus (simp [linksAV, a0, a1, a7, a8, hlt, hx, lk_cells, hr]; done)) | (apply awp_cond_f; focus (simp [linksAV, a0, a1, a7, a8, hlt, hx, lk_cells, hr]; done)) | (refine awp_cond ?_; simp [linksAV, a0, a1, a7, a8, hlt, hx, lk_cells, hr]; refine ⟨?_, ?_⟩ <;> intro hc))
      exact (idxOf_here hx hp hn).symm
    | false =>
      (try (first | (with_reducible refine dops_go ?_; simp [linksAV, a0, a1, a7, a8, hlt, hx, lk_cells, hr]) | (with_reducible refine OKv_go ?_; simp [linksAV, a0, a1, a7, a8, hlt, hx, lk_cells, hr]) | (with_reducible refine OKr_go ?_; simp [linksAV, a0, a1, a7, a8, hlt, hx, lk_cells, hr]))); repeat' (first | refine awp_seq ?_ | refine awp_block ?_ | (refine awp_skip ?_; try simp) | (refine awp_exit ?_; try simp) | (refine awp_ret ?_; try simp) | (refine retP_same (by simp) ?_; simp) | (refine retP_flat (by simp) (by simp) (by simp (maxDischargeDepth := 30) [linksAV, a0, a1, a7, a8, hlt, hx, lk_cells, hr]) ?_; simp) | (refine awp_reg ?_; simp [linksAV, a0, a1, a7, a8, hlt, hx, lk_cells, hr]) | (refine awp_drawT (fun _ => false) mixed (by decide +kernel) ?_; simp [linksAV, a0, a1, a7, a8, hlt, hx, lk_cells, hr]) | (refine guarded_split ?_ ?_ <;> (intro hg; simp only [hg]; simp [linksAV, a0, a1, a7, a8, hlt, hx, lk_cells, hr])) | (apply awp_cond_t; focus (simp [linksAV, a0, a1, a7, a8, hlt, hx, lk_cells, hr]; done)) | (apply awp_cond_f; focus (simp [linksAV, a0, a1, a7, a8, hlt, hx, lk_cells, hr]; done)) | (refine awp_cond ?_; simp [linksAV, a0, a1, a7, a8, hlt, hx, lk_cells, hr]; refine ⟨?_, ?_⟩ <;> intro hc))
      refine hI1 (z.length - (i + 1)) _ _ (by omega) ⟨rfl, by simp [a0], by simp [a1], by simp [a7], i + 1, by simp [w1], by omega, rfl, fun j hj y hy => ?_⟩
      by_cases e : j = i
      · subst e; rw [hx] at hy; injection hy with hy; subst hy; exact hp
      · exact hn j (by omega) y hy
  · have hi' : i = z.length := by omega
    subst hi'
    have w1 : IntKind.i64.wrap (-1) = -1 := wrap64 (by omega) (by omega)
    (try (first | (with_reducible refine dops_go ?_; simp [linksAV, a0, a1, a7, a8, w1]) | (with_reducible refine OKv_go ?_; simp [linksAV, a0, a1, a7, a8, w1]) | (with_reducible refine OKr_go ?_; simp [linksAV, a0, a1, a7, a8, w1]))); repeat' (first | refine awp_seq ?_ | refine awp_block ?_ | (refine awp_skip ?_; try simp) | (refine awp_exit ?_; try simp) | (refine awp_ret ?_; try simp) | (refine retP_same (by simp) ?_; simp) | (refine retP_flat (by simp) (by simp) (by simp (maxDischargeDepth := 30) [linksAV, a0, a1, a7, a8, w1]) ?_; simp) | (refine awp_reg ?_; simp [linksAV, a0, a1, a7, a8, w1]) | (refine awp_drawT (fun _ => false) mixed (by decide +kernel) ?_; simp [linksAV, a0, a1, a7, a8, w1]) | (refine guarded_split ?_ ?_ <;> (intro hg; simp only [hg]; simp [linksAV, a0, a1, a7, a8, w1])) | (apply awp_cond_t; focus (simp [linksAV, a0, a1, a7, a8, w1]; done)) | (apply awp_cond_f; focus (simp [linksAV, a0, a1, a7, a8, w1]; done)) | (refine awp_cond ?_; simp [linksAV, a0, a1, a7, a8, w1]; refine ⟨?_, ?_⟩ <;> intro hc))
    exact (idxOf_none hn).1.symm
theorem lkContains_calls {g : FuncId} {caps : List AV} {p : Lk → Bool} (z : List Lk) (fz : Bool) (hl : z.length < 2 ^ 60) (hg : ∀ r ∈ z, PCalls Try.prog g (lkAV r :: caps) (.raw (.bool (p r)))) :
    PCalls Try.prog 115 [linksAV z fz, .fn (.func g) [] caps] (.raw (.bool (z.any p))) := by
  refine pbody Try.func115 rfl (N := 9) rfl rfl (by simp) (by simp [noIds]) fun σ => ?_
  (try (first | (with_reducible refine dops_go ?_; simp) | (with_reducible refine OKv_go ?_; simp) | (with_reducible refine OKr_go ?_; simp))); repeat' (first | refine awp_seq ?_ | refine awp_block ?_ | (refine awp_skip ?_; try simp) | (refine awp_exit ?_; try simp) | (refine awp_ret ?_; try simp) | (refine retP_same (by simp) ?_; simp) | (refine retP_flat (by simp) (by simp) (by simp (maxDischargeDepth := 30)) ?_; simp) | (refine awp_reg ?_; simp) | (refine awp_drawT (fun _ => false) mixed (by decide +kernel) ?_; simp) | (refine guarded_split ?_ ?_ <;> (intro hg; simp only [hg]; simp)) | (apply awp_cond_t; focus (simp; done)) | (apply awp_cond_f; focus (simp; done)) | (refine awp_cond ?_; simp; refine ⟨?_, ?_⟩ <;> intro hc))
  refine PCalls.use (lkIndex_calls z fz hl hg) ?_
  have := idxOf_any p z
  (try (first | (with_reducible refine dops_go ?_; simp) | (with_reducible refine OKv_go ?_; simp) | (with_reducible refine OKr_go ?_; simp))); repeat' (first | refine awp_seq ?_ | refine awp_block ?_ | (refine awp_skip ?_; try simp) | (refine awp_exit ?_; try simp) | (refine awp_ret ?_; try simp) | (refine retP_same (by simp) ?_; simp) | (refine retP_flat (by simp) (by simp) (by simp (maxDischargeDepth := 30)) ?_; simp) | (refine awp_reg ?_; simp) | (refine awp_drawT (fun _ => false) mixed (by decide +kernel) ?_; simp) | (refine guarded_split ?_ ?_ <;> (intro hg; simp only [hg]; simp)) | (apply awp_cond_t; focus (simp; done)) | (apply awp_cond_f; focus (simp; done)) | (refine awp_cond ?_; simp; refine ⟨?_, ?_⟩ <;> intro hc))
  simpa using this

theorem ruIndex_calls {g : FuncId} {caps : List AV} {p : Ru → Bool} (z : List Ru) (fz : Bool) (hl : z.length < 2 ^ 60) (hg : ∀ r ∈ z, PCalls Try.prog g (ruAV r :: caps) (.raw (.bool (p r)))) :
    PCalls Try.prog 142 [rulesAV z fz, .fn (.func g) [] caps] (.raw (.int .i64 (idxOf p z))) := by
  refine pbody Try.func142 rfl (N := 19) rfl rfl (by simp) (by simp [noIds]) fun σ => ?_
  (try (first | (with_reducible refine dops_go ?_; simp [rulesAV]) | (with_reducible refine OKv_go ?_; simp [rulesAV]) | (with_reducible refine OKr_go ?_; simp [rulesAV]))); repeat' (first | refine awp_seq ?_ | refine awp_block ?_ | (refine awp_skip ?_; try simp) | (refine awp_exit ?_; try simp) | (refine awp_ret ?_; try simp) | (refine retP_same (by simp) ?_; simp) | (refine retP_flat (by simp) (by simp) (by simp (maxDischargeDepth := 30) [rulesAV]) ?_; simp) | (refine awp_reg ?_; simp [rulesAV]) | (refine awp_drawT (fun _ => false) mixed (by decide +kernel) ?_; simp [rulesAV]) | (refine guarded_split ?_ ?_ <;> (intro hg; simp only [hg]; simp [rulesAV])) | (apply awp_cond_t; focus (simp [rulesAV]; done)) | (apply awp_cond_f; focus (simp [rulesAV]; done)) | (refine awp_cond ?_; simp [rulesAV]; refine ⟨?_, ?_⟩ <;> intro hc))
  refine awp_loopH (fun n A τ => τ = σ ∧ A 0 = rulesAV z fz ∧ A 1 = .fn (.func g) [] caps ∧ A 7 = .raw (.int .i64 z.length) ∧ ∃ i : Nat, A 8 = .raw (.int .i64 i) ∧ i ≤ z.length ∧ n = z.length - i ∧ ∀ j, j < i → ∀ y, z[j]? = some y → p y = false) z.length ?_ ?_
  · exact ⟨rfl, by simp [rulesAV], by simp, by simp, 0, by simp, by omega, by omega, fun j h => by omega⟩
  rintro n A τ ⟨rfl, a0, a1, a7, i, a8, hi, rfl, hn⟩ I1 hI1
  by_cases hlt : i < z.length
  · have hx : z[i]? = some z[i] := List.getElem?_eq_getElem hlt
    have w1 : IntKind.i64.wrap ((i : Int) + 1) = ((i + 1 : Nat) : Int) := by rw [wrap64 (by omega) (by omega)]; omega
    have hr : AV.agg [.raw (.int .i64 z[i].id), .raw (.int .i64 z[i].dev), .raw (.int .i64 z[i].prio), .raw (.int .i64 z[i].kind), .raw (.int .u32 z[i].r.lo), .raw (.int .u32 z[i].r.hi), .raw (.int .i64 z[i].port)] = ruAV z[i] := rfl
    (try (first | (with_reducible refine dops_go ?_; simp [rulesAV, a0, a1, a7, a8, hlt, hx, ru_cells, hr]) | (with_reducible refine OKv_go ?_; simp [rulesAV, a0, a1, a7, a8, hlt, hx, ru_cells, hr]) | (with_reducible refine OKr_go ?_; simp [rulesAV, a0, a1, a7, a8, hlt, hx, ru_cells, hr]))); repeat' (first | refine awp_seq ?_ | refine awp_block ?_ | (refine awp_skip ?_; try simp) | (refine awp_exit ?_; try simp) | (refine awp_ret ?_; try simp) | (refine retP_same (by simp) ?_; simp) | (refine retP_flat (by simp) (by simp) (by simp (maxDischargeDepth := 30) [rulesAV, a0, a1, a7, a8, hlt, hx, ru_cells, hr]) ?_; simp) | (refine awp_reg ?_; simp [rulesAV, a0, a1, a7, a8, hlt, hx, ru_cells, hr]) | (refine awp_drawT (fun _ => false) mixed (by decide +kernel) ?_; simp [rulesAV, a0, a1, a7, a8, hlt, hx, ru_cells, hr]) | (refine guarded_split ?_ ?_ <;> (intro hg; simp only [hg]; simp [rulesAV, a0, a1, a7, a8, hlt, hx, ru_cells, hr])) | (apply awp_cond_t; focus (simp [rulesAV, a0, a1, a7, a8, hlt, hx, ru_cells, hr]; done)) | (apply awp_cond_f; focus (simp [rulesAV, a0, a1, a7, a8, hlt, hx, ru_cells, hr]; done)) | (refine awp_cond ?_; simp [rulesAV, a0, a1, a7, a8, hlt, hx, ru_cells, hr]; refine ⟨?_, ?_⟩ <;> intro hc))
    refine PCalls.use (hg z[i] (List.getElem_mem _)) ?_
    cases hp : p z[i] with
    | true =>
      (try (first | (with_reducible refine dops_go ?_; simp [rulesAV, a0, a1, a7, a8, hlt, hx, ru_cells, hr]) | (with_reducible refine OKv_go ?_; simp [rulesAV, a0, a1, a7, a8, hlt, hx, ru_cells, hr]) | (with_reducible refine OKr_go ?_; simp [rulesAV, a0, a1, a7, a8, hlt, hx, ru_cells, hr]))); repeat' (first | refine awp_seq ?_ | refine awp_block ?_ | (refine awp_skip ?_; try simp) | (refine awp_exit ?_; try simp) | (refine awp_ret ?_; try simp) | (refine retP_same (by simp) ?_; simp) | (refine retP_flat (by simp) (by simp) (by simp (maxDischargeDepth := 30) [rulesAV, a0, a1, a7, a8, hlt, hx, ru_cells, hr]) ?_; simp) | (refine awp_reg ?_; simp [rulesAV, a0, a1, a7, a8, hlt, hx, ru_cells, hr]) | (refine awp_drawT (fun _ => false) mixed (by decide +kernel) ?_; simp [rulesAV, a0, a1, a7, a8, hlt, hx, ru_cells, hr]) | (refine guarded_split ?_ ?_ <;> (intro hg; simp only [hg]; simp [rulesAV, a0, a1, a7, a8, hlt, hx, ru_cells, hr])) | (apply awp_cond_t; focus (simp [rulesAV, a0, a1, a7, a8, hlt, hx, ru_cells, hr]; done)) | (apply awp_cond_f; focus (simp [rulesAV, a0, a1, a7, a8, hlt, hx, ru_cells, hr]; done)) | (refine awp_cond ?_; simp [rulesAV, a0, a1, a7, a8, hlt, hx, ru_cells, hr]; refine ⟨?_, ?_⟩ <;> intro hc))
      exact (idxOf_here hx hp hn).symm
    | false =>
      (try (first | (with_reducible refine dops_go ?_; simp [rulesAV, a0, a1, a7, a8, hlt, hx, ru_cells, hr]) | (with_reducible refine OKv_go ?_; simp [rulesAV, a0, a1, a7, a8, hlt, hx, ru_cells, hr]) | (with_reducible refine OKr_go ?_; simp [rulesAV, a0, a1, a7, a8, hlt, hx, ru_cells, hr]))); repeat' (first | refine awp_seq ?_ | refine awp_block ?_ | (refine awp_skip ?_; try simp) | (refine awp_exit ?_; try simp) | (refine awp_ret ?_; try simp) | (refine retP_same (by simp) ?_; simp) | (refine retP_flat (by simp) (by simp) (by simp (maxDischargeDepth := 30) [rulesAV, a0, a1, a7, a8, hlt, hx, ru_cells, hr]) ?_; simp) | (refine awp_reg ?_; simp [rulesAV, a0, a1, a7, a8, hlt, hx, ru_cells, hr]) | (refine awp_drawT (fun _ => false) mixed (by decide +kernel) ?_; simp [rulesAV, a0, a1, a7, a8, hlt, hx, ru_cells, hr]) | (refine guarded_split ?_ ?_ <;> (intro hg; simp only [hg]; simp [rulesAV, a0, a1, a7, a8, hlt, hx, ru_cells, hr])) | (apply awp_cond_t; focus (simp [rulesAV, a0, a1, a7, a8, hlt, hx, ru_cells, hr]; done)) | (apply awp_cond_f; focus (simp [rulesAV, a0, a1, a7, a8, hlt, hx, ru_cells, hr]; done)) | (refine awp_cond ?_; simp [rulesAV, a0, a1, a7, a8, hlt, hx, ru_cells, hr]; refine ⟨?_, ?_⟩ <;> intro hc))
      refine hI1 (z.length - (i + 1)) _ _ (by omega) ⟨rfl, by simp [a0], by simp [a1], by simp [a7], i + 1, by simp [w1], by omega, rfl, fun j hj y hy => ?_⟩
      by_cases e : j = i
      · subst e; rw [hx] at hy; injection hy with hy; subst hy; exact hp
      · exact hn j (by omega) y hy
  · have hi' : i = z.length := by omega
    subst hi'
    have w1 : IntKind.i64.wrap (-1) = -1 := wrap64 (by omega) (by omega)
    (try (first | (with_reducible refine dops_go ?_; simp [rulesAV, a0, a1, a7, a8, w1]) | (with_reducible refine OKv_go ?_; simp [rulesAV, a0, a1, a7, a8, w1]) | (with_reducible refine OKr_go ?_; simp [rulesAV, a0, a1, a7, a8, w1]))); repeat' (first | refine awp_seq ?_ | refine awp_block ?_ | (refine awp_skip ?_; try simp) | (refine awp_exit ?_; try simp) | (refine awp_ret ?_; try simp) | (refine retP_same (by simp) ?_; simp) | (refine retP_flat (by simp) (by simp) (by simp (maxDischargeDepth := 30) [rulesAV, a0, a1, a7, a8, w1]) ?_; simp) | (refine awp_reg ?_; simp [rulesAV, a0, a1, a7, a8, w1]) | (refine awp_drawT (fun _ => false) mixed (by decide +kernel) ?_; simp [rulesAV, a0, a1, a7, a8, w1]) | (refine guarded_split ?_ ?_ <;> (intro hg; simp only [hg]; simp [rulesAV, a0, a1, a7, a8, w1])) | (apply awp_cond_t; focus (simp [rulesAV, a0, a1, a7, a8, w1]; done)) | (apply awp_cond_f; focus (simp [rulesAV, a0, a1, a7, a8, w1]; done)) | (refine awp_cond ?_; simp [rulesAV, a0, a1, a7, a8, w1]; refine ⟨?_, ?_⟩ <;> intro hc))
    exact (idxOf_none hn).1.symm
theorem ruContains_calls {g : FuncId} {caps : List AV} {p : Ru → Bool} (z : List Ru) (fz : Bool) (hl : z.length < 2 ^ 60) (hg : ∀ r ∈ z, PCalls Try.prog g (ruAV r :: caps) (.raw (.bool (p r)))) :
    PCalls Try.prog 119 [rulesAV z fz, .fn (.func g) [] caps] (.raw (.bool (z.any p))) := by
  refine pbody Try.func119 rfl (N := 9) rfl rfl (by simp) (by simp [noIds]) fun σ => ?_
  (try (first | (with_reducible refine dops_go ?_; simp) | (with_reducible refine OKv_go ?_; simp) | (with_reducible refine OKr_go ?_; simp))); repeat' (first | refine awp_seq ?_ | refine awp_block ?_ | (refine awp_skip ?_; try simp) | (refine awp_exit ?_; try simp) | (refine awp_ret ?_; try simp) | (refine retP_same (by simp) ?_; simp) | (refine retP_flat (by simp) (by simp) (by simp (maxDischargeDepth := 30)) ?_; simp) | (refine awp_reg ?_; simp) | (refine awp_drawT (fun _ => false) mixed (by decide +kernel) ?_; simp) | (refine guarded_split ?_ ?_ <;> (intro hg; simp only [hg]; simp)) | (apply awp_cond_t; focus (simp; done)) | (apply awp_cond_f; focus (simp; done)) | (refine awp_cond ?_; simp; refine ⟨?_, ?_⟩ <;> intro hc))
  refine PCalls.use (ruIndex_calls z fz hl hg) ?_
  have := idxOf_any p z
  (try (first | (with_reducible refine dops_go ?_; simp) | (with_reducible refine OKv_go ?_; simp) | (with_reducible refine OKr_go ?_; simp))); repeat' (first | refine awp_seq ?_ | refine awp_block ?_ | (refine awp_skip ?_; try simp) | (refine awp_exit ?_; try simp) | (refine awp_ret ?_; try simp) | (refine retP_same (by simp) ?_; simp) | (refine retP_flat (by simp) (by simp) (by simp (maxDischargeDepth := 30)) ?_; simp) | (refine awp_reg ?_; simp) | (refine awp_drawT (fun _ => false) mixed (by decide +kernel) ?_; simp) | (refine guarded_split ?_ ?_ <;> (intro hg; simp only [hg]; simp)) | (apply awp_cond_t; focus (simp; done)) | (apply awp_cond_f; focus (simp; done)) | (refine awp_cond ?_; simp; refine ⟨?_, ?_⟩ <;> intro hc))
  simpa using this

theorem intIndex_calls {g : FuncId} {caps : List AV} {p : Int → Bool} (z : List Int) (fz : Bool) (hl : z.length < 2 ^ 60) (hg : ∀ r ∈ z, PCalls Try.prog g (iAV r :: caps) (.raw (.bool (p r)))) :
    PCalls Try.prog 107 [intsAV z fz, .fn (.func g) [] caps] (.raw (.int .i64 (idxOf p z))) := by
  refine pbody Try.func107 rfl (N := 19) rfl rfl (by simp) (by simp [noIds]) fun σ => ?_
  (try (first | (with_reducible refine dops_go ?_; simp [intsAV]) | (with_reducible refine OKv_go ?_; simp [intsAV]) | (with_reducible refine OKr_go ?_; simp [intsAV]))); repeat' (first | refine awp_seq ?_ | refine awp_block ?_ | (refine awp_skip ?_; try simp) | (refine awp_exit ?_; try simp) | (refine awp_ret ?_; try simp) | (refine retP_same (by simp) ?_; simp) | (refine retP_flat (by simp) (by simp) (by simp (maxDischargeDepth := 30) [intsAV]) ?_; simp) | (refine awp_reg ?_; simp [intsAV]) | (refine awp_drawT (fun _ => false) mixed (by decide +kernel) ?_; simp [intsAV]) | (refine guarded_split ?_ ?_ <;> (intro hg; simp only [hg]; simp [intsAV])) | (apply awp_cond_t; focus (simp [intsAV]; done)) | (apply awp_cond_f; focus (simp [intsAV]; done)) | (refine awp_cond ?_; simp [intsAV]; refine ⟨?_, ?_⟩ <;> intro hc))
  refine awp_loopH (fun n A τ => τ = σ ∧ A 0 = intsAV z fz ∧ A 1 = .fn (.func g) [] caps ∧ A 7 = .raw (.int .i64 z.length) ∧ ∃ i : Nat, A 8 = .raw (.int .i64 i) ∧ i ≤ z.length ∧ n = z.length - i ∧ ∀ j, j < i → ∀ y, z[j]? = some y → p y = false) z.length ?_ ?_
  · exact ⟨rfl, by simp [intsAV], by simp, by simp, 0, by simp, by omega, by omega, fun j h => by omega⟩
  rintro n A τ ⟨rfl, a0, a1, a7, i, a8, hi, rfl, hn⟩ I1 hI1
  by_cases hlt : i < z.length
  · have hx : z[i]? = some z[i] := List.getElem?_eq_getElem hlt
    have w1 : IntKind.i64.wrap ((i : Int) + 1) = ((i + 1 : Nat) : Int) := by rw [wrap64 (by omega) (by omega)]; omega
    have hr : AV.raw (.int .i64 z[i]) = iAV z[i] := rfl
    (try (first | (with_reducible refine dops_go ?_; simp [intsAV, a0, a1, a7, a8, hlt, hx, i_cells, hr]) | (with_reducible refine OKv_go ?_; simp [intsAV, a0, a1, a7, a8, hlt, hx, i_cells, hr]) | (with_reducible refine OKr_go ?_; simp [intsAV, a0, a1, a7, a8, hlt, hx, i_cells, hr]))); repeat' (first | refine awp_seq ?_ | refine awp_block ?_ | (refine awp_skip ?_; try simp) | (refine awp_exit ?_; try simp) | (refine awp_ret ?_; try simp) | (refine retP_same (by simp) ?_; simp) | (refine retP_flat (by simp) (by simp) (by simp (maxDischargeDepth := 30) [intsAV, a0, a1, a7, a8, hlt, hx, i_cells, hr]) ?_; simp) | (refine awp_reg ?_; simp [intsAV, a0, a1, a7, a8, hlt, hx, i_cells, hr]) | (refine awp_drawT (fun _ => false) mixed (by decide +kernel) ?_; simp [intsAV, a0, a1, a7, a8, hlt, hx, i_cells, hr]) | (refine guarded_split ?_ ?_ <;> (intro hg; simp only [hg]; simp [intsAV, a0, a1, a7, a8, hlt, hx, i_cells, hr])) | (apply awp_cond_t; focus (simp [intsAV, a0, a1, a7, a8, hlt, hx, i_cells, hr]; done)) | (apply awp_cond_f; focus (simp [intsAV, a0, a1, a7, a8, hlt, hx, i_cells, hr]; done)) | (refine awp_cond ?_; simp [intsAV, a0, a1, a7, a8, hlt, hx, i_cells, hr]; refine ⟨?_, ?_⟩ <;> intro hc))
    refine PCalls.use (hg z[i] (List.getElem_mem _)) ?_
    cases hp : p z[i] with
    | true =>
      (try (first | (with_reducible refine dops_go ?_; simp [intsAV, a0, a1, a7, a8, hlt, hx, i_cells, hr]) | (with_reducible refine OKv_go ?_; simp [intsAV, a0, a1, a7, a8, hlt, hx, i_cells, hr]) | (with_reducible refine OKr_go ?_; simp [intsAV, a0, a1, a7, a8, hlt, hx, i_cells, hr]))); repeat' (first | refine awp_seq ?_ | refine awp_block ?_ | (refine awp_skip ?_; try simp) | (refine awp_exit ?_; try simp) | (refine awp_ret ?_; try simp) | (refine retP_same (by simp) ?_; simp) | (refine retP_flat (by simp) (by simp) (by simp (maxDischargeDepth := 30) [intsAV, a0, a1, a7, a8, hlt, hx, i_cells, hr]) ?_; simp) | (refine awp_reg ?_; simp [intsAV, a0, a1, a7, a8, hlt, hx, i_cells, hr]) | (refine awp_drawT (fun _ => false) mixed (by decide +kernel) ?_; simp [intsAV, a0, a1, a7, a8, hlt, hx, i_cells, hr]) | (refine guarded_split ?_ ?_ <;> (intro hg; simp only [hg]; simp [intsAV, a0, a1, a7, a8, hlt, hx, i_cells, hr])) | (apply awp_cond_t; focus (simp [intsAV, a0, a1, a7, a8, hlt, hx, i_cells, hr]; done)) | (apply awp_cond_f; focus (simp [intsAV, a0, a1, a7, a8, hlt, hx, i_cells, hr]; done)) | (refine awp_cond ?_; simp [intsAV, a0, a1, a7, a8, hlt, hx, i_cells, hr]; refine ⟨?_, ?_⟩ <;> intro hc))
      exact (idxOf_here hx hp hn).symm
    | false =>
      (try (first | (with_reducible refine dops_go ?_; simp [intsAV, a0, a1, a7, a8, hlt, hx, i_cells, hr]) | (with_reducible refine OKv_go ?_; simp [intsAV, a0, a1, a7, a8, hlt, hx, i_cells, hr]) | (with_reducible refine OKr_go ?_; simp [intsAV, a0, a1, a7, a8, hlt, hx, i_cells, hr]))); repeat' (first | refine awp_seq ?_ | refine awp_block ?_ | (refine awp_skip ?_; try simp) | (refine awp_exit ?_; try simp) | (refine awp_ret ?_; try simp) | (refine retP_same (by simp) ?_; simp) | (refine retP_flat (by simp) (by simp) (by simp (maxDischargeDepth := 30) [intsAV, a0, a1, a7, a8, hlt, hx, i_cells, hr]) ?_; simp) | (refine awp_reg ?_; simp [intsAV, a0, a1, a7, a8, hlt, hx, i_cells, hr]) | (refine awp_drawT (fun _ => false) mixed (by decide +kernel) ?_; simp [intsAV, a0, a1, a7, a8, hlt, hx, i_cells, hr]) | (refine guarded_split ?_ ?_ <;> (intro hg; simp only [hg]; simp [intsAV, a0, a1, a7, a8, hlt, hx, i_cells, hr])) | (apply awp_cond_t; focus (simp [intsAV, a0, a1, a7, a8, hlt, hx, i_cells, hr]; done)) | (apply awp_cond_f; focus (simp [intsAV, a0, a1, a7, a8, hlt, hx, i_cells, hr]; done)) | (refine awp_cond ?_; simp [intsAV, a0, a1, a7, a8, hlt, hx, i_cells, hr]; refine ⟨?_, ?_⟩ <;> intro hc))
      refine hI1 (z.length - (i + 1)) _ _ (by omega) ⟨rfl, by simp [a0], by simp [a1], by simp [a7], i + 1, by simp [w1], by omega, rfl, fun j hj y hy => ?_⟩
      by_cases e : j = i
      · subst e; rw [hx] at hy; injection hy with hy; subst hy; exact hp
      · exact hn j (by omega) y hy
  · have hi' : i = z.length := by omega
    subst hi'
    have w1 : IntKind.i64.wrap (-1) = -1 := wrap64 (by omega) (by omega)
    (try (first | (with_reducible refine dops_go ?_; simp [intsAV, a0, a1, a7, a8, w1]) | (with_reducible refine OKv_go ?_; simp [intsAV, a0, a1, a7, a8, w1]) | (with_reducible refine OKr_go ?_; simp [intsAV, a0, a1, a7, a8, w1]))); repeat' (first | refine awp_seq ?_ | refine awp_block ?_ | (refine awp_skip ?_; try simp) | (refine awp_exit ?_; try simp) | (refine awp_ret ?_; try simp) | (refine retP_same (by simp) ?_; simp) | (refine retP_flat (by simp) (by simp) (by simp (maxDischargeDepth := 30) [intsAV, a0, a1, a7, a8, w1]) ?_; simp) | (refine awp_reg ?_; simp [intsAV, a0, a1, a7, a8, w1]) | (refine awp_drawT (fun _ => false) mixed (by decide +kernel) ?_; simp [intsAV, a0, a1, a7, a8, w1]) | (refine guarded_split ?_ ?_ <;> (intro hg; simp only [hg]; simp [intsAV, a0, a1, a7, a8, w1])) | (apply awp_cond_t; focus (simp [intsAV, a0, a1, a7, a8, w1]; done)) | (apply awp_cond_f; focus (simp [intsAV, a0, a1, a7, a8, w1]; done)) | (refine awp_cond ?_; simp [intsAV, a0, a1, a7, a8, w1]; refine ⟨?_, ?_⟩ <;> intro hc))
    exact (idxOf_none hn).1.symm
theorem intContains_calls {g : FuncId} {caps : List AV} {p : Int → Bool} (z : List Int) (fz : Bool) (hl : z.length < 2 ^ 60) (hg : ∀ r ∈ z, PCalls Try.prog g (iAV r :: caps) (.raw (.bool (p r)))) :
    PCalls Try.prog 64 [intsAV z fz, .fn (.func g) [] caps] (.raw (.bool (z.any p))) := by
  refine pbody Try.func64 rfl (N := 9) rfl rfl (by simp) (by simp [noIds]) fun σ => ?_
  (try (first | (with_reducible refine dops_go ?_; simp) | (with_reducible refine OKv_go ?_; simp) | (with_reducible refine OKr_go ?_; simp))); repeat' (first | refine awp_seq ?_ | refine awp_block ?_ | (refine awp_skip ?_; try simp) | (refine awp_exit ?_; try simp) | (refine awp_ret ?_; try simp) | (refine retP_same (by simp) ?_; simp) | (refine retP_flat (by simp) (by simp) (by simp (maxDischargeDepth := 30)) ?_; simp) | (refine awp_reg ?_; simp) | (refine awp_drawT (fun _ => false) mixed (by decide +kernel) ?_; simp) | (refine guarded_split ?_ ?_ <;> (intro hg; simp only [hg]; simp)) | (apply awp_cond_t; focus (simp; done)) | (apply awp_cond_f; focus (simp; done)) | (refine awp_cond ?_; simp; refine ⟨?_, ?_⟩ <;> intro hc))
  refine PCalls.use (intIndex_calls z fz hl hg) ?_
  have := idxOf_any p z
  (try (first | (with_reducible refine dops_go ?_; simp) | (with_reducible refine OKv_go ?_; simp) | (with_reducible refine OKr_go ?_; simp))); repeat' (first | refine awp_seq ?_ | refine awp_block ?_ | (refine awp_skip ?_; try simp) | (refine awp_exit ?_; try simp) | (refine awp_ret ?_; try simp) | (refine retP_same (by simp) ?_; simp) | (refine retP_flat (by simp) (by simp) (by simp (maxDischargeDepth := 30)) ?_; simp) | (refine awp_reg ?_; simp) | (refine awp_drawT (fun _ => false) mixed (by decide +kernel) ?_; simp) | (refine guarded_split ?_ ?_ <;> (intro hg; simp only [hg]; simp)) | (apply awp_cond_t; focus (simp; done)) | (apply awp_cond_f; focus (simp; done)) | (refine awp_cond ?_; simp; refine ⟨?_, ?_⟩ <;> intro hc))
  simpa using this
end Go.Proofs.Ytanimmdlgmkmkaa.Av

/- Networks: lists that are alike. -/
namespace Go.Proofs.Ytanimmdlgmkmkaa.Av
open Go
set_option linter.unusedSimpArgs false
set_option linter.unusedVariables false
set_option maxRecDepth 100000
set_option maxHeartbeats 2000000
set_option pp.maxSteps 300

theorem take_eq {T : Type} [DecidableEq T] {x y : List T} {i : Nat} (h : x.take i = y.take i) {a : T} (hx : x[i]? = some a) (hy : y[i]? = some a) : x.take (i + 1) = y.take (i + 1) := by
  rw [List.take_add_one, List.take_add_one, h, hx, hy]

theorem intEqual_calls (x y : List Int) (fx fy : Bool) (hl : x.length < 2 ^ 60) (hl2 : y.length < 2 ^ 60) : PCalls Try.prog 66 [intsAV x fx, intsAV y fy] (.raw (.bool (decide (x = y)))) := by
  refine pbody Try.func66 rfl (N := 26) rfl rfl (by simp) (by simp [noIds]) fun σ => ?_
  by_cases hlen : x.length = y.length
  · have hli : (x.length : Int) = (y.length : Int) := by omega
    (try (first | (with_reducible refine dops_go ?_; simp [intsAV, hlen, hli]) | (with_reducible refine OKv_go ?_; simp [intsAV, hlen, hli]) | (with_reducible refine OKr_go ?_; simp [intsAV, hlen, hli]))); repeat' (first | refine awp_seq ?_ | refine awp_block ?_ | (refine awp_skip ?_; try simp) | (refine awp_exit ?_; try simp) | (refine awp_ret ?_; try simp) | (refine retP_same (by simp) ?_; simp) | (refine retP_flat (by simp) (by simp) (by simp (maxDischargeDepth := 30) [intsAV, hlen, hli]) ?_; simp) | (refine awp_reg ?_; simp [intsAV, hlen, hli]) | (refine awp_drawT (fun _ => false) mixed (by decide +kernel) ?_; simp [intsAV, hlen, hli]) | (refine guarded_split ?_ ?_ <;> (intro hg; simp only [hg]; simp [intsAV, hlen, hli])) | (apply awp_cond_t; focus (simp [intsAV, hlen, hli]; done)) | (apply awp_cond_f; focus (simp [intsAV, hlen, hli]; done)) | (refine awp_cond ?_; simp [intsAV, hlen, hli]; refine ⟨?_, ?_⟩ <;> intro hc))
    refine awp_loopH (fun n A τ => τ = σ ∧ A 0 = intsAV x fx ∧ A 1 = intsAV y fy ∧ A 12 = .raw (.int .i64 y.length) ∧ ∃ i : Nat, A 13 = .raw (.int .i64 i) ∧ i ≤ y.length ∧ n = y.length - i ∧ x.take i = y.take i) y.length ?_ ?_
    · exact ⟨rfl, by simp [intsAV], by simp [intsAV], by simp [intsAV], 0, by simp, by omega, by omega, by simp⟩
    rintro n A τ ⟨rfl, a0, a1, a12, i, a13, hi, rfl, htk⟩ I1 hI1
    by_cases hlt : i < y.length
    · have hlx : i < x.length := by omega
      have hx : x[i]? = some x[i] := List.getElem?_eq_getElem hlx
      have hy : y[i]? = some y[i] := List.getElem?_eq_getElem hlt
      have w1 : IntKind.i64.wrap ((i : Int) + 1) = ((i + 1 : Nat) : Int) := by rw [wrap64 (by omega) (by omega)]; omega
      by_cases he : x[i] = y[i]
      · skip
        (try (first | (with_reducible refine dops_go ?_; simp [intsAV, iAV, a0, a1, a12, a13, hlt, hlx, hx, hy, i_cells, he, w1]) | (with_reducible refine OKv_go ?_; simp [intsAV, iAV, a0, a1, a12, a13, hlt, hlx, hx, hy, i_cells, he, w1]) | (with_reducible refine OKr_go ?_; simp [intsAV, iAV, a0, a1, a12, a13, hlt, hlx, hx, hy, i_cells, he, w1]))); repeat' (first | refine awp_seq ?_ | refine awp_block ?_ | (refine awp_skip ?_; try simp) | (refine awp_exit ?_; try simp) | (refine awp_ret ?_; try simp) | (refine retP_same (by simp) ?_; simp) | (refine retP_flat (by simp) (by simp) (by simp (maxDischargeDepth := 30) [intsAV, iAV, a0, a1, a12, a13, hlt, hlx, hx, hy, i_cells, he, w1]) ?_; simp) | (refine awp_reg ?_; simp [intsAV, iAV, a0, a1, a12, a13, hlt, hlx, hx, hy, i_cells, he, w1]) | (refine awp_drawT (fun _ => false) mixed (by decide +kernel) ?_; simp [intsAV, iAV, a0, a1, a12, a13, hlt, hlx, hx, hy, i_cells, he, w1]) | (refine guarded_split ?_ ?_ <;> (intro hg; simp only [hg]; simp [intsAV, iAV, a0, a1, a12, a13, hlt, hlx, hx, hy, i_cells, he, w1])) | (apply awp_cond_t; focus (simp [intsAV, iAV, a0, a1, a12, a13, hlt, hlx, hx, hy, i_cells, he, w1]; done)) | (apply awp_cond_f; focus (simp [intsAV, iAV, a0, a1, a12, a13, hlt, hlx, hx, hy, i_cells, he, w1]; done)) | (refine awp_cond ?_; simp [intsAV, iAV, a0, a1, a12, a13, hlt, hlx, hx, hy, i_cells, he, w1]; refine ⟨?_, ?_⟩ <;> intro hc))
        all_goals exact hI1 (y.length - (i + 1)) _ _ (by omega) ⟨rfl, by simp [a0, intsAV, iAV], by simp [a1, intsAV, iAV], by simp [a12], i + 1, by simp [w1], by omega, rfl, take_eq htk hx (by rw [hy, he])⟩
      · skip
        (try (first | (with_reducible refine dops_go ?_; simp [intsAV, iAV, a0, a1, a12, a13, hlt, hlx, hx, hy, i_cells, he, w1]) | (with_reducible refine OKv_go ?_; simp [intsAV, iAV, a0, a1, a12, a13, hlt, hlx, hx, hy, i_cells, he, w1]) | (with_reducible refine OKr_go ?_; simp [intsAV, iAV, a0, a1, a12, a13, hlt, hlx, hx, hy, i_cells, he, w1]))); repeat' (first | refine awp_seq ?_ | refine awp_block ?_ | (refine awp_skip ?_; try simp) | (refine awp_exit ?_; try simp) | (refine awp_ret ?_; try simp) | (refine retP_same (by simp) ?_; simp) | (refine retP_flat (by simp) (by simp) (by simp (maxDischargeDepth := 30) [intsAV, iAV, a0, a1, a12, a13, hlt, hlx, hx, hy, i_cells, he, w1]) ?_; simp) | (refine awp_reg ?_; simp [intsAV, iAV, a0, a1, a12, a13, hlt, hlx, hx, hy, i_cells, he, w1]) | (refine awp_drawT (fun _ => false) mixed (by decide +kernel) ?_; simp [intsAV, iAV, a0, a1, a12, a13, hlt, hlx, hx, hy, i_cells, he, w1]) | (refine guarded_split ?_ ?_ <;> (intro hg; simp only [hg]; simp [intsAV, iAV, a0, a1, a12, a13, hlt, hlx, hx, hy, i_cells, he, w1])) | (apply awp_cond_t; focus (simp [intsAV, iAV, a0, a1, a12, a13, hlt, hlx, hx, hy, i_cells, he, w1]; done)) | (apply awp_cond_f; focus (simp [intsAV, iAV, a0, a1, a12, a13, hlt, hlx, hx, hy, i_cells, he, w1]; done)) | (refine awp_cond ?_; simp [intsAV, iAV, a0, a1, a12, a13, hlt, hlx, hx, hy, i_cells, he, w1]; refine ⟨?_, ?_⟩ <;> intro hc))
        all_goals (rintro rfl; exact he rfl)
    · have : i = y.length := by omega
      subst this
      have hxy : x = y := by
        rw [List.take_length, ← hlen, List.take_length] at htk; exact htk
      (try (first | (with_reducible refine dops_go ?_; simp [intsAV, a0, a1, a12, a13]) | (with_reducible refine OKv_go ?_; simp [intsAV, a0, a1, a12, a13]) | (with_reducible refine OKr_go ?_; simp [intsAV, a0, a1, a12, a13]))); repeat' (first | refine awp_seq ?_ | refine awp_block ?_ | (refine awp_skip ?_; try simp) | (refine awp_exit ?_; try simp) | (refine awp_ret ?_; try simp) | (refine retP_same (by simp) ?_; simp) | (refine retP_flat (by simp) (by simp) (by simp (maxDischargeDepth := 30) [intsAV, a0, a1, a12, a13]) ?_; simp) | (refine awp_reg ?_; simp [intsAV, a0, a1, a12, a13]) | (refine awp_drawT (fun _ => false) mixed (by decide +kernel) ?_; simp [intsAV, a0, a1, a12, a13]) | (refine guarded_split ?_ ?_ <;> (intro hg; simp only [hg]; simp [intsAV, a0, a1, a12, a13])) | (apply awp_cond_t; focus (simp [intsAV, a0, a1, a12, a13]; done)) | (apply awp_cond_f; focus (simp [intsAV, a0, a1, a12, a13]; done)) | (refine awp_cond ?_; simp [intsAV, a0, a1, a12, a13]; refine ⟨?_, ?_⟩ <;> intro hc))
      all_goals first | exact hxy | simp [hxy]
  · have hli : ¬ ((x.length : Int) = (y.length : Int)) := by omega
    (try (first | (with_reducible refine dops_go ?_; simp [intsAV, hlen, hli]) | (with_reducible refine OKv_go ?_; simp [intsAV, hlen, hli]) | (with_reducible refine OKr_go ?_; simp [intsAV, hlen, hli]))); repeat' (first | refine awp_seq ?_ | refine awp_block ?_ | (refine awp_skip ?_; try simp) | (refine awp_exit ?_; try simp) | (refine awp_ret ?_; try simp) | (refine retP_same (by simp) ?_; simp) | (refine retP_flat (by simp) (by simp) (by simp (maxDischargeDepth := 30) [intsAV, hlen, hli]) ?_; simp) | (refine awp_reg ?_; simp [intsAV, hlen, hli]) | (refine awp_drawT (fun _ => false) mixed (by decide +kernel) ?_; simp [intsAV, hlen, hli]) | (refine guarded_split ?_ ?_ <;> (intro hg; simp only [hg]; simp [intsAV, hlen, hli])) | (apply awp_cond_t; focus (simp [intsAV, hlen, hli]; done)) | (apply awp_cond_f; focus (simp [intsAV, hlen, hli]; done)) | (refine awp_cond ?_; simp [intsAV, hlen, hli]; refine ⟨?_, ?_⟩ <;> intro hc))
    all_goals (rintro rfl; exact hlen rfl)
end Go.Proofs.Ytanimmdlgmkmkaa.Av

/- Networks: the ports that are joined. -/
namespace Go.Proofs.Ytanimmdlgmkmkaa.Av
open Go
set_option linter.unusedSimpArgs false
set_option linter.unusedVariables false
set_option maxRecDepth 100000
set_option maxHeartbeats 2000000
set_option pp.maxSteps 300

def ptV (p : Pt) : Value := .agg #[.int .i64 p.dev, .int .i64 p.port]
def enc (m : List (Pt × Pt)) : List (Value × AV) := m.map fun e => (ptV e.1, ptAV e.2)
def upd (m : List (Pt × Pt)) (k v : Pt) : List (Pt × Pt) := m.filter (fun e => decide (k ≠ e.1)) ++ [(k, v)]
theorem key_eq (k q : Pt) : structEq Try.prog 4 41 (ptAV k) (constAV (ptV q)) = some (decide (k = q)) := by
  have : decide (k = q) = (decide (k.dev = q.dev) && decide (k.port = q.port)) := by
    cases k; cases q; simp
  rw [this]
  simp [structEq, ptAV, ptV, fieldsEq, rowLoad, cellEq, constCell]
theorem split_pt (k : Pt) : ∀ m : List (Pt × Pt), splitM Try.prog 41 (ptAV k) (enc m) = some (enc (m.filter fun e => decide (k = e.1)), enc (m.filter fun e => decide (k ≠ e.1)))
  | [] => rfl
  | e :: m => by
    have ih := split_pt k m
    simp only [enc, List.map_cons] at ih ⊢
    simp only [splitM, key_eq]
    by_cases h : k = e.1
    · simp [h] at ih ⊢; rw [ih]
    · simp [h] at ih ⊢; rw [ih]
def keysN (m : List (Pt × Pt)) : Prop := (m.map (·.1)).Nodup
theorem one_key {m : List (Pt × Pt)} (h : keysN m) (k : Pt) : (m.filter fun e => decide (k = e.1)) = [] ∨ ∃ v, (m.filter fun e => decide (k = e.1)) = [(k, v)] := by
  induction m with
  | nil => exact .inl rfl
  | cons e m ih =>
    have h' := List.nodup_cons.1 (show (e.1 :: m.map (·.1)).Nodup from h)
    by_cases hk : k = e.1
    · right
      refine ⟨e.2, ?_⟩
      have : (m.filter fun e => decide (k = e.1)) = [] := by
        rw [List.filter_eq_nil_iff]
        intro x hx hkx
        simp only [decide_eq_true_eq] at hkx
        exact h'.1 (by rw [← hk, hkx]; exact List.mem_map.2 ⟨x, hx, rfl⟩)
      rw [List.filter_cons_of_pos (by simp [hk]), this, hk]
    · rw [List.filter_cons_of_neg (by simpa using hk)]
      exact ih h'.2
theorem keys_upd {m : List (Pt × Pt)} (h : keysN m) (k v : Pt) : keysN (upd m k v) := by
  unfold keysN upd at *
  rw [List.map_append, List.nodup_append]
  refine ⟨h.sublist (List.Sublist.map _ List.filter_sublist), by simp, fun a ha b hb e => ?_⟩
  simp only [List.map_cons, List.map_nil, List.mem_singleton] at hb
  subst hb; subst e
  obtain ⟨x, hx, rfl⟩ := List.mem_map.1 ha
  simpa using (List.mem_filter.1 hx).2
theorem bits_pt (k : Pt) : Instr.sameBits 10000 (ptV k) (ptV k) = true := by
  have : (10000 : Nat) = 9999 + 1 := rfl
  rw [this]
  simp [ptV, Instr.sameBits]
theorem check_pt (k : Pt) : checkA Try.prog 41 (ptAV k) = true := by simp [checkA, ptAV, rowLoad]
theorem opUpd {m : Mem} {i : Id} {L : List (Pt × Pt)} (hm : m i = some (.map (enc L))) (hk : keysN L) (k v : Pt) : opMapUpdate Try.prog m 167 (.mp i) (ptAV k) (ptAV v) = some (.wrm i (enc (upd L k v))) := by
  have hkv : keyVal (ptAV k) = some (ptV k) := rfl
  unfold opMapUpdate
  simp only [mty167, hkv, hm, check_pt, wid41, and_self, if_true, split_pt]
  rcases one_key hk k with h | ⟨w, h⟩
  · rw [h]
    simp [enc, upd]
  · rw [h]
    simp [enc, upd, bits_pt]
theorem opLook {m : Mem} {i : Id} {L : List (Pt × Pt)} (hm : m i = some (.map (enc L))) (hk : keysN L) (k : Pt) :
    opLookup Try.prog m 167 (.mp i) (ptAV k) true = some (match L.find? (fun e => decide (k = e.1)) with | some e => .tup [ptAV e.2, .raw (.bool true)] | none => .tup [ptAV ⟨0, 0⟩, .raw (.bool false)]) := by
  unfold opLookup
  simp only [mty167, hm, check_pt, wid41, and_self, if_true, split_pt]
  have hf : L.find? (fun e => decide (k = e.1)) = (L.filter fun e => decide (k = e.1)).head? := by simp
  rw [hf]
  rcases one_key hk k with h | ⟨w, h⟩
  · rw [h]; simp [enc, ptAV, constCell]
  · rw [h]; simp [enc]

def joinM (L : List Lk) : List (Pt × Pt) := L.foldl (fun m l => upd (upd m l.a l.b) l.b l.a) []
theorem joinM_keys (L : List Lk) : keysN (joinM L) := by
  have : ∀ (L : List Lk) m, keysN m → keysN (L.foldl (fun m l => upd (upd m l.a l.b) l.b l.a) m) := by
    intro L
    induction L with
    | nil => exact fun m h => h
    | cons l L ih => exact fun m h => ih _ (keys_upd (keys_upd h _ _) _ _)
  exact this L [] (by simp [keysN])
theorem joinM_step {L : List Lk} {k : Nat} {l : Lk} (h : L[k]? = some l) : joinM (L.take (k + 1)) = upd (upd (joinM (L.take k)) l.a l.b) l.b l.a := by
  rw [List.take_add_one, h]
  simp [joinM, List.foldl_append]
theorem upd_turn (m : List (Pt × Pt)) (a b : Pt) : (upd (upd m b a) a b).Perm (upd (upd m a b) b a) := by
  by_cases h : a = b
  · subst h; exact List.Perm.refl _
  · unfold upd
    have h' : b ≠ a := fun e => h e.symm
    have e1 : ([(b, a)] : List (Pt × Pt)).filter (fun e => decide (a ≠ e.1)) = [(b, a)] := by simp [h]
    have e2 : ([(a, b)] : List (Pt × Pt)).filter (fun e => decide (b ≠ e.1)) = [(a, b)] := by simp [h']
    rw [List.filter_append, List.filter_append, e1, e2, List.filter_filter, List.filter_filter]
    have e3 : (m.filter fun e => decide (a ≠ e.1) && decide (b ≠ e.1)) = m.filter fun e => decide (b ≠ e.1) && decide (a ≠ e.1) := by
      congr 1; funext e; rw [Bool.and_comm]
    rw [e3, List.append_assoc, List.append_assoc]
    exact List.Perm.append_left _ (List.Perm.swap _ _ _)
theorem plain_enc (m : List (Pt × Pt)) : plainL ((enc m).map (·.2)) = true := by
  induction m with
  | nil => rfl
  | cons e m ih => simp only [enc, List.map_cons, plainL] at ih ⊢; rw [ih]; rfl
theorem lk_cells' (l : Lk) : (lkAV l).cells = [.raw (.int .i64 l.a.dev), .raw (.int .i64 l.a.port), .raw (.int .i64 l.b.dev), .raw (.int .i64 l.b.port)] := rfl
theorem pt_fold (d p : Int) : AV.agg [.raw (.int .i64 d), .raw (.int .i64 p)] = ptAV ⟨d, p⟩ := rfl

theorem joined_calls (t : Tp) (f : Fl) (hl : t.links.length < 2 ^ 40) : MCalls Try.prog 111 [tpAV t f] 0 (.map (enc (joinM t.links))) .mp := by
  refine mcalls_map (plain_enc _) fun σ => ?_
  refine abody Try.func111 rfl (N := 26) rfl rfl (by simp) ?_
  (try (first | (with_reducible refine dops_go ?_; simp [tpAV, linksAV, intsAV]) | (with_reducible refine OKv_go ?_; simp [tpAV, linksAV, intsAV]) | (with_reducible refine OKr_go ?_; simp [tpAV, linksAV, intsAV]))); repeat' (first | refine awp_seq ?_ | refine awp_block ?_ | (refine awp_skip ?_; try simp) | (refine awp_exit ?_; try simp) | (refine awp_ret ?_; try simp) | (refine retP_same (by simp) ?_; simp) | (refine retP_flat (by simp) (by simp) (by simp (maxDischargeDepth := 30) [tpAV, linksAV, intsAV]) ?_; simp) | (refine awp_reg ?_; simp [tpAV, linksAV, intsAV]) | (refine awp_drawT (fun _ => false) mixed (by decide +kernel) ?_; simp [tpAV, linksAV, intsAV]) | (refine guarded_split ?_ ?_ <;> (intro hg; simp only [hg]; simp [tpAV, linksAV, intsAV])) | (apply awp_cond_t; focus (simp [tpAV, linksAV, intsAV]; done)) | (apply awp_cond_f; focus (simp [tpAV, linksAV, intsAV]; done)) | (refine awp_cond ?_; simp [tpAV, linksAV, intsAV]; refine ⟨?_, ?_⟩ <;> intro hc))
  refine awp_loopH (fun n A τ => Ext σ τ ∧ A 3 = .mp ⟨6, σ.nx 6, 0⟩ ∧ A 8 = linksAV t.links f.l ∧ A 9 = .raw (.int .i64 t.links.length) ∧ ∃ k : Nat, A 10 = .raw (.int .i64 k) ∧ k ≤ t.links.length ∧ τ.m ⟨6, σ.nx 6, 0⟩ = some (.map (enc (joinM (t.links.take k)))) ∧ n = t.links.length - k) t.links.length ?_ ?_
  · exact ⟨by simp (maxDischargeDepth := 30), by simp [St.new], by simp [linksAV], by simp, 0, by simp, by omega, by simp [St.new, joinM, enc], by omega⟩
  rintro n A τ ⟨hE, a3, a8, a9, k, a10, hk, hm, rfl⟩ I1 hI1
  have f6 : σ.m ⟨6, σ.nx 6, 0⟩ = none := fresh_none _ _ _
  by_cases hlt : k < t.links.length
  · have hx : t.links[k]? = some t.links[k] := List.getElem?_eq_getElem hlt
    have w1 : IntKind.i64.wrap ((k : Int) + 1) = ((k + 1 : Nat) : Int) := by rw [wrap64 (by omega) (by omega)]; omega
    have hj := joinM_step hx
    have fa : AV.agg [.raw (.int .i64 t.links[k].a.dev), .raw (.int .i64 t.links[k].a.port)] = ptAV t.links[k].a := rfl
    have fb : AV.agg [.raw (.int .i64 t.links[k].b.dev), .raw (.int .i64 t.links[k].b.port)] = ptAV t.links[k].b := rfl
    have hu1 : ∀ m : Mem, m ⟨6, σ.nx 6, 0⟩ = some (.map (enc (joinM (t.links.take k)))) → opMapUpdate Try.prog m 167 (.mp ⟨6, σ.nx 6, 0⟩) (ptAV t.links[k].a) (ptAV t.links[k].b) = some (.wrm ⟨6, σ.nx 6, 0⟩ (enc (upd (joinM (t.links.take k)) t.links[k].a t.links[k].b))) := fun m h => opUpd h (joinM_keys _) _ _
    have hu2 : ∀ m : Mem, m ⟨6, σ.nx 6, 0⟩ = some (.map (enc (upd (joinM (t.links.take k)) t.links[k].a t.links[k].b))) → opMapUpdate Try.prog m 167 (.mp ⟨6, σ.nx 6, 0⟩) (ptAV t.links[k].b) (ptAV t.links[k].a) = some (.wrm ⟨6, σ.nx 6, 0⟩ (enc (joinM (t.links.take (k + 1))))) := fun m h => by
      rw [hj]; exact opUpd h (keys_upd (joinM_keys _) _ _) _ _
    clear hj
    (try (first | (with_reducible refine dops_go ?_; simp [a3, a8, a9, a10, hlt, hx, hm, linksAV, lk_cells', fa, fb, hu1, hu2, w1]) | (with_reducible refine OKv_go ?_; simp [a3, a8, a9, a10, hlt, hx, hm, linksAV, lk_cells', fa, fb, hu1, hu2, w1]) | (with_reducible refine OKr_go ?_; simp [a3, a8, a9, a10, hlt, hx, hm, linksAV, lk_cells', fa, fb, hu1, hu2, w1]))); repeat' (first | refine awp_seq ?_ | refine awp_block ?_ | (refine awp_skip ?_; try simp) | (refine awp_exit ?_; try simp) | (refine awp_ret ?_; try simp) | (refine retP_same (by simp) ?_; simp) | (refine retP_flat (by simp) (by simp) (by simp (maxDischargeDepth := 30) [a3, a8, a9, a10, hlt, hx, hm, linksAV, lk_cells', fa, fb, hu1, hu2, w1]) ?_; simp) | (refine awp_reg ?_; simp [a3, a8, a9, a10, hlt, hx, hm, linksAV, lk_cells', fa, fb, hu1, hu2, w1]) | (refine awp_drawT (fun _ => false) mixed (by decide +kernel) ?_; simp [a3, a8, a9, a10, hlt, hx, hm, linksAV, lk_cells', fa, fb, hu1, hu2, w1]) | (refine guarded_split ?_ ?_ <;> (intro hg; simp only [hg]; simp [a3, a8, a9, a10, hlt, hx, hm, linksAV, lk_cells', fa, fb, hu1, hu2, w1])) | (apply awp_cond_t; focus (simp [a3, a8, a9, a10, hlt, hx, hm, linksAV, lk_cells', fa, fb, hu1, hu2, w1]; done)) | (apply awp_cond_f; focus (simp [a3, a8, a9, a10, hlt, hx, hm, linksAV, lk_cells', fa, fb, hu1, hu2, w1]; done)) | (refine awp_cond ?_; simp [a3, a8, a9, a10, hlt, hx, hm, linksAV, lk_cells', fa, fb, hu1, hu2, w1]; refine ⟨?_, ?_⟩ <;> intro hc))
    exact hI1 (t.links.length - (k + 1)) _ _ (by omega) ⟨Ext.setF (Ext.setF (by simp [hE]) f6) f6, by simp [a3], by simp [a8, linksAV], by simp [a9], k + 1, by simp, by omega, by simp [St.set, St.new, hm], rfl⟩
  · have : k = t.links.length := by omega
    subst this
    rw [List.take_length] at hm
    (try (first | (with_reducible refine dops_go ?_; simp [a3, a8, a9, a10]) | (with_reducible refine OKv_go ?_; simp [a3, a8, a9, a10]) | (with_reducible refine OKr_go ?_; simp [a3, a8, a9, a10]))); repeat' (first | refine awp_seq ?_ | refine awp_block ?_ | (refine awp_skip ?_; try simp) | (refine awp_exit ?_; try simp) | (refine awp_ret ?_; try simp) | (refine awp_reg ?_; simp [a3, a8, a9, a10]) | (refine awp_drawT (fun _ => false) mixed (by decide +kernel) ?_; simp [a3, a8, a9, a10]) | (refine guarded_split ?_ ?_ <;> (intro hg; simp only [hg]; simp [a3, a8, a9, a10])) | (apply awp_cond_t; focus (simp [a3, a8, a9, a10]; done)) | (apply awp_cond_f; focus (simp [a3, a8, a9, a10]; done)) | (refine awp_cond ?_; simp [a3, a8, a9, a10]; refine ⟨?_, ?_⟩ <;> intro hc))
    exact retK_of (.inr rfl) (by simp) ⟨_, rfl, hm, f6, hE⟩

/-- The port to which a port is joined, as the program says it. -/
def nextM (t : Tp) (p : Pt) : Option Pt := ((joinM t.links).find? fun e => decide (p = e.1)).map (·.2)
theorem next_calls (t : Tp) (f : Fl) (p : Pt) (hl : t.links.length < 2 ^ 40) :
    PCalls Try.prog 71 [tpAV t f, ptAV p] (.tup [ptAV ((nextM t p).getD ⟨0, 0⟩), .raw (.bool (nextM t p).isSome)]) := by
  have hj := joined_calls t f hl
  refine pbody Try.func71 rfl (N := 17) rfl rfl (by simp) (by simp [noIds, ptAV]) fun σ => ?_
  have hpc : ∀ q : Pt, (ptAV q).cells = [.raw (.int .i64 q.dev), .raw (.int .i64 q.port)] := fun q => rfl
  have htc : (tpAV t f).cells = [intsAV t.ports f.p, linksAV t.links f.l] := rfl
  have hfo : ∀ q : Pt, AV.agg [.raw (.int .i64 q.dev), .raw (.int .i64 q.port)] = ptAV q := fun q => rfl
  have hft : AV.agg [intsAV t.ports f.p, linksAV t.links f.l] = tpAV t f := rfl
  have ho1 : cellOK (intsAV t.ports f.p) = true := rfl
  have ho2 : cellOK (linksAV t.links f.l) = true := rfl
  simp only [cellOK] at ho1 ho2
  have hlk : ∀ m : Mem, ∀ i, m i = some (.map (enc (joinM t.links))) → opLookup Try.prog m 167 (.mp i) (ptAV p) true = some (.tup [ptAV ((nextM t p).getD ⟨0, 0⟩), .raw (.bool (nextM t p).isSome)]) := fun m i h => by
    rw [opLook h (joinM_keys _)]
    unfold nextM
    cases (joinM t.links).find? fun e => decide (p = e.1) <;> rfl
  obtain ⟨q, hq⟩ : ∃ q, (nextM t p).getD ⟨0, 0⟩ = q := ⟨_, rfl⟩
  obtain ⟨b, hb⟩ : ∃ b, (nextM t p).isSome = b := ⟨_, rfl⟩
  rw [hq, hb] at hlk ⊢
  (try (first | (with_reducible refine dops_go ?_; simp [hpc, htc, hfo, hft, ho1, ho2]) | (with_reducible refine OKv_go ?_; simp [hpc, htc, hfo, hft, ho1, ho2]) | (with_reducible refine OKr_go ?_; simp [hpc, htc, hfo, hft, ho1, ho2]))); repeat' (first | refine awp_seq ?_ | refine awp_block ?_ | (refine awp_skip ?_; try simp) | (refine awp_exit ?_; try simp) | (refine awp_ret ?_; try simp) | (refine retP_same (by simp) ?_; simp) | (refine retP_flat (by simp) (by simp) (by simp (maxDischargeDepth := 30) [hpc, htc, hfo, hft, ho1, ho2]) ?_; simp) | (refine awp_reg ?_; simp [hpc, htc, hfo, hft, ho1, ho2]) | (refine awp_drawT (fun _ => false) mixed (by decide +kernel) ?_; simp [hpc, htc, hfo, hft, ho1, ho2]) | (refine guarded_split ?_ ?_ <;> (intro hg; simp only [hg]; simp [hpc, htc, hfo, hft, ho1, ho2])) | (apply awp_cond_t; focus (simp [hpc, htc, hfo, hft, ho1, ho2]; done)) | (apply awp_cond_f; focus (simp [hpc, htc, hfo, hft, ho1, ho2]; done)) | (refine awp_cond ?_; simp [hpc, htc, hfo, hft, ho1, ho2]; refine ⟨?_, ?_⟩ <;> intro hc))
  refine awp_drawT (fun o => o.dst == some 10) mixed (by decide +kernel) ?_
  (try (first | (with_reducible refine dops_go ?_; simp [hpc, htc, hfo, hft, ho1, ho2]) | (with_reducible refine OKv_go ?_; simp [hpc, htc, hfo, hft, ho1, ho2]) | (with_reducible refine OKr_go ?_; simp [hpc, htc, hfo, hft, ho1, ho2]))); repeat' (first | refine awp_seq ?_ | refine awp_block ?_ | (refine awp_skip ?_; try simp) | (refine awp_exit ?_; try simp) | (refine awp_ret ?_; try simp) | (refine retP_same (by simp) ?_; simp) | (refine retP_flat (by simp) (by simp) (by simp (maxDischargeDepth := 30) [hpc, htc, hfo, hft, ho1, ho2]) ?_; simp) | (refine awp_reg ?_; simp [hpc, htc, hfo, hft, ho1, ho2]) | (refine awp_drawT (fun _ => false) mixed (by decide +kernel) ?_; simp [hpc, htc, hfo, hft, ho1, ho2]) | (refine guarded_split ?_ ?_ <;> (intro hg; simp only [hg]; simp [hpc, htc, hfo, hft, ho1, ho2])) | (apply awp_cond_t; focus (simp [hpc, htc, hfo, hft, ho1, ho2]; done)) | (apply awp_cond_f; focus (simp [hpc, htc, hfo, hft, ho1, ho2]; done)) | (refine awp_cond ?_; simp [hpc, htc, hfo, hft, ho1, ho2]; refine ⟨?_, ?_⟩ <;> intro hc))
  refine .inr ⟨_, _, _, hj, ?_⟩
  have hpp : ∀ q : Pt, setPart (AV.agg [.raw (.int .i64 0), .raw (.int .i64 0)]) 0 [.raw (.int .i64 q.dev), .raw (.int .i64 q.port)] = ptAV q := fun q => rfl
  have hpq : ∀ q : Pt, setPart (ptAV ⟨0, 0⟩) 0 [.raw (.int .i64 q.dev), .raw (.int .i64 q.port)] = ptAV q := fun q => rfl
  (try (first | (with_reducible refine dops_go ?_; simp [hpc, htc, hfo, hft, ho1, ho2, hlk, hpp, hpq]) | (with_reducible refine OKv_go ?_; simp [hpc, htc, hfo, hft, ho1, ho2, hlk, hpp, hpq]) | (with_reducible refine OKr_go ?_; simp [hpc, htc, hfo, hft, ho1, ho2, hlk, hpp, hpq]))); repeat' (first | refine awp_seq ?_ | refine awp_block ?_ | (refine awp_skip ?_; try simp) | (refine awp_exit ?_; try simp) | (refine awp_ret ?_; try simp) | (refine awp_reg ?_; simp [hpc, htc, hfo, hft, ho1, ho2, hlk, hpp, hpq]) | (refine awp_drawT (fun _ => false) mixed (by decide +kernel) ?_; simp [hpc, htc, hfo, hft, ho1, ho2, hlk, hpp, hpq]) | (refine guarded_split ?_ ?_ <;> (intro hg; simp only [hg]; simp [hpc, htc, hfo, hft, ho1, ho2, hlk, hpp, hpq])) | (apply awp_cond_t; focus (simp [hpc, htc, hfo, hft, ho1, ho2, hlk, hpp, hpq]; done)) | (apply awp_cond_f; focus (simp [hpc, htc, hfo, hft, ho1, ho2, hlk, hpp, hpq]; done)) | (refine awp_cond ?_; simp [hpc, htc, hfo, hft, ho1, ho2, hlk, hpp, hpq]; refine ⟨?_, ?_⟩ <;> intro hc))
  refine retP_flat (.inr rfl) rfl (Ext.setF (by simp (maxDischargeDepth := 30)) ?_) ?_
  · have := fresh_none σ 4 2
    simpa [St.new] using this
  · simp [St.set, St.new, hfo, hpc]
end Go.Proofs.Ytanimmdlgmkmkaa.Av

/- Networks: right topologies; rules that fit. -/
namespace Go.Proofs.Ytanimmdlgmkmkaa.Av
open Go
set_option linter.unusedSimpArgs false
set_option linter.unusedVariables false
set_option maxRecDepth 100000
set_option maxHeartbeats 2000000
set_option pp.maxSteps 300

theorem portBad_calls (n : Int) : PCalls Try.prog 114 [.raw (.int .i64 n)] (.raw (.bool (decide (n < 1) || decide (4 < n)))) := by
  refine pbody Try.func114 rfl (N := 9) rfl rfl (by simp) (by simp [noIds]) fun σ => ?_
  obtain ⟨b1, h1⟩ : ∃ b, decide (n < 1) = b := ⟨_, rfl⟩
  obtain ⟨b2, h2⟩ : ∃ b, decide (4 < n) = b := ⟨_, rfl⟩
  rw [h1, h2]
  (try (first | (with_reducible refine dops_go ?_; simp [h1, h2]) | (with_reducible refine OKv_go ?_; simp [h1, h2]) | (with_reducible refine OKr_go ?_; simp [h1, h2]))); repeat' (first | refine awp_seq ?_ | refine awp_block ?_ | (refine awp_skip ?_; try simp) | (refine awp_exit ?_; try simp) | (refine awp_ret ?_; try simp) | (refine retP_same (by simp) ?_; simp) | (refine retP_flat (by simp) (by simp) (by simp (maxDischargeDepth := 30) [h1, h2]) ?_; simp) | (refine awp_reg ?_; simp [h1, h2]) | (refine awp_drawT (fun _ => false) mixed (by decide +kernel) ?_; simp [h1, h2]) | (refine guarded_split ?_ ?_ <;> (intro hg; simp only [hg]; simp [h1, h2])) | (apply awp_cond_t; focus (simp [h1, h2]; done)) | (apply awp_cond_f; focus (simp [h1, h2]; done)) | (refine awp_cond ?_; simp [h1, h2]; refine ⟨?_, ?_⟩ <;> intro hc))
def linkBad (t : Tp) (l : Lk) : Bool := !hasB t l.a || (!hasB t l.b || decide (l.a = l.b))
theorem tp_cells (t : Tp) (f : Fl) : (tpAV t f).cells = [intsAV t.ports f.p, linksAV t.links f.l] := rfl
theorem tp_fold (t : Tp) (f : Fl) : AV.agg [intsAV t.ports f.p, linksAV t.links f.l] = tpAV t f := rfl
theorem ruPort_fold (r : Ru) : AV.agg [.raw (.int .i64 r.dev), .raw (.int .i64 r.port)] = ptAV ⟨r.dev, r.port⟩ := rfl
theorem linkBad_calls (t : Tp) (f : Fl) (l : Lk) (hl : t.ports.length < 2 ^ 60) : PCalls Try.prog 116 [lkAV l, .pp [intsAV t.ports f.p, linksAV t.links f.l] 0] (.raw (.bool (linkBad t l))) := by
  refine pbody Try.func116 rfl (N := 23) rfl rfl (by simp) (by simp [noIds]) fun σ => ?_
  have fa : AV.agg [.raw (.int .i64 l.a.dev), .raw (.int .i64 l.a.port)] = ptAV l.a := rfl
  have fb : AV.agg [.raw (.int .i64 l.b.dev), .raw (.int .i64 l.b.port)] = ptAV l.b := rfl
  obtain ⟨b1, h1⟩ : ∃ b, hasB t l.a = b := ⟨_, rfl⟩
  obtain ⟨b2, h2⟩ : ∃ b, hasB t l.b = b := ⟨_, rfl⟩
  have hd : decide (l.a = l.b) = (decide (l.a.dev = l.b.dev) && decide (l.a.port = l.b.port)) := by
    rcases l with ⟨⟨a1, a2⟩, ⟨b1, b2⟩⟩; simp
  obtain ⟨b3, h3⟩ : ∃ b, decide (l.a = l.b) = b := ⟨_, rfl⟩
  have heq : structEq Try.prog 4 41 (ptAV l.a) (ptAV l.b) = some b3 := by
    have := key_eq l.a l.b
    rw [h3] at this
    exact this
  have hg : Try.prog.eqGuardType Try.prog.depth 41 = false := eqg41
  have hbin : opBin Try.prog .eql 41 (ptAV l.a) (ptAV l.b) = some (.raw (.bool b3)) := by
    have e1 : ∀ x y : Pt, opBin Try.prog .eql 41 (ptAV x) (ptAV y) = if Try.prog.eqGuardType Try.prog.depth 41 = false then (structEq Try.prog 4 41 (ptAV x) (ptAV y)).bind fun b => (nilBin .eql b).map .raw else none := fun x y => rfl
    rw [e1, if_pos hg, heq]
    rfl
  have c1 := h1 ▸ has_calls t f l.a hl
  have c2 := h2 ▸ has_calls t f l.b hl
  unfold linkBad
  rw [h1, h2, h3]
  (try (first | (with_reducible refine dops_go ?_; simp [lk_cells', fa, fb, tp_fold, -opBin, hbin]) | (with_reducible refine OKv_go ?_; simp [lk_cells', fa, fb, tp_fold, -opBin, hbin]) | (with_reducible refine OKr_go ?_; simp [lk_cells', fa, fb, tp_fold, -opBin, hbin]))); repeat' (first | refine awp_seq ?_ | refine awp_block ?_ | (refine awp_skip ?_; try simp) | (refine awp_exit ?_; try simp) | (refine awp_ret ?_; try simp) | (refine retP_same (by simp) ?_; simp) | (refine retP_flat (by simp) (by simp) (by simp (maxDischargeDepth := 30) [lk_cells', fa, fb, tp_fold, -opBin, hbin]) ?_; simp) | (refine awp_reg ?_; simp [lk_cells', fa, fb, tp_fold, -opBin, hbin]) | (refine awp_drawT (fun _ => false) mixed (by decide +kernel) ?_; simp [lk_cells', fa, fb, tp_fold, -opBin, hbin]) | (refine guarded_split ?_ ?_ <;> (intro hg; simp only [hg]; simp [lk_cells', fa, fb, tp_fold, -opBin, hbin])) | (apply awp_cond_t; focus (simp [lk_cells', fa, fb, tp_fold, -opBin, hbin]; done)) | (apply awp_cond_f; focus (simp [lk_cells', fa, fb, tp_fold, -opBin, hbin]; done)) | (refine awp_cond ?_; simp [lk_cells', fa, fb, tp_fold, -opBin, hbin]; refine ⟨?_, ?_⟩ <;> intro hc))
  refine PCalls.use c1 ?_
  (try (first | (with_reducible refine dops_go ?_; simp [lk_cells', fa, fb, tp_fold, -opBin, hbin]) | (with_reducible refine OKv_go ?_; simp [lk_cells', fa, fb, tp_fold, -opBin, hbin]) | (with_reducible refine OKr_go ?_; simp [lk_cells', fa, fb, tp_fold, -opBin, hbin]))); repeat' (first | refine awp_seq ?_ | refine awp_block ?_ | (refine awp_skip ?_; try simp) | (refine awp_exit ?_; try simp) | (refine awp_ret ?_; try simp) | (refine retP_same (by simp) ?_; simp) | (refine retP_flat (by simp) (by simp) (by simp (maxDischargeDepth := 30) [lk_cells', fa, fb, tp_fold, -opBin, hbin]) ?_; simp) | (refine awp_reg ?_; simp [lk_cells', fa, fb, tp_fold, -opBin, hbin]) | (refine awp_drawT (fun _ => false) mixed (by decide +kernel) ?_; simp [lk_cells', fa, fb, tp_fold, -opBin, hbin]) | (refine guarded_split ?_ ?_ <;> (intro hg; simp only [hg]; simp [lk_cells', fa, fb, tp_fold, -opBin, hbin])) | (apply awp_cond_t; focus (simp [lk_cells', fa, fb, tp_fold, -opBin, hbin]; done)) | (apply awp_cond_f; focus (simp [lk_cells', fa, fb, tp_fold, -opBin, hbin]; done)) | (refine awp_cond ?_; simp [lk_cells', fa, fb, tp_fold, -opBin, hbin]; refine ⟨?_, ?_⟩ <;> intro hc))
  refine PCalls.use c2 ?_
  (try (first | (with_reducible refine dops_go ?_; simp [lk_cells', fa, fb, tp_fold, -opBin, hbin]) | (with_reducible refine OKv_go ?_; simp [lk_cells', fa, fb, tp_fold, -opBin, hbin]) | (with_reducible refine OKr_go ?_; simp [lk_cells', fa, fb, tp_fold, -opBin, hbin]))); repeat' (first | refine awp_seq ?_ | refine awp_block ?_ | (refine awp_skip ?_; try simp) | (refine awp_exit ?_; try simp) | (refine awp_ret ?_; try simp) | (refine retP_same (by simp) ?_; simp) | (refine retP_flat (by simp) (by simp) (by simp (maxDischargeDepth := 30) [lk_cells', fa, fb, tp_fold, -opBin, hbin]) ?_; simp) | (refine awp_reg ?_; simp [lk_cells', fa, fb, tp_fold, -opBin, hbin]) | (refine awp_drawT (fun _ => false) mixed (by decide +kernel) ?_; simp [lk_cells', fa, fb, tp_fold, -opBin, hbin]) | (refine guarded_split ?_ ?_ <;> (intro hg; simp only [hg]; simp [lk_cells', fa, fb, tp_fold, -opBin, hbin])) | (apply awp_cond_t; focus (simp [lk_cells', fa, fb, tp_fold, -opBin, hbin]; done)) | (apply awp_cond_f; focus (simp [lk_cells', fa, fb, tp_fold, -opBin, hbin]; done)) | (refine awp_cond ?_; simp [lk_cells', fa, fb, tp_fold, -opBin, hbin]; refine ⟨?_, ?_⟩ <;> intro hc))
theorem fitsNot_calls (t : Tp) (f : Fl) (r : Ru) (hl : t.ports.length < 2 ^ 60) : PCalls Try.prog 120 [ruAV r, .pp [intsAV t.ports f.p, linksAV t.links f.l] 0] (.raw (.bool (!hasB t ⟨r.dev, r.port⟩))) := by
  refine pbody Try.func120 rfl (N := 12) rfl rfl (by simp) (by simp [noIds]) fun σ => ?_
  (try (first | (with_reducible refine dops_go ?_; simp [ru_cells, ruPort_fold, tp_fold]) | (with_reducible refine OKv_go ?_; simp [ru_cells, ruPort_fold, tp_fold]) | (with_reducible refine OKr_go ?_; simp [ru_cells, ruPort_fold, tp_fold]))); repeat' (first | refine awp_seq ?_ | refine awp_block ?_ | (refine awp_skip ?_; try simp) | (refine awp_exit ?_; try simp) | (refine awp_ret ?_; try simp) | (refine retP_same (by simp) ?_; simp) | (refine retP_flat (by simp) (by simp) (by simp (maxDischargeDepth := 30) [ru_cells, ruPort_fold, tp_fold]) ?_; simp) | (refine awp_reg ?_; simp [ru_cells, ruPort_fold, tp_fold]) | (refine awp_drawT (fun _ => false) mixed (by decide +kernel) ?_; simp [ru_cells, ruPort_fold, tp_fold]) | (refine guarded_split ?_ ?_ <;> (intro hg; simp only [hg]; simp [ru_cells, ruPort_fold, tp_fold])) | (apply awp_cond_t; focus (simp [ru_cells, ruPort_fold, tp_fold]; done)) | (apply awp_cond_f; focus (simp [ru_cells, ruPort_fold, tp_fold]; done)) | (refine awp_cond ?_; simp [ru_cells, ruPort_fold, tp_fold]; refine ⟨?_, ?_⟩ <;> intro hc))
  refine PCalls.use (has_calls t f ⟨r.dev, r.port⟩ hl) ?_
  (try (first | (with_reducible refine dops_go ?_; simp) | (with_reducible refine OKv_go ?_; simp) | (with_reducible refine OKr_go ?_; simp))); repeat' (first | refine awp_seq ?_ | refine awp_block ?_ | (refine awp_skip ?_; try simp) | (refine awp_exit ?_; try simp) | (refine awp_ret ?_; try simp) | (refine retP_same (by simp) ?_; simp) | (refine retP_flat (by simp) (by simp) (by simp (maxDischargeDepth := 30)) ?_; simp) | (refine awp_reg ?_; simp) | (refine awp_drawT (fun _ => false) mixed (by decide +kernel) ?_; simp) | (refine guarded_split ?_ ?_ <;> (intro hg; simp only [hg]; simp)) | (apply awp_cond_t; focus (simp; done)) | (apply awp_cond_f; focus (simp; done)) | (refine awp_cond ?_; simp; refine ⟨?_, ?_⟩ <;> intro hc))
def fitsB (t : Tp) (l : List Ru) : Bool := !(l.any fun r => !hasB t ⟨r.dev, r.port⟩)
theorem fits_calls (t : Tp) (f : Fl) (l : List Ru) (g : Bool) (hl : t.ports.length < 2 ^ 60) (hl2 : l.length < 2 ^ 60) : PCalls Try.prog 85 [tpAV t f, rulesAV l g] (.raw (.bool (fitsB t l))) := by
  have hc := ruContains_calls (g := 120) (caps := [.pp [intsAV t.ports f.p, linksAV t.links f.l] 0]) (p := fun r => !hasB t ⟨r.dev, r.port⟩) l g hl2 (fun r _ => fitsNot_calls t f r hl)
  refine pbody Try.func85 rfl (N := 9) rfl rfl (by simp) (by simp [noIds]) fun σ => ?_
  repeat (refine awp_seq ?_)
  refine awp_reg ?_
  have ho1 : cellOK (intsAV t.ports f.p) = true := rfl
  have ho2 : cellOK (linksAV t.links f.l) = true := rfl
  simp only [cellOK] at ho1 ho2
  simp [tp_cells, ho1, ho2]
  refine awp_freeze ⟨2, σ.nx 2, 2⟩ ?_
  generalize hτ : St.del _ _ = τ
  generalize hA : (fun t => giveUp _ _ _) = A
  have a1 : A 1 = rulesAV l g := by rw [← hA]; simp [rulesAV]
  have a2 : A 2 = .pp [intsAV t.ports f.p, linksAV t.links f.l] 0 := by rw [← hA, ← hτ]; simp [giveUp, St.new, St.del, tp_cells]
  have hE : Ext σ τ := by
    rw [← hτ]
    refine ⟨fun i o h => ?_, fun s => ?_⟩
    · rw [del_other (fun e => by rw [e, fresh_none] at h; cases h)]
      exact new_up _ _ h
    · exact St.new_le σ 2 2 (.buf [tpAV t f]) s
  clear hτ hA
  (try (first | (with_reducible refine dops_go ?_; simp [a1, a2]) | (with_reducible refine OKv_go ?_; simp [a1, a2]) | (with_reducible refine OKr_go ?_; simp [a1, a2]))); repeat' (first | refine awp_seq ?_ | refine awp_block ?_ | (refine awp_skip ?_; try simp) | (refine awp_exit ?_; try simp) | (refine awp_ret ?_; try simp) | (refine retP_same (by simp) ?_; simp) | (refine retP_flat (by simp) (by simp) (by simp (maxDischargeDepth := 30) [a1, a2]) ?_; simp) | (refine awp_reg ?_; simp [a1, a2]) | (refine awp_drawT (fun _ => false) mixed (by decide +kernel) ?_; simp [a1, a2]) | (refine guarded_split ?_ ?_ <;> (intro hg; simp only [hg]; simp [a1, a2])) | (apply awp_cond_t; focus (simp [a1, a2]; done)) | (apply awp_cond_f; focus (simp [a1, a2]; done)) | (refine awp_cond ?_; simp [a1, a2]; refine ⟨?_, ?_⟩ <;> intro hc))
  refine PCalls.use hc ?_
  (try (first | (with_reducible refine dops_go ?_; simp [a1, a2, hE]) | (with_reducible refine OKv_go ?_; simp [a1, a2, hE]) | (with_reducible refine OKr_go ?_; simp [a1, a2, hE]))); repeat' (first | refine awp_seq ?_ | refine awp_block ?_ | (refine awp_skip ?_; try simp) | (refine awp_exit ?_; try simp) | (refine awp_ret ?_; try simp) | (refine retP_same (by simp) ?_; simp) | (refine retP_flat (by simp) (by simp) (by simp (maxDischargeDepth := 30) [a1, a2, hE]) ?_; simp) | (refine awp_reg ?_; simp [a1, a2, hE]) | (refine awp_drawT (fun _ => false) mixed (by decide +kernel) ?_; simp [a1, a2, hE]) | (refine guarded_split ?_ ?_ <;> (intro hg; simp only [hg]; simp [a1, a2, hE])) | (apply awp_cond_t; focus (simp [a1, a2, hE]; done)) | (apply awp_cond_f; focus (simp [a1, a2, hE]; done)) | (refine awp_cond ?_; simp [a1, a2, hE]; refine ⟨?_, ?_⟩ <;> intro hc))
  simp [fitsB]

def portsBad (t : Tp) : Bool := t.ports.any fun n => decide (n < 1) || decide (4 < n)
def rightT (t : Tp) : Bool := !decide (t.ports.length = 0) && (!decide (8 < t.ports.length) && (!decide (16 < t.links.length) && (!portsBad t && (!t.links.any (linkBad t) && decide ((joinM t.links).length = 2 * t.links.length)))))
theorem right_calls (t : Tp) (f : Fl) (hl : t.ports.length < 2 ^ 60) (hl2 : t.links.length < 2 ^ 40) : PCalls Try.prog 83 [tpAV t f] (.raw (.bool (rightT t))) := by
  have hj := joined_calls t f hl2
  have hc1 := intContains_calls (g := 114) (caps := []) (p := fun n => decide (n < 1) || decide (4 < n)) t.ports f.p hl (fun n _ => portBad_calls n)
  have hc2 := lkContains_calls (g := 116) (caps := [.pp [intsAV t.ports f.p, linksAV t.links f.l] 0]) (p := linkBad t) t.links f.l (by omega) (fun l _ => linkBad_calls t f l hl)
  have hlen : ∀ L : List Lk, (joinM L).length ≤ 2 * L.length := by
    have : ∀ (L : List Lk) m, (L.foldl (fun m l => upd (upd m l.a l.b) l.b l.a) m).length ≤ m.length + 2 * L.length := by
      intro L
      induction L with
      | nil => intro m; simp
      | cons l L ih =>
        intro m
        have h1 := ih (upd (upd m l.a l.b) l.b l.a)
        have hu : ∀ m k v, (upd m k v).length ≤ m.length + 1 := fun m k v => by
          unfold upd
          have := List.length_filter_le (fun e : Pt × Pt => decide (k ≠ e.1)) m
          simp only [List.length_append, List.length_singleton]; omega
        have h2 := hu (upd m l.a l.b) l.b l.a
        have h3 := hu m l.a l.b
        simp only [List.foldl_cons, List.length_cons]
        omega
    intro L
    simpa [joinM] using this L []
  have hle := hlen t.links
  unfold rightT
  obtain ⟨b4, h4⟩ : ∃ b, portsBad t = b := ⟨_, rfl⟩
  obtain ⟨b5, h5⟩ : ∃ b, t.links.any (linkBad t) = b := ⟨_, rfl⟩
  rw [show (t.ports.any fun n => decide (n < 1) || decide (4 < n)) = b4 from h4] at hc1
  obtain ⟨n, hn⟩ : ∃ n, t.ports.length = n := ⟨_, rfl⟩
  obtain ⟨k, hk⟩ : ∃ k, t.links.length = k := ⟨_, rfl⟩
  obtain ⟨c, hcc⟩ : ∃ c, (joinM t.links).length = c := ⟨_, rfl⟩
  rw [h5] at hc2 ⊢
  rw [h4, hn, hk, hcc]
  rw [hk, hcc] at hle
  rw [hn] at hl
  rw [hk] at hl2
  refine pbody Try.func83 rfl (N := 34) rfl rfl (by simp) (by simp [noIds]) fun σ => ?_
  repeat (refine awp_seq ?_)
  refine awp_reg ?_
  have ho1 : cellOK (intsAV t.ports f.p) = true := rfl
  have ho2 : cellOK (linksAV t.links f.l) = true := rfl
  simp only [cellOK] at ho1 ho2
  simp [tp_cells, ho1, ho2]
  refine awp_freeze ⟨1, σ.nx 1, 2⟩ ?_
  generalize hτ : St.del _ _ = τ
  generalize hA : (fun t => giveUp _ _ _) = A
  have a1 : A 1 = .pp [intsAV t.ports f.p, linksAV t.links f.l] 0 := by rw [← hA, ← hτ]; simp [giveUp, St.new, St.del, tp_cells]
  have hE : Ext σ τ := by
    rw [← hτ]
    refine ⟨fun i o h => ?_, fun s => ?_⟩
    · rw [del_other (fun e => by rw [e, fresh_none] at h; cases h)]
      exact new_up _ _ h
    · exact St.new_le σ 1 2 (.buf [tpAV t f]) s
  clear hτ hA
  have li : ∀ g, opLen Try.prog τ.m 22 (intsAV t.ports g) = some (.raw (.int .i64 n)) := fun g => by simp [intsAV, hn]
  have ll : ∀ g, opLen Try.prog τ.m 23 (linksAV t.links g) = some (.raw (.int .i64 k)) := fun g => by simp [linksAV, hk]
  have lm : ∀ (m : Mem) i, m i = some (.map (enc (joinM t.links))) → opLen Try.prog m 167 (.mp i) = some (.raw (.int .i64 c)) := fun m i h => by simp [h, enc, hcc]
  have ll2 : ∀ (m : Mem) g, opLen Try.prog m 23 (linksAV t.links g) = some (.raw (.int .i64 k)) := fun m g => by simp [linksAV, hk]
  have w2 : IntKind.i64.wrap (2 * (k : Int)) = 2 * (k : Int) := wrap64 (by omega) (by omega)
  clear hn hk hcc
  by_cases q1 : n = 0
  · (try (first | (with_reducible refine dops_go ?_; simp [a1, hE, -opLen, li, ll, q1]) | (with_reducible refine OKv_go ?_; simp [a1, hE, -opLen, li, ll, q1]) | (with_reducible refine OKr_go ?_; simp [a1, hE, -opLen, li, ll, q1]))); repeat' (first | refine awp_seq ?_ | refine awp_block ?_ | (refine awp_skip ?_; try simp) | (refine awp_exit ?_; try simp) | (refine awp_ret ?_; try simp) | (refine retP_same (by simp) ?_; simp) | (refine retP_flat (by simp) (by simp) (by simp (maxDischargeDepth := 30) [a1, hE, -opLen, li, ll, q1]) ?_; simp) | (refine awp_reg ?_; simp [a1, hE, -opLen, li, ll, q1]) | (refine awp_drawT (fun _ => false) mixed (by decide +kernel) ?_; simp [a1, hE, -opLen, li, ll, q1]) | (refine guarded_split ?_ ?_ <;> (intro hg; simp only [hg]; simp [a1, hE, -opLen, li, ll, q1])) | (apply awp_cond_t; focus (simp [a1, hE, -opLen, li, ll, q1]; done)) | (apply awp_cond_f; focus (simp [a1, hE, -opLen, li, ll, q1]; done)) | (refine awp_cond ?_; simp [a1, hE, -opLen, li, ll, q1]; refine ⟨?_, ?_⟩ <;> intro hc))
    all_goals (intros; omega)
  by_cases q2 : 8 < n
  · have q2i : (8 : Int) < (n : Int) := by omega
    (try (first | (with_reducible refine dops_go ?_; simp [a1, hE, -opLen, li, ll, q1, q2, q2i]) | (with_reducible refine OKv_go ?_; simp [a1, hE, -opLen, li, ll, q1, q2, q2i]) | (with_reducible refine OKr_go ?_; simp [a1, hE, -opLen, li, ll, q1, q2, q2i]))); repeat' (first | refine awp_seq ?_ | refine awp_block ?_ | (refine awp_skip ?_; try simp) | (refine awp_exit ?_; try simp) | (refine awp_ret ?_; try simp) | (refine retP_same (by simp) ?_; simp) | (refine retP_flat (by simp) (by simp) (by simp (maxDischargeDepth := 30) [a1, hE, -opLen, li, ll, q1, q2, q2i]) ?_; simp) | (refine awp_reg ?_; simp [a1, hE, -opLen, li, ll, q1, q2, q2i]) | (refine awp_drawT (fun _ => false) mixed (by decide +kernel) ?_; simp [a1, hE, -opLen, li, ll, q1, q2, q2i]) | (refine guarded_split ?_ ?_ <;> (intro hg; simp only [hg]; simp [a1, hE, -opLen, li, ll, q1, q2, q2i])) | (apply awp_cond_t; focus (simp [a1, hE, -opLen, li, ll, q1, q2, q2i]; done)) | (apply awp_cond_f; focus (simp [a1, hE, -opLen, li, ll, q1, q2, q2i]; done)) | (refine awp_cond ?_; simp [a1, hE, -opLen, li, ll, q1, q2, q2i]; refine ⟨?_, ?_⟩ <;> intro hc))
    all_goals (intros; omega)
  have q2i : ¬ (8 : Int) < (n : Int) := by omega
  by_cases q3 : 16 < k
  · have q3i : (16 : Int) < (k : Int) := by omega
    (try (first | (with_reducible refine dops_go ?_; simp [a1, hE, -opLen, li, ll, q1, q2, q2i, q3, q3i]) | (with_reducible refine OKv_go ?_; simp [a1, hE, -opLen, li, ll, q1, q2, q2i, q3, q3i]) | (with_reducible refine OKr_go ?_; simp [a1, hE, -opLen, li, ll, q1, q2, q2i, q3, q3i]))); repeat' (first | refine awp_seq ?_ | refine awp_block ?_ | (refine awp_skip ?_; try simp) | (refine awp_exit ?_; try simp) | (refine awp_ret ?_; try simp) | (refine retP_same (by simp) ?_; simp) | (refine retP_flat (by simp) (by simp) (by simp (maxDischargeDepth := 30) [a1, hE, -opLen, li, ll, q1, q2, q2i, q3, q3i]) ?_; simp) | (refine awp_reg ?_; simp [a1, hE, -opLen, li, ll, q1, q2, q2i, q3, q3i]) | (refine awp_drawT (fun _ => false) mixed (by decide +kernel) ?_; simp [a1, hE, -opLen, li, ll, q1, q2, q2i, q3, q3i]) | (refine guarded_split ?_ ?_ <;> (intro hg; simp only [hg]; simp [a1, hE, -opLen, li, ll, q1, q2, q2i, q3, q3i])) | (apply awp_cond_t; focus (simp [a1, hE, -opLen, li, ll, q1, q2, q2i, q3, q3i]; done)) | (apply awp_cond_f; focus (simp [a1, hE, -opLen, li, ll, q1, q2, q2i, q3, q3i]; done)) | (refine awp_cond ?_; simp [a1, hE, -opLen, li, ll, q1, q2, q2i, q3, q3i]; refine ⟨?_, ?_⟩ <;> intro hc))
    all_goals (intros; omega)
  have q3i : ¬ (16 : Int) < (k : Int) := by omega
  (try (first | (with_reducible refine dops_go ?_; simp [a1, hE, -opLen, li, ll, q1, q2, q2i, q3, q3i]) | (with_reducible refine OKv_go ?_; simp [a1, hE, -opLen, li, ll, q1, q2, q2i, q3, q3i]) | (with_reducible refine OKr_go ?_; simp [a1, hE, -opLen, li, ll, q1, q2, q2i, q3, q3i]))); repeat' (first | refine awp_seq ?_ | refine awp_block ?_ | (refine awp_skip ?_; try simp) | (refine awp_exit ?_; try simp) | (refine awp_ret ?_; try simp) | (refine retP_same (by simp) ?_; simp) | (refine retP_flat (by simp) (by simp) (by simp (maxDischargeDepth := 30) [a1, hE, -opLen, li, ll, q1, q2, q2i, q3, q3i]) ?_; simp) | (refine awp_reg ?_; simp [a1, hE, -opLen, li, ll, q1, q2, q2i, q3, q3i]) | (refine awp_drawT (fun _ => false) mixed (by decide +kernel) ?_; simp [a1, hE, -opLen, li, ll, q1, q2, q2i, q3, q3i]) | (refine guarded_split ?_ ?_ <;> (intro hg; simp only [hg]; simp [a1, hE, -opLen, li, ll, q1, q2, q2i, q3, q3i])) | (apply awp_cond_t; focus (simp [a1, hE, -opLen, li, ll, q1, q2, q2i, q3, q3i]; done)) | (apply awp_cond_f; focus (simp [a1, hE, -opLen, li, ll, q1, q2, q2i, q3, q3i]; done)) | (refine awp_cond ?_; simp [a1, hE, -opLen, li, ll, q1, q2, q2i, q3, q3i]; refine ⟨?_, ?_⟩ <;> intro hc))
  refine PCalls.use hc1 ?_
  cases b4 with
  | true =>
    (try (first | (with_reducible refine dops_go ?_; simp [a1, hE, -opLen, li, ll, q1, q2, q2i, q3, q3i]) | (with_reducible refine OKv_go ?_; simp [a1, hE, -opLen, li, ll, q1, q2, q2i, q3, q3i]) | (with_reducible refine OKr_go ?_; simp [a1, hE, -opLen, li, ll, q1, q2, q2i, q3, q3i]))); repeat' (first | refine awp_seq ?_ | refine awp_block ?_ | (refine awp_skip ?_; try simp) | (refine awp_exit ?_; try simp) | (refine awp_ret ?_; try simp) | (refine retP_same (by simp) ?_; simp) | (refine retP_flat (by simp) (by simp) (by simp (maxDischargeDepth := 30) [a1, hE, -opLen, li, ll, q1, q2, q2i, q3, q3i]) ?_; simp) | (refine awp_reg ?_; simp [a1, hE, -opLen, li, ll, q1, q2, q2i, q3, q3i]) | (refine awp_drawT (fun _ => false) mixed (by decide +kernel) ?_; simp [a1, hE, -opLen, li, ll, q1, q2, q2i, q3, q3i]) | (refine guarded_split ?_ ?_ <;> (intro hg; simp only [hg]; simp [a1, hE, -opLen, li, ll, q1, q2, q2i, q3, q3i])) | (apply awp_cond_t; focus (simp [a1, hE, -opLen, li, ll, q1, q2, q2i, q3, q3i]; done)) | (apply awp_cond_f; focus (simp [a1, hE, -opLen, li, ll, q1, q2, q2i, q3, q3i]; done)) | (refine awp_cond ?_; simp [a1, hE, -opLen, li, ll, q1, q2, q2i, q3, q3i]; refine ⟨?_, ?_⟩ <;> intro hc))
  | false =>
    (try (first | (with_reducible refine dops_go ?_; simp [a1, hE, -opLen, li, ll, q1, q2, q2i, q3, q3i]) | (with_reducible refine OKv_go ?_; simp [a1, hE, -opLen, li, ll, q1, q2, q2i, q3, q3i]) | (with_reducible refine OKr_go ?_; simp [a1, hE, -opLen, li, ll, q1, q2, q2i, q3, q3i]))); repeat' (first | refine awp_seq ?_ | refine awp_block ?_ | (refine awp_skip ?_; try simp) | (refine awp_exit ?_; try simp) | (refine awp_ret ?_; try simp) | (refine retP_same (by simp) ?_; simp) | (refine retP_flat (by simp) (by simp) (by simp (maxDischargeDepth := 30) [a1, hE, -opLen, li, ll, q1, q2, q2i, q3, q3i]) ?_; simp) | (refine awp_reg ?_; simp [a1, hE, -opLen, li, ll, q1, q2, q2i, q3, q3i]) | (refine awp_drawT (fun _ => false) mixed (by decide +kernel) ?_; simp [a1, hE, -opLen, li, ll, q1, q2, q2i, q3, q3i]) | (refine guarded_split ?_ ?_ <;> (intro hg; simp only [hg]; simp [a1, hE, -opLen, li, ll, q1, q2, q2i, q3, q3i])) | (apply awp_cond_t; focus (simp [a1, hE, -opLen, li, ll, q1, q2, q2i, q3, q3i]; done)) | (apply awp_cond_f; focus (simp [a1, hE, -opLen, li, ll, q1, q2, q2i, q3, q3i]; done)) | (refine awp_cond ?_; simp [a1, hE, -opLen, li, ll, q1, q2, q2i, q3, q3i]; refine ⟨?_, ?_⟩ <;> intro hc))
    refine PCalls.use hc2 ?_
    cases b5 with
    | true =>
      (try (first | (with_reducible refine dops_go ?_; simp [a1, hE, -opLen, li, ll, q1, q2, q2i, q3, q3i]) | (with_reducible refine OKv_go ?_; simp [a1, hE, -opLen, li, ll, q1, q2, q2i, q3, q3i]) | (with_reducible refine OKr_go ?_; simp [a1, hE, -opLen, li, ll, q1, q2, q2i, q3, q3i]))); repeat' (first | refine awp_seq ?_ | refine awp_block ?_ | (refine awp_skip ?_; try simp) | (refine awp_exit ?_; try simp) | (refine awp_ret ?_; try simp) | (refine retP_same (by simp) ?_; simp) | (refine retP_flat (by simp) (by simp) (by simp (maxDischargeDepth := 30) [a1, hE, -opLen, li, ll, q1, q2, q2i, q3, q3i]) ?_; simp) | (refine awp_reg ?_; simp [a1, hE, -opLen, li, ll, q1, q2, q2i, q3, q3i]) | (refine awp_drawT (fun _ => false) mixed (by decide +kernel) ?_; simp [a1, hE, -opLen, li, ll, q1, q2, q2i, q3, q3i]) | (refine guarded_split ?_ ?_ <;> (intro hg; simp only [hg]; simp [a1, hE, -opLen, li, ll, q1, q2, q2i, q3, q3i])) | (apply awp_cond_t; focus (simp [a1, hE, -opLen, li, ll, q1, q2, q2i, q3, q3i]; done)) | (apply awp_cond_f; focus (simp [a1, hE, -opLen, li, ll, q1, q2, q2i, q3, q3i]; done)) | (refine awp_cond ?_; simp [a1, hE, -opLen, li, ll, q1, q2, q2i, q3, q3i]; refine ⟨?_, ?_⟩ <;> intro hc))
    | false =>
      (try (first | (with_reducible refine dops_go ?_; simp [a1, hE, -opLen, li, ll, q1, q2, q2i, q3, q3i]) | (with_reducible refine OKv_go ?_; simp [a1, hE, -opLen, li, ll, q1, q2, q2i, q3, q3i]) | (with_reducible refine OKr_go ?_; simp [a1, hE, -opLen, li, ll, q1, q2, q2i, q3, q3i]))); repeat' (first | refine awp_seq ?_ | refine awp_block ?_ | (refine awp_skip ?_; try simp) | (refine awp_exit ?_; try simp) | (refine awp_ret ?_; try simp) | (refine retP_same (by simp) ?_; simp) | (refine retP_flat (by simp) (by simp) (by simp (maxDischargeDepth := 30) [a1, hE, -opLen, li, ll, q1, q2, q2i, q3, q3i]) ?_; simp) | (refine awp_reg ?_; simp [a1, hE, -opLen, li, ll, q1, q2, q2i, q3, q3i]) | (refine awp_drawT (fun _ => false) mixed (by decide +kernel) ?_; simp [a1, hE, -opLen, li, ll, q1, q2, q2i, q3, q3i]) | (refine guarded_split ?_ ?_ <;> (intro hg; simp only [hg]; simp [a1, hE, -opLen, li, ll, q1, q2, q2i, q3, q3i])) | (apply awp_cond_t; focus (simp [a1, hE, -opLen, li, ll, q1, q2, q2i, q3, q3i]; done)) | (apply awp_cond_f; focus (simp [a1, hE, -opLen, li, ll, q1, q2, q2i, q3, q3i]; done)) | (refine awp_cond ?_; simp [a1, hE, -opLen, li, ll, q1, q2, q2i, q3, q3i]; refine ⟨?_, ?_⟩ <;> intro hc))
      refine awp_drawT (fun o => o.dst == some 27) mixed (by decide +kernel) ?_
      (try (first | (with_reducible refine dops_go ?_; simp [a1, hE, -opLen, li, ll, q1, q2, q2i, q3, q3i, tp_fold]) | (with_reducible refine OKv_go ?_; simp [a1, hE, -opLen, li, ll, q1, q2, q2i, q3, q3i, tp_fold]) | (with_reducible refine OKr_go ?_; simp [a1, hE, -opLen, li, ll, q1, q2, q2i, q3, q3i, tp_fold]))); repeat' (first | refine awp_seq ?_ | refine awp_block ?_ | (refine awp_skip ?_; try simp) | (refine awp_exit ?_; try simp) | (refine awp_ret ?_; try simp) | (refine retP_same (by simp) ?_; simp) | (refine retP_flat (by simp) (by simp) (by simp (maxDischargeDepth := 30) [a1, hE, -opLen, li, ll, q1, q2, q2i, q3, q3i, tp_fold]) ?_; simp) | (refine awp_reg ?_; simp [a1, hE, -opLen, li, ll, q1, q2, q2i, q3, q3i, tp_fold]) | (refine awp_drawT (fun _ => false) mixed (by decide +kernel) ?_; simp [a1, hE, -opLen, li, ll, q1, q2, q2i, q3, q3i, tp_fold]) | (refine guarded_split ?_ ?_ <;> (intro hg; simp only [hg]; simp [a1, hE, -opLen, li, ll, q1, q2, q2i, q3, q3i, tp_fold])) | (apply awp_cond_t; focus (simp [a1, hE, -opLen, li, ll, q1, q2, q2i, q3, q3i, tp_fold]; done)) | (apply awp_cond_f; focus (simp [a1, hE, -opLen, li, ll, q1, q2, q2i, q3, q3i, tp_fold]; done)) | (refine awp_cond ?_; simp [a1, hE, -opLen, li, ll, q1, q2, q2i, q3, q3i, tp_fold]; refine ⟨?_, ?_⟩ <;> intro hc))
      refine .inr ⟨_, _, _, hj, ?_⟩
      (try (first | (with_reducible refine dops_go ?_; simp [a1, hE, -opLen, ll2, lm, q1, q2, q3, tp_fold, w2]) | (with_reducible refine OKv_go ?_; simp [a1, hE, -opLen, ll2, lm, q1, q2, q3, tp_fold, w2]) | (with_reducible refine OKr_go ?_; simp [a1, hE, -opLen, ll2, lm, q1, q2, q3, tp_fold, w2]))); repeat' (first | refine awp_seq ?_ | refine awp_block ?_ | (refine awp_skip ?_; try simp) | (refine awp_exit ?_; try simp) | (refine awp_ret ?_; try simp) | (refine retP_same (by simp) ?_; simp) | (refine retP_flat (by simp) (by simp) (by simp (maxDischargeDepth := 30) [a1, hE, -opLen, ll2, lm, q1, q2, q3, tp_fold, w2]) ?_; simp) | (refine awp_reg ?_; simp [a1, hE, -opLen, ll2, lm, q1, q2, q3, tp_fold, w2]) | (refine awp_drawT (fun _ => false) mixed (by decide +kernel) ?_; simp [a1, hE, -opLen, ll2, lm, q1, q2, q3, tp_fold, w2]) | (refine guarded_split ?_ ?_ <;> (intro hg; simp only [hg]; simp [a1, hE, -opLen, ll2, lm, q1, q2, q3, tp_fold, w2])) | (apply awp_cond_t; focus (simp [a1, hE, -opLen, ll2, lm, q1, q2, q3, tp_fold, w2]; done)) | (apply awp_cond_f; focus (simp [a1, hE, -opLen, ll2, lm, q1, q2, q3, tp_fold, w2]; done)) | (refine awp_cond ?_; simp [a1, hE, -opLen, ll2, lm, q1, q2, q3, tp_fold, w2]; refine ⟨?_, ?_⟩ <;> intro hc))
      rw [show decide ((c : Int) = 2 * (k : Int)) = decide (c = 2 * k) by (congr 1; exact propext (by omega))]
      simp [q1, q2, q3]
end Go.Proofs.Ytanimmdlgmkmkaa.Av

/- Networks: lists that are alike. -/
namespace Go.Proofs.Ytanimmdlgmkmkaa.Av
open Go
set_option linter.unusedSimpArgs false
set_option linter.unusedVariables false
set_option maxRecDepth 100000
set_option maxHeartbeats 2000000
set_option pp.maxSteps 300

theorem opBin_raw {P : Program} {op : BinOp} {t : TypeId} {a b : Value} : opBin P op t (.raw a) (.raw b) = opBin0 P op t (.raw a) (.raw b) := rfl
theorem lk_eq (a b : Lk) : structEq Try.prog 4 129 (lkAV a) (lkAV b) = some (decide (a = b)) := by
  have : decide (a = b) = (decide (a.a.dev = b.a.dev) && decide (a.a.port = b.a.port) && (decide (a.b.dev = b.b.dev) && decide (a.b.port = b.b.port))) := by
    rcases a with ⟨⟨a1, a2⟩, ⟨a3, a4⟩⟩; rcases b with ⟨⟨b1, b2⟩, ⟨b3, b4⟩⟩
    rw [Bool.eq_iff_iff]; simp
  rw [this]
  simp [structEq, lkAV, fieldsEq, rowLoad, cellEq]
theorem lk_neq (a b : Lk) : opBin Try.prog .neq 129 (lkAV a) (lkAV b) = some (.raw (.bool (!decide (a = b)))) := by
  have e1 : ∀ x y : Lk, opBin Try.prog .neq 129 (lkAV x) (lkAV y) = if Try.prog.eqGuardType Try.prog.depth 129 = false then (structEq Try.prog 4 129 (lkAV x) (lkAV y)).bind fun b => (nilBin .neq b).map .raw else none := fun x y => rfl
  rw [e1, if_pos eqg129, lk_eq]
  rfl
theorem lkEqual_calls (x y : List Lk) (fx fy : Bool) (hl : x.length < 2 ^ 60) (hl2 : y.length < 2 ^ 60) : PCalls Try.prog 67 [linksAV x fx, linksAV y fy] (.raw (.bool (decide (x = y)))) := by
  refine pbody Try.func67 rfl (N := 26) rfl rfl (by simp) (by simp [noIds]) fun σ => ?_
  by_cases hlen : x.length = y.length
  · have hli : (x.length : Int) = (y.length : Int) := by omega
    (try (first | (with_reducible refine dops_go ?_; simp [linksAV, hlen, hli]) | (with_reducible refine OKv_go ?_; simp [linksAV, hlen, hli]) | (with_reducible refine OKr_go ?_; simp [linksAV, hlen, hli]))); repeat' (first | refine awp_seq ?_ | refine awp_block ?_ | (refine awp_skip ?_; try simp) | (refine awp_exit ?_; try simp) | (refine awp_ret ?_; try simp) | (refine retP_same (by simp) ?_; simp) | (refine retP_flat (by simp) (by simp) (by simp (maxDischargeDepth := 30) [linksAV, hlen, hli]) ?_; simp) | (refine awp_reg ?_; simp [linksAV, hlen, hli]) | (refine awp_drawT (fun _ => false) mixed (by decide +kernel) ?_; simp [linksAV, hlen, hli]) | (refine guarded_split ?_ ?_ <;> (intro hg; simp only [hg]; simp [linksAV, hlen, hli])) | (apply awp_cond_t; focus (simp [linksAV, hlen, hli]; done)) | (apply awp_cond_f; focus (simp [linksAV, hlen, hli]; done)) | (refine awp_cond ?_; simp [linksAV, hlen, hli]; refine ⟨?_, ?_⟩ <;> intro hc))
    refine awp_loopH (fun n A τ => τ = σ ∧ A 0 = linksAV x fx ∧ A 1 = linksAV y fy ∧ A 12 = .raw (.int .i64 y.length) ∧ ∃ i : Nat, A 13 = .raw (.int .i64 i) ∧ i ≤ y.length ∧ n = y.length - i ∧ x.take i = y.take i) y.length ?_ ?_
    · exact ⟨rfl, by simp [linksAV], by simp [linksAV], by simp [linksAV], 0, by simp, by omega, by omega, by simp⟩
    rintro n A τ ⟨rfl, a0, a1, a12, i, a13, hi, rfl, htk⟩ I1 hI1
    by_cases hlt : i < y.length
    · have hlx : i < x.length := by omega
      have hx : x[i]? = some x[i] := List.getElem?_eq_getElem hlx
      have hy : y[i]? = some y[i] := List.getElem?_eq_getElem hlt
      have w1 : IntKind.i64.wrap ((i : Int) + 1) = ((i + 1 : Nat) : Int) := by rw [wrap64 (by omega) (by omega)]; omega
      have fx_ : AV.agg [.raw (.int .i64 x[i].a.dev), .raw (.int .i64 x[i].a.port), .raw (.int .i64 x[i].b.dev), .raw (.int .i64 x[i].b.port)] = lkAV x[i] := rfl
      have fy_ : AV.agg [.raw (.int .i64 y[i].a.dev), .raw (.int .i64 y[i].a.port), .raw (.int .i64 y[i].b.dev), .raw (.int .i64 y[i].b.port)] = lkAV y[i] := rfl
      by_cases he : x[i] = y[i]
      · skip
        (try (first | (with_reducible refine dops_go ?_; simp [linksAV, a0, a1, a12, a13, hlt, hlx, hx, hy, lk_cells, fx_, fy_, lk_neq, opBin_raw, -opBin, he, w1]) | (with_reducible refine OKv_go ?_; simp [linksAV, a0, a1, a12, a13, hlt, hlx, hx, hy, lk_cells, fx_, fy_, lk_neq, opBin_raw, -opBin, he, w1]) | (with_reducible refine OKr_go ?_; simp [linksAV, a0, a1, a12, a13, hlt, hlx, hx, hy, lk_cells, fx_, fy_, lk_neq, opBin_raw, -opBin, he, w1]))); repeat' (first | refine awp_seq ?_ | refine awp_block ?_ | (refine awp_skip ?_; try simp) | (refine awp_exit ?_; try simp) | (refine awp_ret ?_; try simp) | (refine retP_same (by simp) ?_; simp) | (refine retP_flat (by simp) (by simp) (by simp (maxDischargeDepth := 30) [linksAV, a0, a1, a12, a13, hlt, hlx, hx, hy, lk_cells, fx_, fy_, lk_neq, opBin_raw, -opBin, he, w1]) ?_; simp) | (refine awp_reg ?_; simp [linksAV, a0, a1, a12, a13, hlt, hlx, hx, hy, lk_cells, fx_, fy_, lk_neq, opBin_raw, -opBin, he, w1]) | (refine awp_drawT (fun _ => false) mixed (by decide +kernel) ?_; simp [linksAV, a0, a1, a12, a13, hlt, hlx, hx, hy, lk_cells, fx_, fy_, lk_neq, opBin_raw, -opBin, he, w1]) | (refine guarded_split ?_ ?_ <;> (intro hg; simp only [hg]; simp [linksAV, a0, a1, a12, a13, hlt, hlx, hx, hy, lk_cells, fx_, fy_, lk_neq, opBin_raw, -opBin, he, w1])) | (apply awp_cond_t; focus (simp [linksAV, a0, a1, a12, a13, hlt, hlx, hx, hy, lk_cells, fx_, fy_, lk_neq, opBin_raw, -opBin, he, w1]; done)) | (apply awp_cond_f; focus (simp [linksAV, a0, a1, a12, a13, hlt, hlx, hx, hy, lk_cells, fx_, fy_, lk_neq, opBin_raw, -opBin, he, w1]; done)) | (refine awp_cond ?_; simp [linksAV, a0, a1, a12, a13, hlt, hlx, hx, hy, lk_cells, fx_, fy_, lk_neq, opBin_raw, -opBin, he, w1]; refine ⟨?_, ?_⟩ <;> intro hc))

        all_goals exact hI1 (y.length - (i + 1)) _ _ (by omega) ⟨rfl, by simp [a0, linksAV], by simp [a1, linksAV], by simp [a12], i + 1, by simp [w1], by omega, rfl, take_eq htk hx (by rw [hy, he])⟩
      · skip
        (try (first | (with_reducible refine dops_go ?_; simp [linksAV, a0, a1, a12, a13, hlt, hlx, hx, hy, lk_cells, fx_, fy_, lk_neq, opBin_raw, -opBin, he, w1]) | (with_reducible refine OKv_go ?_; simp [linksAV, a0, a1, a12, a13, hlt, hlx, hx, hy, lk_cells, fx_, fy_, lk_neq, opBin_raw, -opBin, he, w1]) | (with_reducible refine OKr_go ?_; simp [linksAV, a0, a1, a12, a13, hlt, hlx, hx, hy, lk_cells, fx_, fy_, lk_neq, opBin_raw, -opBin, he, w1]))); repeat' (first | refine awp_seq ?_ | refine awp_block ?_ | (refine awp_skip ?_; try simp) | (refine awp_exit ?_; try simp) | (refine awp_ret ?_; try simp) | (refine retP_same (by simp) ?_; simp) | (refine retP_flat (by simp) (by simp) (by simp (maxDischargeDepth := 30) [linksAV, a0, a1, a12, a13, hlt, hlx, hx, hy, lk_cells, fx_, fy_, lk_neq, opBin_raw, -opBin, he, w1]) ?_; simp) | (refine awp_reg ?_; simp [linksAV, a0, a1, a12, a13, hlt, hlx, hx, hy, lk_cells, fx_, fy_, lk_neq, opBin_raw, -opBin, he, w1]) | (refine awp_drawT (fun _ => false) mixed (by decide +kernel) ?_; simp [linksAV, a0, a1, a12, a13, hlt, hlx, hx, hy, lk_cells, fx_, fy_, lk_neq, opBin_raw, -opBin, he, w1]) | (refine guarded_split ?_ ?_ <;> (intro hg; simp only [hg]; simp [linksAV, a0, a1, a12, a13, hlt, hlx, hx, hy, lk_cells, fx_, fy_, lk_neq, opBin_raw, -opBin, he, w1])) | (apply awp_cond_t; focus (simp [linksAV, a0, a1, a12, a13, hlt, hlx, hx, hy, lk_cells, fx_, fy_, lk_neq, opBin_raw, -opBin, he, w1]; done)) | (apply awp_cond_f; focus (simp [linksAV, a0, a1, a12, a13, hlt, hlx, hx, hy, lk_cells, fx_, fy_, lk_neq, opBin_raw, -opBin, he, w1]; done)) | (refine awp_cond ?_; simp [linksAV, a0, a1, a12, a13, hlt, hlx, hx, hy, lk_cells, fx_, fy_, lk_neq, opBin_raw, -opBin, he, w1]; refine ⟨?_, ?_⟩ <;> intro hc))
        all_goals (rintro rfl; exact he rfl)
    · have : i = y.length := by omega
      subst this
      have hxy : x = y := by
        rw [List.take_length, ← hlen, List.take_length] at htk; exact htk
      (try (first | (with_reducible refine dops_go ?_; simp [linksAV, a0, a1, a12, a13]) | (with_reducible refine OKv_go ?_; simp [linksAV, a0, a1, a12, a13]) | (with_reducible refine OKr_go ?_; simp [linksAV, a0, a1, a12, a13]))); repeat' (first | refine awp_seq ?_ | refine awp_block ?_ | (refine awp_skip ?_; try simp) | (refine awp_exit ?_; try simp) | (refine awp_ret ?_; try simp) | (refine retP_same (by simp) ?_; simp) | (refine retP_flat (by simp) (by simp) (by simp (maxDischargeDepth := 30) [linksAV, a0, a1, a12, a13]) ?_; simp) | (refine awp_reg ?_; simp [linksAV, a0, a1, a12, a13]) | (refine awp_drawT (fun _ => false) mixed (by decide +kernel) ?_; simp [linksAV, a0, a1, a12, a13]) | (refine guarded_split ?_ ?_ <;> (intro hg; simp only [hg]; simp [linksAV, a0, a1, a12, a13])) | (apply awp_cond_t; focus (simp [linksAV, a0, a1, a12, a13]; done)) | (apply awp_cond_f; focus (simp [linksAV, a0, a1, a12, a13]; done)) | (refine awp_cond ?_; simp [linksAV, a0, a1, a12, a13]; refine ⟨?_, ?_⟩ <;> intro hc))
      all_goals first | exact hxy | simp [hxy]
  · have hli : ¬ ((x.length : Int) = (y.length : Int)) := by omega
    (try (first | (with_reducible refine dops_go ?_; simp [linksAV, hlen, hli]) | (with_reducible refine OKv_go ?_; simp [linksAV, hlen, hli]) | (with_reducible refine OKr_go ?_; simp [linksAV, hlen, hli]))); repeat' (first | refine awp_seq ?_ | refine awp_block ?_ | (refine awp_skip ?_; try simp) | (refine awp_exit ?_; try simp) | (refine awp_ret ?_; try simp) | (refine retP_same (by simp) ?_; simp) | (refine retP_flat (by simp) (by simp) (by simp (maxDischargeDepth := 30) [linksAV, hlen, hli]) ?_; simp) | (refine awp_reg ?_; simp [linksAV, hlen, hli]) | (refine awp_drawT (fun _ => false) mixed (by decide +kernel) ?_; simp [linksAV, hlen, hli]) | (refine guarded_split ?_ ?_ <;> (intro hg; simp only [hg]; simp [linksAV, hlen, hli])) | (apply awp_cond_t; focus (simp [linksAV, hlen, hli]; done)) | (apply awp_cond_f; focus (simp [linksAV, hlen, hli]; done)) | (refine awp_cond ?_; simp [linksAV, hlen, hli]; refine ⟨?_, ?_⟩ <;> intro hc))
    all_goals (rintro rfl; exact hlen rfl)
end Go.Proofs.Ytanimmdlgmkmkaa.Av

/- Networks: topologies that are alike; what fits, by the document. -/
namespace Go.Proofs.Ytanimmdlgmkmkaa.Av
open Go
set_option linter.unusedSimpArgs false
set_option linter.unusedVariables false
set_option maxRecDepth 100000
set_option maxHeartbeats 2000000
set_option pp.maxSteps 300

theorem topoSame_calls (x y : Tp) (fx fy : Fl) (hx : x.ports.length < 2 ^ 60) (hx2 : x.links.length < 2 ^ 60) (hy : y.ports.length < 2 ^ 60) (hy2 : y.links.length < 2 ^ 60) : PCalls Try.prog 38 [tpAV x fx, tpAV y fy] (.raw (.bool (decide (x = y)))) := by
  have h1 := intEqual_calls x.ports y.ports fx.p fy.p hx hy
  have h2 := lkEqual_calls x.links y.links fx.l fy.l hx2 hy2
  have e : decide (x = y) = (decide (x.ports = y.ports) && decide (x.links = y.links)) := by
    cases x; cases y; rw [Bool.eq_iff_iff]; simp
  rw [e]
  obtain ⟨b1, q1⟩ : ∃ b, decide (x.ports = y.ports) = b := ⟨_, rfl⟩
  obtain ⟨b2, q2⟩ : ∃ b, decide (x.links = y.links) = b := ⟨_, rfl⟩
  rw [q1] at h1 ⊢
  rw [q2] at h2 ⊢
  refine pbody Try.func38 rfl (N := 17) rfl rfl (by simp) (by simp [noIds]) fun σ => ?_
  have ho : ∀ z b, cellOK (intsAV z b) = true := fun _ _ => rfl
  have ho2 : ∀ z b, cellOK (linksAV z b) = true := fun _ _ => rfl
  simp only [cellOK] at ho ho2
  (try (first | (with_reducible refine dops_go ?_; simp [tp_cells, ho, ho2]) | (with_reducible refine OKv_go ?_; simp [tp_cells, ho, ho2]) | (with_reducible refine OKr_go ?_; simp [tp_cells, ho, ho2]))); repeat' (first | refine awp_seq ?_ | refine awp_block ?_ | (refine awp_skip ?_; try simp) | (refine awp_exit ?_; try simp) | (refine awp_ret ?_; try simp) | (refine retP_same (by simp) ?_; simp) | (refine retP_flat (by simp) (by simp) (by simp (maxDischargeDepth := 30) [tp_cells, ho, ho2]) ?_; simp) | (refine awp_reg ?_; simp [tp_cells, ho, ho2]) | (refine awp_drawT (fun _ => false) mixed (by decide +kernel) ?_; simp [tp_cells, ho, ho2]) | (refine guarded_split ?_ ?_ <;> (intro hg; simp only [hg]; simp [tp_cells, ho, ho2])) | (apply awp_cond_t; focus (simp [tp_cells, ho, ho2]; done)) | (apply awp_cond_f; focus (simp [tp_cells, ho, ho2]; done)) | (refine awp_cond ?_; simp [tp_cells, ho, ho2]; refine ⟨?_, ?_⟩ <;> intro hc))
  refine PCalls.use h1 ?_
  (try (first | (with_reducible refine dops_go ?_; simp [tp_cells, ho, ho2]) | (with_reducible refine OKv_go ?_; simp [tp_cells, ho, ho2]) | (with_reducible refine OKr_go ?_; simp [tp_cells, ho, ho2]))); repeat' (first | refine awp_seq ?_ | refine awp_block ?_ | (refine awp_skip ?_; try simp) | (refine awp_exit ?_; try simp) | (refine awp_ret ?_; try simp) | (refine retP_same (by simp) ?_; simp) | (refine retP_flat (by simp) (by simp) (by simp (maxDischargeDepth := 30) [tp_cells, ho, ho2]) ?_; simp) | (refine awp_reg ?_; simp [tp_cells, ho, ho2]) | (refine awp_drawT (fun _ => false) mixed (by decide +kernel) ?_; simp [tp_cells, ho, ho2]) | (refine guarded_split ?_ ?_ <;> (intro hg; simp only [hg]; simp [tp_cells, ho, ho2])) | (apply awp_cond_t; focus (simp [tp_cells, ho, ho2]; done)) | (apply awp_cond_f; focus (simp [tp_cells, ho, ho2]; done)) | (refine awp_cond ?_; simp [tp_cells, ho, ho2]; refine ⟨?_, ?_⟩ <;> intro hc))
  refine PCalls.use h2 ?_
  (try (first | (with_reducible refine dops_go ?_; simp [tp_cells, ho, ho2]) | (with_reducible refine OKv_go ?_; simp [tp_cells, ho, ho2]) | (with_reducible refine OKr_go ?_; simp [tp_cells, ho, ho2]))); repeat' (first | refine awp_seq ?_ | refine awp_block ?_ | (refine awp_skip ?_; try simp) | (refine awp_exit ?_; try simp) | (refine awp_ret ?_; try simp) | (refine retP_same (by simp) ?_; simp) | (refine retP_flat (by simp) (by simp) (by simp (maxDischargeDepth := 30) [tp_cells, ho, ho2]) ?_; simp) | (refine awp_reg ?_; simp [tp_cells, ho, ho2]) | (refine awp_drawT (fun _ => false) mixed (by decide +kernel) ?_; simp [tp_cells, ho, ho2]) | (refine guarded_split ?_ ?_ <;> (intro hg; simp only [hg]; simp [tp_cells, ho, ho2])) | (apply awp_cond_t; focus (simp [tp_cells, ho, ho2]; done)) | (apply awp_cond_f; focus (simp [tp_cells, ho, ho2]; done)) | (refine awp_cond ?_; simp [tp_cells, ho, ho2]; refine ⟨?_, ?_⟩ <;> intro hc))
theorem refHas_calls (t : Tp) (f : Fl) (p : Pt) (hl : t.ports.length < 2 ^ 60) : PCalls Try.prog 112 [tpAV t f, ptAV p] (.raw (.bool (hasB t p))) := by
  refine pbody Try.func112 rfl (N := 32) rfl rfl (by simp) (by simp [noIds]) fun σ => ?_
  by_cases h1 : 0 ≤ p.dev
  · obtain ⟨k, hk⟩ : ∃ k : Nat, p.dev = k := ⟨p.dev.toNat, by omega⟩
    by_cases h2 : k < t.ports.length
    · have hx : t.ports[k]? = some t.ports[k] := List.getElem?_eq_getElem h2
      (try (first | (with_reducible refine dops_go ?_; simp [tpAV, ptAV, intsAV, linksAV, iAV, hk, h2, hx]) | (with_reducible refine OKv_go ?_; simp [tpAV, ptAV, intsAV, linksAV, iAV, hk, h2, hx]) | (with_reducible refine OKr_go ?_; simp [tpAV, ptAV, intsAV, linksAV, iAV, hk, h2, hx]))); repeat' (first | refine awp_seq ?_ | refine awp_block ?_ | (refine awp_skip ?_; try simp) | (refine awp_exit ?_; try simp) | (refine awp_ret ?_; try simp) | (refine retP_same (by simp) ?_; simp) | (refine retP_flat (by simp) (by simp) (by simp (maxDischargeDepth := 30) [tpAV, ptAV, intsAV, linksAV, iAV, hk, h2, hx]) ?_; simp) | (refine awp_reg ?_; simp [tpAV, ptAV, intsAV, linksAV, iAV, hk, h2, hx]) | (refine awp_drawT (fun _ => false) mixed (by decide +kernel) ?_; simp [tpAV, ptAV, intsAV, linksAV, iAV, hk, h2, hx]) | (refine guarded_split ?_ ?_ <;> (intro hg; simp only [hg]; simp [tpAV, ptAV, intsAV, linksAV, iAV, hk, h2, hx])) | (apply awp_cond_t; focus (simp [tpAV, ptAV, intsAV, linksAV, iAV, hk, h2, hx]; done)) | (apply awp_cond_f; focus (simp [tpAV, ptAV, intsAV, linksAV, iAV, hk, h2, hx]; done)) | (refine awp_cond ?_; simp [tpAV, ptAV, intsAV, linksAV, iAV, hk, h2, hx]; refine ⟨?_, ?_⟩ <;> intro hc))
      all_goals (simp_all [hasB] <;> intros <;> omega)
    · have hx : t.ports[k]? = none := List.getElem?_eq_none (by omega)
      (try (first | (with_reducible refine dops_go ?_; simp [tpAV, ptAV, intsAV, linksAV, iAV, hk, h2, hx]) | (with_reducible refine OKv_go ?_; simp [tpAV, ptAV, intsAV, linksAV, iAV, hk, h2, hx]) | (with_reducible refine OKr_go ?_; simp [tpAV, ptAV, intsAV, linksAV, iAV, hk, h2, hx]))); repeat' (first | refine awp_seq ?_ | refine awp_block ?_ | (refine awp_skip ?_; try simp) | (refine awp_exit ?_; try simp) | (refine awp_ret ?_; try simp) | (refine retP_same (by simp) ?_; simp) | (refine retP_flat (by simp) (by simp) (by simp (maxDischargeDepth := 30) [tpAV, ptAV, intsAV, linksAV, iAV, hk, h2, hx]) ?_; simp) | (refine awp_reg ?_; simp [tpAV, ptAV, intsAV, linksAV, iAV, hk, h2, hx]) | (refine awp_drawT (fun _ => false) mixed (by decide +kernel) ?_; simp [tpAV, ptAV, intsAV, linksAV, iAV, hk, h2, hx]) | (refine guarded_split ?_ ?_ <;> (intro hg; simp only [hg]; simp [tpAV, ptAV, intsAV, linksAV, iAV, hk, h2, hx])) | (apply awp_cond_t; focus (simp [tpAV, ptAV, intsAV, linksAV, iAV, hk, h2, hx]; done)) | (apply awp_cond_f; focus (simp [tpAV, ptAV, intsAV, linksAV, iAV, hk, h2, hx]; done)) | (refine awp_cond ?_; simp [tpAV, ptAV, intsAV, linksAV, iAV, hk, h2, hx]; refine ⟨?_, ?_⟩ <;> intro hc))
      all_goals (simp_all [hasB] <;> intros <;> omega)
  · (try (first | (with_reducible refine dops_go ?_; simp [tpAV, ptAV, intsAV, linksAV, iAV, h1]) | (with_reducible refine OKv_go ?_; simp [tpAV, ptAV, intsAV, linksAV, iAV, h1]) | (with_reducible refine OKr_go ?_; simp [tpAV, ptAV, intsAV, linksAV, iAV, h1]))); repeat' (first | refine awp_seq ?_ | refine awp_block ?_ | (refine awp_skip ?_; try simp) | (refine awp_exit ?_; try simp) | (refine awp_ret ?_; try simp) | (refine retP_same (by simp) ?_; simp) | (refine retP_flat (by simp) (by simp) (by simp (maxDischargeDepth := 30) [tpAV, ptAV, intsAV, linksAV, iAV, h1]) ?_; simp) | (refine awp_reg ?_; simp [tpAV, ptAV, intsAV, linksAV, iAV, h1]) | (refine awp_drawT (fun _ => false) mixed (by decide +kernel) ?_; simp [tpAV, ptAV, intsAV, linksAV, iAV, h1]) | (refine guarded_split ?_ ?_ <;> (intro hg; simp only [hg]; simp [tpAV, ptAV, intsAV, linksAV, iAV, h1])) | (apply awp_cond_t; focus (simp [tpAV, ptAV, intsAV, linksAV, iAV, h1]; done)) | (apply awp_cond_f; focus (simp [tpAV, ptAV, intsAV, linksAV, iAV, h1]; done)) | (refine awp_cond ?_; simp [tpAV, ptAV, intsAV, linksAV, iAV, h1]; refine ⟨?_, ?_⟩ <;> intro hc))
    all_goals (simp_all [hasB] <;> intros <;> omega)
theorem refFits_calls (t : Tp) (f : Fl) (l : List Ru) (g : Bool) (hl : t.ports.length < 2 ^ 60) (hl2 : l.length < 2 ^ 60) : PCalls Try.prog 82 [tpAV t f, rulesAV l g] (.raw (.bool (fitsB t l))) := by
  refine pbody Try.func82 rfl (N := 28) rfl rfl (by simp) (by simp [noIds]) fun σ => ?_
  have ho1 : cellOK (intsAV t.ports f.p) = true := rfl
  have ho2 : cellOK (linksAV t.links f.l) = true := rfl
  simp only [cellOK] at ho1 ho2
  (try (first | (with_reducible refine dops_go ?_; simp [tp_cells, ho1, ho2]) | (with_reducible refine OKv_go ?_; simp [tp_cells, ho1, ho2]) | (with_reducible refine OKr_go ?_; simp [tp_cells, ho1, ho2]))); repeat' (first | refine awp_seq ?_ | refine awp_block ?_ | (refine awp_skip ?_; try simp) | (refine awp_exit ?_; try simp) | (refine awp_ret ?_; try simp) | (refine retP_same (by simp) ?_; simp) | (refine retP_flat (by simp) (by simp) (by simp (maxDischargeDepth := 30) [tp_cells, ho1, ho2]) ?_; simp) | (refine awp_reg ?_; simp [tp_cells, ho1, ho2]) | (refine awp_drawT (fun _ => false) mixed (by decide +kernel) ?_; simp [tp_cells, ho1, ho2]) | (refine guarded_split ?_ ?_ <;> (intro hg; simp only [hg]; simp [tp_cells, ho1, ho2])) | (apply awp_cond_t; focus (simp [tp_cells, ho1, ho2]; done)) | (apply awp_cond_f; focus (simp [tp_cells, ho1, ho2]; done)) | (refine awp_cond ?_; simp [tp_cells, ho1, ho2]; refine ⟨?_, ?_⟩ <;> intro hc))
  refine awp_loopH (fun n A τ => τ = σ.new 2 2 (.buf [tpAV t f]) ∧ A 1 = rulesAV l g ∧ A 2 = .rp ⟨2, σ.nx 2, 2⟩ 0 0 ∧ ∃ i : Nat, A 5 = .raw (.int .i64 i) ∧ i ≤ l.length ∧ n = l.length - i ∧ ∀ r ∈ l.take i, hasB t ⟨r.dev, r.port⟩ = true) l.length ?_ ?_
  · exact ⟨rfl, by simp, by simp, 0, by simp, by omega, by omega, by simp⟩
  rintro n A τ ⟨rfl, a1, a2, i, a5, hi, rfl, hok⟩ I1 hI1
  by_cases hlt : i < l.length
  · have hx : l[i]? = some l[i] := List.getElem?_eq_getElem hlt
    have w1 : IntKind.i64.wrap ((i : Int) + 1) = ((i + 1 : Nat) : Int) := by rw [wrap64 (by omega) (by omega)]; omega
    obtain ⟨b, hb⟩ : ∃ b, hasB t ⟨l[i].dev, l[i].port⟩ = b := ⟨_, rfl⟩
    have hc := hb ▸ refHas_calls t f ⟨l[i].dev, l[i].port⟩ hl
    (try (first | (with_reducible refine dops_go ?_; simp [rulesAV, a1, a2, a5, hlt, hx, tp_cells, tp_fold, ru_cells, ruPort_fold, ho1, ho2, w1]) | (with_reducible refine OKv_go ?_; simp [rulesAV, a1, a2, a5, hlt, hx, tp_cells, tp_fold, ru_cells, ruPort_fold, ho1, ho2, w1]) | (with_reducible refine OKr_go ?_; simp [rulesAV, a1, a2, a5, hlt, hx, tp_cells, tp_fold, ru_cells, ruPort_fold, ho1, ho2, w1]))); repeat' (first | refine awp_seq ?_ | refine awp_block ?_ | (refine awp_skip ?_; try simp) | (refine awp_exit ?_; try simp) | (refine awp_ret ?_; try simp) | (refine retP_same (by simp) ?_; simp) | (refine retP_flat (by simp) (by simp) (by simp (maxDischargeDepth := 30) [rulesAV, a1, a2, a5, hlt, hx, tp_cells, tp_fold, ru_cells, ruPort_fold, ho1, ho2, w1]) ?_; simp) | (refine awp_reg ?_; simp [rulesAV, a1, a2, a5, hlt, hx, tp_cells, tp_fold, ru_cells, ruPort_fold, ho1, ho2, w1]) | (refine awp_drawT (fun _ => false) mixed (by decide +kernel) ?_; simp [rulesAV, a1, a2, a5, hlt, hx, tp_cells, tp_fold, ru_cells, ruPort_fold, ho1, ho2, w1]) | (refine guarded_split ?_ ?_ <;> (intro hg; simp only [hg]; simp [rulesAV, a1, a2, a5, hlt, hx, tp_cells, tp_fold, ru_cells, ruPort_fold, ho1, ho2, w1])) | (apply awp_cond_t; focus (simp [rulesAV, a1, a2, a5, hlt, hx, tp_cells, tp_fold, ru_cells, ruPort_fold, ho1, ho2, w1]; done)) | (apply awp_cond_f; focus (simp [rulesAV, a1, a2, a5, hlt, hx, tp_cells, tp_fold, ru_cells, ruPort_fold, ho1, ho2, w1]; done)) | (refine awp_cond ?_; simp [rulesAV, a1, a2, a5, hlt, hx, tp_cells, tp_fold, ru_cells, ruPort_fold, ho1, ho2, w1]; refine ⟨?_, ?_⟩ <;> intro hc))
    refine PCalls.use hc ?_
    cases b with
    | true =>
      (try (first | (with_reducible refine dops_go ?_; simp [rulesAV, a1, a2, a5, hlt, hx, tp_cells, tp_fold, ru_cells, ruPort_fold, ho1, ho2, w1]) | (with_reducible refine OKv_go ?_; simp [rulesAV, a1, a2, a5, hlt, hx, tp_cells, tp_fold, ru_cells, ruPort_fold, ho1, ho2, w1]) | (with_reducible refine OKr_go ?_; simp [rulesAV, a1, a2, a5, hlt, hx, tp_cells, tp_fold, ru_cells, ruPort_fold, ho1, ho2, w1]))); repeat' (first | refine awp_seq ?_ | refine awp_block ?_ | (refine awp_skip ?_; try simp) | (refine awp_exit ?_; try simp) | (refine awp_ret ?_; try simp) | (refine retP_same (by simp) ?_; simp) | (refine retP_flat (by simp) (by simp) (by simp (maxDischargeDepth := 30) [rulesAV, a1, a2, a5, hlt, hx, tp_cells, tp_fold, ru_cells, ruPort_fold, ho1, ho2, w1]) ?_; simp) | (refine awp_reg ?_; simp [rulesAV, a1, a2, a5, hlt, hx, tp_cells, tp_fold, ru_cells, ruPort_fold, ho1, ho2, w1]) | (refine awp_drawT (fun _ => false) mixed (by decide +kernel) ?_; simp [rulesAV, a1, a2, a5, hlt, hx, tp_cells, tp_fold, ru_cells, ruPort_fold, ho1, ho2, w1]) | (refine guarded_split ?_ ?_ <;> (intro hg; simp only [hg]; simp [rulesAV, a1, a2, a5, hlt, hx, tp_cells, tp_fold, ru_cells, ruPort_fold, ho1, ho2, w1])) | (apply awp_cond_t; focus (simp [rulesAV, a1, a2, a5, hlt, hx, tp_cells, tp_fold, ru_cells, ruPort_fold, ho1, ho2, w1]; done)) | (apply awp_cond_f; focus (simp [rulesAV, a1, a2, a5, hlt, hx, tp_cells, tp_fold, ru_cells, ruPort_fold, ho1, ho2, w1]; done)) | (refine awp_cond ?_; simp [rulesAV, a1, a2, a5, hlt, hx, tp_cells, tp_fold, ru_cells, ruPort_fold, ho1, ho2, w1]; refine ⟨?_, ?_⟩ <;> intro hc))
      refine hI1 (l.length - (i + 1)) _ _ (by omega) ⟨by simp, by simp [a1, rulesAV], by simp [a2], i + 1, by simp [w1], by omega, rfl, fun r hr => ?_⟩
      rw [List.take_add_one, hx] at hr
      rcases List.mem_append.1 hr with hr | hr
      · exact hok r hr
      · simp at hr; subst hr; exact hb
    | false =>
      have hf : fitsB t l = false := by
        unfold fitsB
        rw [List.any_eq_true.2 ⟨l[i], List.getElem_mem _, by simp [hb]⟩]; rfl
      (try (first | (with_reducible refine dops_go ?_; simp [rulesAV, a1, a2, a5, hlt, hx, tp_cells, tp_fold, ru_cells, ruPort_fold, ho1, ho2, w1]) | (with_reducible refine OKv_go ?_; simp [rulesAV, a1, a2, a5, hlt, hx, tp_cells, tp_fold, ru_cells, ruPort_fold, ho1, ho2, w1]) | (with_reducible refine OKr_go ?_; simp [rulesAV, a1, a2, a5, hlt, hx, tp_cells, tp_fold, ru_cells, ruPort_fold, ho1, ho2, w1]))); repeat' (first | refine awp_seq ?_ | refine awp_block ?_ | (refine awp_skip ?_; try simp) | (refine awp_exit ?_; try simp) | (refine awp_ret ?_; try simp) | (refine retP_same (by simp) ?_; simp) | (refine retP_flat (by simp) (by simp) (by simp (maxDischargeDepth := 30) [rulesAV, a1, a2, a5, hlt, hx, tp_cells, tp_fold, ru_cells, ruPort_fold, ho1, ho2, w1]) ?_; simp) | (refine awp_reg ?_; simp [rulesAV, a1, a2, a5, hlt, hx, tp_cells, tp_fold, ru_cells, ruPort_fold, ho1, ho2, w1]) | (refine awp_drawT (fun _ => false) mixed (by decide +kernel) ?_; simp [rulesAV, a1, a2, a5, hlt, hx, tp_cells, tp_fold, ru_cells, ruPort_fold, ho1, ho2, w1]) | (refine guarded_split ?_ ?_ <;> (intro hg; simp only [hg]; simp [rulesAV, a1, a2, a5, hlt, hx, tp_cells, tp_fold, ru_cells, ruPort_fold, ho1, ho2, w1])) | (apply awp_cond_t; focus (simp [rulesAV, a1, a2, a5, hlt, hx, tp_cells, tp_fold, ru_cells, ruPort_fold, ho1, ho2, w1]; done)) | (apply awp_cond_f; focus (simp [rulesAV, a1, a2, a5, hlt, hx, tp_cells, tp_fold, ru_cells, ruPort_fold, ho1, ho2, w1]; done)) | (refine awp_cond ?_; simp [rulesAV, a1, a2, a5, hlt, hx, tp_cells, tp_fold, ru_cells, ruPort_fold, ho1, ho2, w1]; refine ⟨?_, ?_⟩ <;> intro hc))
      exact hf
  · have : i = l.length := by omega
    subst this
    rw [List.take_length] at hok
    have hf : fitsB t l = true := by
      unfold fitsB
      rw [List.any_eq_false.2 (fun r hr => by simp [hok r hr])]; rfl
    (try (first | (with_reducible refine dops_go ?_; simp [rulesAV, a1, a2, a5]) | (with_reducible refine OKv_go ?_; simp [rulesAV, a1, a2, a5]) | (with_reducible refine OKr_go ?_; simp [rulesAV, a1, a2, a5]))); repeat' (first | refine awp_seq ?_ | refine awp_block ?_ | (refine awp_skip ?_; try simp) | (refine awp_exit ?_; try simp) | (refine awp_ret ?_; try simp) | (refine retP_same (by simp) ?_; simp) | (refine retP_flat (by simp) (by simp) (by simp (maxDischargeDepth := 30) [rulesAV, a1, a2, a5]) ?_; simp) | (refine awp_reg ?_; simp [rulesAV, a1, a2, a5]) | (refine awp_drawT (fun _ => false) mixed (by decide +kernel) ?_; simp [rulesAV, a1, a2, a5]) | (refine guarded_split ?_ ?_ <;> (intro hg; simp only [hg]; simp [rulesAV, a1, a2, a5])) | (apply awp_cond_t; focus (simp [rulesAV, a1, a2, a5]; done)) | (apply awp_cond_f; focus (simp [rulesAV, a1, a2, a5]; done)) | (refine awp_cond ?_; simp [rulesAV, a1, a2, a5]; refine ⟨?_, ?_⟩ <;> intro hc))
    exact hf
end Go.Proofs.Ytanimmdlgmkmkaa.Av
