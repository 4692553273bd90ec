/- Facts about the types and functions of this seat, for the abstract machine (written by gentypes.py). -/
import Derived.Test.YtmhnmookgbmmbaaSu
import Derived.Test.YtmhnmookgbmmbaaProg
import Derived.KernelRfl
set_option maxRecDepth 8000
namespace Go.Proofs
open Go.AM
theorem mixed : Try.prog.follows .mixedOrders = true := by kernel_rfl
@[go_sem] theorem ty1 : tyv Try.prog 1 = some (false, 1) := by kernel_rfl
@[go_sem] theorem sl1 : slv Try.prog 1 = none := by kernel_rfl
@[go_sem] theorem zv1 : zv Try.prog 1 = some (.sc .nilFunc) := by kernel_rfl
@[go_sem] theorem zo1 : zok Try.prog 1 1 := by simp only [zok, zv1]; rfl
@[go_sem] theorem ty2 : tyv Try.prog 2 = some (false, 1) := by kernel_rfl
@[go_sem] theorem un2 : Try.prog.underlying 2 = some (.int .i64) := by kernel_rfl
@[go_sem] theorem sl2 : slv Try.prog 2 = none := by kernel_rfl
@[go_sem] theorem zv2 : zv Try.prog 2 = some (.sc (.int .i64 0)) := by kernel_rfl
@[go_sem] theorem zo2 : zok Try.prog 2 1 := by simp only [zok, zv2]; rfl
@[go_sem] theorem ty3 : tyv Try.prog 3 = some (false, 1) := by kernel_rfl
@[go_sem] theorem un3 : Try.prog.underlying 3 = some (.int .i64) := by kernel_rfl
@[go_sem] theorem sl3 : slv Try.prog 3 = none := by kernel_rfl
@[go_sem] theorem zv3 : zv Try.prog 3 = some (.sc (.int .i64 0)) := by kernel_rfl
@[go_sem] theorem zo3 : zok Try.prog 3 1 := by simp only [zok, zv3]; rfl
@[go_sem] theorem ty4 : tyv Try.prog 4 = some (false, 1) := by kernel_rfl
@[go_sem] theorem un4 : Try.prog.underlying 4 = some .bool := by kernel_rfl
@[go_sem] theorem sl4 : slv Try.prog 4 = none := by kernel_rfl
@[go_sem] theorem zv4 : zv Try.prog 4 = some (.sc (.bool false)) := by kernel_rfl
@[go_sem] theorem zo4 : zok Try.prog 4 1 := by simp only [zok, zv4]; rfl
@[go_sem] theorem ty5 : tyv Try.prog 5 = some (false, 1) := by kernel_rfl
@[go_sem] theorem un5 : Try.prog.underlying 5 = some (.int .u8) := by kernel_rfl
@[go_sem] theorem sl5 : slv Try.prog 5 = none := by kernel_rfl
@[go_sem] theorem zv5 : zv Try.prog 5 = some (.sc (.int .u8 0)) := by kernel_rfl
@[go_sem] theorem zo5 : zok Try.prog 5 1 := by simp only [zok, zv5]; rfl
@[go_sem] theorem ty7 : tyv Try.prog 7 = some (true, 4) := by kernel_rfl
@[go_sem] theorem sl7 : slv Try.prog 7 = none := by kernel_rfl
@[go_sem] theorem fl7_0 : fldv Try.prog 7 0 = some (0, false, 1) := by kernel_rfl
@[go_sem] theorem fl7_1 : fldv Try.prog 7 1 = some (1, false, 1) := by kernel_rfl
@[go_sem] theorem fl7_2 : fldv Try.prog 7 2 = some (2, false, 1) := by kernel_rfl
@[go_sem] theorem fl7_3 : fldv Try.prog 7 3 = some (3, false, 1) := by kernel_rfl
@[go_sem] theorem pl7 : places Try.prog 7 = some [(0, 1), (1, 1), (2, 1), (3, 1)] := by kernel_rfl
@[go_sem] theorem zv7 : zv Try.prog 7 = some (.agg [.sc (.int .i64 0), .sc (.int .i64 0), .sc (.bool false), .sc (.int .u8 0)]) := by kernel_rfl
@[go_sem] theorem zo7 : zok Try.prog 7 4 := by simp only [zok, zv7]; rfl
@[go_sem] theorem ty9 : tyv Try.prog 9 = some (false, 1) := by kernel_rfl
@[go_sem] theorem un9 : Try.prog.underlying 9 = some .string := by kernel_rfl
@[go_sem] theorem sl9 : slv Try.prog 9 = none := by kernel_rfl
@[go_sem] theorem ar9 : arv Try.prog 9 = none := by kernel_rfl
@[go_sem] theorem zv9 : zv Try.prog 9 = some (.sc (.string ByteArray.empty)) := by kernel_rfl
@[go_sem] theorem zo9 : zok Try.prog 9 1 := by simp only [zok, zv9]; rfl
@[go_sem] theorem ty12 : tyv Try.prog 12 = some (false, 1) := by kernel_rfl
@[go_sem] theorem un12 : Try.prog.underlying 12 = some (.int .u64) := by kernel_rfl
@[go_sem] theorem sl12 : slv Try.prog 12 = none := by kernel_rfl
@[go_sem] theorem zv12 : zv Try.prog 12 = some (.sc (.int .u64 0)) := by kernel_rfl
@[go_sem] theorem zo12 : zok Try.prog 12 1 := by simp only [zok, zv12]; rfl
@[go_sem] theorem ty13 : tyv Try.prog 13 = some (true, 2) := by kernel_rfl
@[go_sem] theorem sl13 : slv Try.prog 13 = none := by kernel_rfl
@[go_sem] theorem fl13_0 : fldv Try.prog 13 0 = some (0, false, 1) := by kernel_rfl
@[go_sem] theorem fl13_1 : fldv Try.prog 13 1 = some (1, false, 1) := by kernel_rfl
@[go_sem] theorem pl13 : places Try.prog 13 = some [(0, 1), (1, 1)] := by kernel_rfl
@[go_sem] theorem zv13 : zv Try.prog 13 = some (.agg [.sc (.string ByteArray.empty), .sc (.int .u64 0)]) := by kernel_rfl
@[go_sem] theorem zo13 : zok Try.prog 13 2 := by simp only [zok, zv13]; rfl
@[go_sem] theorem ty15 : tyv Try.prog 15 = some (false, 1) := by kernel_rfl
@[go_sem] theorem sl15 : slv Try.prog 15 = none := by kernel_rfl
@[go_sem] theorem zv15 : zv Try.prog 15 = some (.sc (.pointer none)) := by kernel_rfl
@[go_sem] theorem zo15 : zok Try.prog 15 1 := by simp only [zok, zv15]; rfl
@[go_sem] theorem ty16 : tyv Try.prog 16 = some (false, 1) := by kernel_rfl
@[go_sem] theorem sl16 : slv Try.prog 16 = none := by kernel_rfl
@[go_sem] theorem zv16 : zv Try.prog 16 = some (.sc (.pointer none)) := by kernel_rfl
@[go_sem] theorem zo16 : zok Try.prog 16 1 := by simp only [zok, zv16]; rfl
@[go_sem] theorem ty17 : tyv Try.prog 17 = some (false, 1) := by kernel_rfl
@[go_sem] theorem sl17 : slv Try.prog 17 = none := by kernel_rfl
@[go_sem] theorem zv17 : zv Try.prog 17 = some (.sc (.pointer none)) := by kernel_rfl
@[go_sem] theorem zo17 : zok Try.prog 17 1 := by simp only [zok, zv17]; rfl
@[go_sem] theorem ty18 : tyv Try.prog 18 = some (true, 1) := by kernel_rfl
@[go_sem] theorem sl18 : slv Try.prog 18 = none := by kernel_rfl
@[go_sem] theorem fl18_0 : fldv Try.prog 18 0 = some (0, false, 1) := by kernel_rfl
@[go_sem] theorem pl18 : places Try.prog 18 = some [(0, 1)] := by kernel_rfl
@[go_sem] theorem zv18 : zv Try.prog 18 = some (.agg [.sc (.pointer none)]) := by kernel_rfl
@[go_sem] theorem zo18 : zok Try.prog 18 1 := by simp only [zok, zv18]; rfl
@[go_sem] theorem ty21 : tyv Try.prog 21 = some (false, 1) := by kernel_rfl
@[go_sem] theorem un21 : Try.prog.underlying 21 = some (.int .i32) := by kernel_rfl
@[go_sem] theorem sl21 : slv Try.prog 21 = none := by kernel_rfl
@[go_sem] theorem zv21 : zv Try.prog 21 = some (.sc (.int .i32 0)) := by kernel_rfl
@[go_sem] theorem zo21 : zok Try.prog 21 1 := by simp only [zok, zv21]; rfl
@[go_sem] theorem ty22 : tyv Try.prog 22 = some (false, 1) := by kernel_rfl
@[go_sem] theorem sl22 : slv Try.prog 22 = some (3, 1, 8) := by kernel_rfl
@[go_sem] theorem zv22 : zv Try.prog 22 = some (.sc (.slice none 0 0)) := by kernel_rfl
@[go_sem] theorem zo22 : zok Try.prog 22 1 := by simp only [zok, zv22]; rfl
@[go_sem] theorem ty23 : tyv Try.prog 23 = some (false, 1) := by kernel_rfl
@[go_sem] theorem sl23 : slv Try.prog 23 = some (55, 3, 40) := by kernel_rfl
@[go_sem] theorem zv23 : zv Try.prog 23 = some (.sc (.slice none 0 0)) := by kernel_rfl
@[go_sem] theorem zo23 : zok Try.prog 23 1 := by simp only [zok, zv23]; rfl
@[go_sem] theorem ty24 : tyv Try.prog 24 = some (false, 1) := by kernel_rfl
@[go_sem] theorem sl24 : slv Try.prog 24 = some (55, 3, 40) := by kernel_rfl
@[go_sem] theorem zv24 : zv Try.prog 24 = some (.sc (.slice none 0 0)) := by kernel_rfl
@[go_sem] theorem zo24 : zok Try.prog 24 1 := by simp only [zok, zv24]; rfl
@[go_sem] theorem ty25 : tyv Try.prog 25 = some (false, 1) := by kernel_rfl
@[go_sem] theorem sl25 : slv Try.prog 25 = none := by kernel_rfl
@[go_sem] theorem zv25 : zv Try.prog 25 = some (.sc .nilFunc) := by kernel_rfl
@[go_sem] theorem zo25 : zok Try.prog 25 1 := by simp only [zok, zv25]; rfl
@[go_sem] theorem ty26 : tyv Try.prog 26 = some (false, 1) := by kernel_rfl
@[go_sem] theorem sl26 : slv Try.prog 26 = none := by kernel_rfl
@[go_sem] theorem zv26 : zv Try.prog 26 = some (.sc .nilFunc) := by kernel_rfl
@[go_sem] theorem zo26 : zok Try.prog 26 1 := by simp only [zok, zv26]; rfl
@[go_sem] theorem ty27 : tyv Try.prog 27 = some (false, 1) := by kernel_rfl
@[go_sem] theorem sl27 : slv Try.prog 27 = none := by kernel_rfl
@[go_sem] theorem zv27 : zv Try.prog 27 = some (.sc .nilFunc) := by kernel_rfl
@[go_sem] theorem zo27 : zok Try.prog 27 1 := by simp only [zok, zv27]; rfl
@[go_sem] theorem ty28 : tyv Try.prog 28 = some (false, 1) := by kernel_rfl
@[go_sem] theorem sl28 : slv Try.prog 28 = some (24, 1, 24) := by kernel_rfl
@[go_sem] theorem zv28 : zv Try.prog 28 = some (.sc (.slice none 0 0)) := by kernel_rfl
@[go_sem] theorem zo28 : zok Try.prog 28 1 := by simp only [zok, zv28]; rfl
@[go_sem] theorem ty29 : tyv Try.prog 29 = some (false, 1) := by kernel_rfl
@[go_sem] theorem sl29 : slv Try.prog 29 = some (73, 2, 16) := by kernel_rfl
@[go_sem] theorem zv29 : zv Try.prog 29 = some (.sc (.slice none 0 0)) := by kernel_rfl
@[go_sem] theorem zo29 : zok Try.prog 29 1 := by simp only [zok, zv29]; rfl
@[go_sem] theorem ty30 : tyv Try.prog 30 = some (true, 2) := by kernel_rfl
@[go_sem] theorem sl30 : slv Try.prog 30 = none := by kernel_rfl
@[go_sem] theorem fl30_0 : fldv Try.prog 30 0 = some (0, false, 1) := by kernel_rfl
@[go_sem] theorem fl30_1 : fldv Try.prog 30 1 = some (1, false, 1) := by kernel_rfl
@[go_sem] theorem pl30 : places Try.prog 30 = some [(0, 1), (1, 1)] := by kernel_rfl
@[go_sem] theorem zv30 : zv Try.prog 30 = some (.agg [.sc (.slice none 0 0), .sc (.slice none 0 0)]) := by kernel_rfl
@[go_sem] theorem zo30 : zok Try.prog 30 2 := by simp only [zok, zv30]; rfl
@[go_sem] theorem ty31 : tyv Try.prog 31 = some (true, 2) := by kernel_rfl
@[go_sem] theorem sl31 : slv Try.prog 31 = none := by kernel_rfl
@[go_sem] theorem fl31_0 : fldv Try.prog 31 0 = some (0, false, 1) := by kernel_rfl
@[go_sem] theorem fl31_1 : fldv Try.prog 31 1 = some (1, false, 1) := by kernel_rfl
@[go_sem] theorem pl31 : places Try.prog 31 = some [(0, 1), (1, 1)] := by kernel_rfl
@[go_sem] theorem zv31 : zv Try.prog 31 = some (.agg [.sc (.slice none 0 0), .sc (.slice none 0 0)]) := by kernel_rfl
@[go_sem] theorem zo31 : zok Try.prog 31 2 := by simp only [zok, zv31]; rfl
@[go_sem] theorem ty32 : tyv Try.prog 32 = some (false, 1) := by kernel_rfl
@[go_sem] theorem sl32 : slv Try.prog 32 = none := by kernel_rfl
@[go_sem] theorem zv32 : zv Try.prog 32 = some (.sc .nilFunc) := by kernel_rfl
@[go_sem] theorem zo32 : zok Try.prog 32 1 := by simp only [zok, zv32]; rfl
@[go_sem] theorem ty33 : tyv Try.prog 33 = some (false, 1) := by kernel_rfl
@[go_sem] theorem sl33 : slv Try.prog 33 = none := by kernel_rfl
@[go_sem] theorem zv33 : zv Try.prog 33 = some (.sc .nilFunc) := by kernel_rfl
@[go_sem] theorem zo33 : zok Try.prog 33 1 := by simp only [zok, zv33]; rfl
@[go_sem] theorem ty34 : tyv Try.prog 34 = some (false, 1) := by kernel_rfl
@[go_sem] theorem sl34 : slv Try.prog 34 = none := by kernel_rfl
@[go_sem] theorem zv34 : zv Try.prog 34 = some (.sc .nilFunc) := by kernel_rfl
@[go_sem] theorem zo34 : zok Try.prog 34 1 := by simp only [zok, zv34]; rfl
@[go_sem] theorem ty35 : tyv Try.prog 35 = some (false, 1) := by kernel_rfl
@[go_sem] theorem sl35 : slv Try.prog 35 = none := by kernel_rfl
@[go_sem] theorem zv35 : zv Try.prog 35 = some (.sc .nilFunc) := by kernel_rfl
@[go_sem] theorem zo35 : zok Try.prog 35 1 := by simp only [zok, zv35]; rfl
@[go_sem] theorem ty36 : tyv Try.prog 36 = some (false, 1) := by kernel_rfl
@[go_sem] theorem sl36 : slv Try.prog 36 = none := by kernel_rfl
@[go_sem] theorem zv36 : zv Try.prog 36 = some (.sc .nilFunc) := by kernel_rfl
@[go_sem] theorem zo36 : zok Try.prog 36 1 := by simp only [zok, zv36]; rfl
@[go_sem] theorem ty37 : tyv Try.prog 37 = some (false, 1) := by kernel_rfl
@[go_sem] theorem sl37 : slv Try.prog 37 = none := by kernel_rfl
@[go_sem] theorem zv37 : zv Try.prog 37 = some (.sc .nilFunc) := by kernel_rfl
@[go_sem] theorem zo37 : zok Try.prog 37 1 := by simp only [zok, zv37]; rfl
@[go_sem] theorem ty38 : tyv Try.prog 38 = some (false, 1) := by kernel_rfl
@[go_sem] theorem sl38 : slv Try.prog 38 = none := by kernel_rfl
@[go_sem] theorem zv38 : zv Try.prog 38 = some (.sc .nilFunc) := by kernel_rfl
@[go_sem] theorem zo38 : zok Try.prog 38 1 := by simp only [zok, zv38]; rfl
@[go_sem] theorem ty39 : tyv Try.prog 39 = some (false, 1) := by kernel_rfl
@[go_sem] theorem sl39 : slv Try.prog 39 = none := by kernel_rfl
@[go_sem] theorem zv39 : zv Try.prog 39 = some (.sc .nilFunc) := by kernel_rfl
@[go_sem] theorem zo39 : zok Try.prog 39 1 := by simp only [zok, zv39]; rfl
@[go_sem] theorem ty40 : tyv Try.prog 40 = some (false, 1) := by kernel_rfl
@[go_sem] theorem sl40 : slv Try.prog 40 = none := by kernel_rfl
@[go_sem] theorem zv40 : zv Try.prog 40 = some (.sc .nilFunc) := by kernel_rfl
@[go_sem] theorem zo40 : zok Try.prog 40 1 := by simp only [zok, zv40]; rfl
@[go_sem] theorem ty41 : tyv Try.prog 41 = some (false, 1) := by kernel_rfl
@[go_sem] theorem sl41 : slv Try.prog 41 = some (22, 1, 24) := by kernel_rfl
@[go_sem] theorem zv41 : zv Try.prog 41 = some (.sc (.slice none 0 0)) := by kernel_rfl
@[go_sem] theorem zo41 : zok Try.prog 41 1 := by simp only [zok, zv41]; rfl
@[go_sem] theorem ty42 : tyv Try.prog 42 = some (false, 1) := by kernel_rfl
@[go_sem] theorem sl42 : slv Try.prog 42 = none := by kernel_rfl
@[go_sem] theorem zv42 : zv Try.prog 42 = some (.sc .nilFunc) := by kernel_rfl
@[go_sem] theorem zo42 : zok Try.prog 42 1 := by simp only [zok, zv42]; rfl
@[go_sem] theorem ty43 : tyv Try.prog 43 = some (false, 1) := by kernel_rfl
@[go_sem] theorem sl43 : slv Try.prog 43 = none := by kernel_rfl
@[go_sem] theorem zv43 : zv Try.prog 43 = some (.sc .nilFunc) := by kernel_rfl
@[go_sem] theorem zo43 : zok Try.prog 43 1 := by simp only [zok, zv43]; rfl
@[go_sem] theorem ty44 : tyv Try.prog 44 = some (false, 1) := by kernel_rfl
@[go_sem] theorem sl44 : slv Try.prog 44 = none := by kernel_rfl
@[go_sem] theorem zv44 : zv Try.prog 44 = some (.sc .nilFunc) := by kernel_rfl
@[go_sem] theorem zo44 : zok Try.prog 44 1 := by simp only [zok, zv44]; rfl
@[go_sem] theorem ty45 : tyv Try.prog 45 = some (false, 1) := by kernel_rfl
@[go_sem] theorem sl45 : slv Try.prog 45 = none := by kernel_rfl
@[go_sem] theorem zv45 : zv Try.prog 45 = some (.sc .nilFunc) := by kernel_rfl
@[go_sem] theorem zo45 : zok Try.prog 45 1 := by simp only [zok, zv45]; rfl
@[go_sem] theorem ty46 : tyv Try.prog 46 = some (false, 1) := by kernel_rfl
@[go_sem] theorem sl46 : slv Try.prog 46 = none := by kernel_rfl
@[go_sem] theorem zv46 : zv Try.prog 46 = some (.sc .nilFunc) := by kernel_rfl
@[go_sem] theorem zo46 : zok Try.prog 46 1 := by simp only [zok, zv46]; rfl
@[go_sem] theorem ty47 : tyv Try.prog 47 = some (false, 1) := by kernel_rfl
@[go_sem] theorem sl47 : slv Try.prog 47 = none := by kernel_rfl
@[go_sem] theorem zv47 : zv Try.prog 47 = some (.sc .nilFunc) := by kernel_rfl
@[go_sem] theorem zo47 : zok Try.prog 47 1 := by simp only [zok, zv47]; rfl
@[go_sem] theorem ty48 : tyv Try.prog 48 = some (false, 1) := by kernel_rfl
@[go_sem] theorem sl48 : slv Try.prog 48 = none := by kernel_rfl
@[go_sem] theorem zv48 : zv Try.prog 48 = some (.sc .nilFunc) := by kernel_rfl
@[go_sem] theorem zo48 : zok Try.prog 48 1 := by simp only [zok, zv48]; rfl
@[go_sem] theorem ty49 : tyv Try.prog 49 = some (false, 1) := by kernel_rfl
@[go_sem] theorem sl49 : slv Try.prog 49 = none := by kernel_rfl
@[go_sem] theorem zv49 : zv Try.prog 49 = some (.sc .nilFunc) := by kernel_rfl
@[go_sem] theorem zo49 : zok Try.prog 49 1 := by simp only [zok, zv49]; rfl
@[go_sem] theorem ty50 : tyv Try.prog 50 = some (false, 1) := by kernel_rfl
@[go_sem] theorem sl50 : slv Try.prog 50 = none := by kernel_rfl
@[go_sem] theorem zv50 : zv Try.prog 50 = some (.sc .nilFunc) := by kernel_rfl
@[go_sem] theorem zo50 : zok Try.prog 50 1 := by simp only [zok, zv50]; rfl
@[go_sem] theorem ty51 : tyv Try.prog 51 = some (false, 1) := by kernel_rfl
@[go_sem] theorem sl51 : slv Try.prog 51 = none := by kernel_rfl
@[go_sem] theorem zv51 : zv Try.prog 51 = some (.sc .nilFunc) := by kernel_rfl
@[go_sem] theorem zo51 : zok Try.prog 51 1 := by simp only [zok, zv51]; rfl
@[go_sem] theorem ty52 : tyv Try.prog 52 = some (false, 1) := by kernel_rfl
@[go_sem] theorem sl52 : slv Try.prog 52 = none := by kernel_rfl
@[go_sem] theorem zv52 : zv Try.prog 52 = some (.sc .nilFunc) := by kernel_rfl
@[go_sem] theorem zo52 : zok Try.prog 52 1 := by simp only [zok, zv52]; rfl
@[go_sem] theorem ty53 : tyv Try.prog 53 = some (false, 1) := by kernel_rfl
@[go_sem] theorem sl53 : slv Try.prog 53 = some (68, 7, 56) := by kernel_rfl
@[go_sem] theorem zv53 : zv Try.prog 53 = some (.sc (.slice none 0 0)) := by kernel_rfl
@[go_sem] theorem zo53 : zok Try.prog 53 1 := by simp only [zok, zv53]; rfl
@[go_sem] theorem ty54 : tyv Try.prog 54 = some (true, 3) := by kernel_rfl
@[go_sem] theorem sl54 : slv Try.prog 54 = none := by kernel_rfl
@[go_sem] theorem fl54_0 : fldv Try.prog 54 0 = some (0, false, 1) := by kernel_rfl
@[go_sem] theorem fl54_1 : fldv Try.prog 54 1 = some (1, false, 1) := by kernel_rfl
@[go_sem] theorem fl54_2 : fldv Try.prog 54 2 = some (2, false, 1) := by kernel_rfl
@[go_sem] theorem pl54 : places Try.prog 54 = some [(0, 1), (1, 1), (2, 1)] := by kernel_rfl
@[go_sem] theorem zv54 : zv Try.prog 54 = some (.agg [.sc (.int .i64 0), .sc (.int .i64 0), .sc (.slice none 0 0)]) := by kernel_rfl
@[go_sem] theorem zo54 : zok Try.prog 54 3 := by simp only [zok, zv54]; rfl
@[go_sem] theorem ty55 : tyv Try.prog 55 = some (true, 3) := by kernel_rfl
@[go_sem] theorem sl55 : slv Try.prog 55 = none := by kernel_rfl
@[go_sem] theorem fl55_0 : fldv Try.prog 55 0 = some (0, false, 1) := by kernel_rfl
@[go_sem] theorem fl55_1 : fldv Try.prog 55 1 = some (1, false, 1) := by kernel_rfl
@[go_sem] theorem fl55_2 : fldv Try.prog 55 2 = some (2, false, 1) := by kernel_rfl
@[go_sem] theorem pl55 : places Try.prog 55 = some [(0, 1), (1, 1), (2, 1)] := by kernel_rfl
@[go_sem] theorem zv55 : zv Try.prog 55 = some (.agg [.sc (.int .i64 0), .sc (.int .i64 0), .sc (.slice none 0 0)]) := by kernel_rfl
@[go_sem] theorem zo55 : zok Try.prog 55 3 := by simp only [zok, zv55]; rfl
@[go_sem] theorem ty56 : tyv Try.prog 56 = some (false, 1) := by kernel_rfl
@[go_sem] theorem sl56 : slv Try.prog 56 = none := by kernel_rfl
@[go_sem] theorem zv56 : zv Try.prog 56 = some (.sc .nilFunc) := by kernel_rfl
@[go_sem] theorem zo56 : zok Try.prog 56 1 := by simp only [zok, zv56]; rfl
@[go_sem] theorem ty57 : tyv Try.prog 57 = some (false, 1) := by kernel_rfl
@[go_sem] theorem sl57 : slv Try.prog 57 = none := by kernel_rfl
@[go_sem] theorem zv57 : zv Try.prog 57 = some (.sc .nilFunc) := by kernel_rfl
@[go_sem] theorem zo57 : zok Try.prog 57 1 := by simp only [zok, zv57]; rfl
@[go_sem] theorem ty58 : tyv Try.prog 58 = some (false, 1) := by kernel_rfl
@[go_sem] theorem sl58 : slv Try.prog 58 = some (71, 2, 16) := by kernel_rfl
@[go_sem] theorem zv58 : zv Try.prog 58 = some (.sc (.slice none 0 0)) := by kernel_rfl
@[go_sem] theorem zo58 : zok Try.prog 58 1 := by simp only [zok, zv58]; rfl
@[go_sem] theorem ty59 : tyv Try.prog 59 = some (false, 1) := by kernel_rfl
@[go_sem] theorem sl59 : slv Try.prog 59 = some (71, 2, 16) := by kernel_rfl
@[go_sem] theorem zv59 : zv Try.prog 59 = some (.sc (.slice none 0 0)) := by kernel_rfl
@[go_sem] theorem zo59 : zok Try.prog 59 1 := by simp only [zok, zv59]; rfl
@[go_sem] theorem ty60 : tyv Try.prog 60 = some (false, 1) := by kernel_rfl
@[go_sem] theorem sl60 : slv Try.prog 60 = none := by kernel_rfl
@[go_sem] theorem zv60 : zv Try.prog 60 = some (.sc .nilFunc) := by kernel_rfl
@[go_sem] theorem zo60 : zok Try.prog 60 1 := by simp only [zok, zv60]; rfl
@[go_sem] theorem ty61 : tyv Try.prog 61 = some (false, 1) := by kernel_rfl
@[go_sem] theorem sl61 : slv Try.prog 61 = none := by kernel_rfl
@[go_sem] theorem zv61 : zv Try.prog 61 = some (.sc .nilFunc) := by kernel_rfl
@[go_sem] theorem zo61 : zok Try.prog 61 1 := by simp only [zok, zv61]; rfl
@[go_sem] theorem ty62 : tyv Try.prog 62 = some (false, 1) := by kernel_rfl
@[go_sem] theorem sl62 : slv Try.prog 62 = none := by kernel_rfl
@[go_sem] theorem zv62 : zv Try.prog 62 = some (.sc .nilFunc) := by kernel_rfl
@[go_sem] theorem zo62 : zok Try.prog 62 1 := by simp only [zok, zv62]; rfl
@[go_sem] theorem ty63 : tyv Try.prog 63 = some (false, 1) := by kernel_rfl
@[go_sem] theorem sl63 : slv Try.prog 63 = none := by kernel_rfl
@[go_sem] theorem zv63 : zv Try.prog 63 = some (.sc .nilFunc) := by kernel_rfl
@[go_sem] theorem zo63 : zok Try.prog 63 1 := by simp only [zok, zv63]; rfl
@[go_sem] theorem ty64 : tyv Try.prog 64 = some (false, 1) := by kernel_rfl
@[go_sem] theorem sl64 : slv Try.prog 64 = none := by kernel_rfl
@[go_sem] theorem zv64 : zv Try.prog 64 = some (.sc .nilFunc) := by kernel_rfl
@[go_sem] theorem zo64 : zok Try.prog 64 1 := by simp only [zok, zv64]; rfl
@[go_sem] theorem ty65 : tyv Try.prog 65 = some (true, 3) := by kernel_rfl
@[go_sem] theorem sl65 : slv Try.prog 65 = none := by kernel_rfl
@[go_sem] theorem fl65_0 : fldv Try.prog 65 0 = some (0, false, 1) := by kernel_rfl
@[go_sem] theorem fl65_1 : fldv Try.prog 65 1 = some (1, false, 1) := by kernel_rfl
@[go_sem] theorem fl65_2 : fldv Try.prog 65 2 = some (2, false, 1) := by kernel_rfl
@[go_sem] theorem pl65 : places Try.prog 65 = some [(0, 1), (1, 1), (2, 1)] := by kernel_rfl
theorem eq65 : eqlT Try.prog 65 [.sc (.int .i64 0), .sc (.int .i64 0), .sc (.int .i64 0)] := eqlT_of (by kernel_rfl) ty65 (by kernel_rfl)
@[go_sem] theorem zv65 : zv Try.prog 65 = some (.agg [.sc (.int .i64 0), .sc (.int .i64 0), .sc (.int .i64 0)]) := by kernel_rfl
@[go_sem] theorem zo65 : zok Try.prog 65 3 := by simp only [zok, zv65]; rfl
@[go_sem] theorem ty66 : tyv Try.prog 66 = some (true, 3) := by kernel_rfl
@[go_sem] theorem sl66 : slv Try.prog 66 = none := by kernel_rfl
@[go_sem] theorem fl66_0 : fldv Try.prog 66 0 = some (0, false, 1) := by kernel_rfl
@[go_sem] theorem fl66_1 : fldv Try.prog 66 1 = some (1, false, 1) := by kernel_rfl
@[go_sem] theorem fl66_2 : fldv Try.prog 66 2 = some (2, false, 1) := by kernel_rfl
@[go_sem] theorem pl66 : places Try.prog 66 = some [(0, 1), (1, 1), (2, 1)] := by kernel_rfl
theorem eq66 : eqlT Try.prog 66 [.sc (.int .i64 0), .sc (.int .i64 0), .sc (.int .i64 0)] := eqlT_of (by kernel_rfl) ty66 (by kernel_rfl)
@[go_sem] theorem zv66 : zv Try.prog 66 = some (.agg [.sc (.int .i64 0), .sc (.int .i64 0), .sc (.int .i64 0)]) := by kernel_rfl
@[go_sem] theorem zo66 : zok Try.prog 66 3 := by simp only [zok, zv66]; rfl
@[go_sem] theorem ty67 : tyv Try.prog 67 = some (true, 7) := by kernel_rfl
@[go_sem] theorem sl67 : slv Try.prog 67 = none := by kernel_rfl
@[go_sem] theorem fl67_0 : fldv Try.prog 67 0 = some (0, false, 1) := by kernel_rfl
@[go_sem] theorem fl67_1 : fldv Try.prog 67 1 = some (1, false, 1) := by kernel_rfl
@[go_sem] theorem fl67_2 : fldv Try.prog 67 2 = some (2, false, 1) := by kernel_rfl
@[go_sem] theorem fl67_3 : fldv Try.prog 67 3 = some (3, false, 1) := by kernel_rfl
@[go_sem] theorem fl67_4 : fldv Try.prog 67 4 = some (4, true, 3) := by kernel_rfl
@[go_sem] theorem pl67 : places Try.prog 67 = some [(0, 1), (1, 1), (2, 1), (3, 1), (4, 3)] := by kernel_rfl
theorem eq67 : eqlT Try.prog 67 [.sc (.int .i64 0), .sc (.int .i64 0), .sc (.int .i64 0), .sc (.int .i64 0), .sc (.int .i64 0), .sc (.int .i64 0), .sc (.int .i64 0)] := eqlT_of (by kernel_rfl) ty67 (by kernel_rfl)
@[go_sem] theorem zv67 : zv Try.prog 67 = some (.agg [.sc (.int .i64 0), .sc (.int .i64 0), .sc (.int .i64 0), .sc (.int .i64 0), .sc (.int .i64 0), .sc (.int .i64 0), .sc (.int .i64 0)]) := by kernel_rfl
@[go_sem] theorem zo67 : zok Try.prog 67 7 := by simp only [zok, zv67]; rfl
@[go_sem] theorem ty68 : tyv Try.prog 68 = some (true, 7) := by kernel_rfl
@[go_sem] theorem sl68 : slv Try.prog 68 = none := by kernel_rfl
@[go_sem] theorem fl68_0 : fldv Try.prog 68 0 = some (0, false, 1) := by kernel_rfl
@[go_sem] theorem fl68_1 : fldv Try.prog 68 1 = some (1, false, 1) := by kernel_rfl
@[go_sem] theorem fl68_2 : fldv Try.prog 68 2 = some (2, false, 1) := by kernel_rfl
@[go_sem] theorem fl68_3 : fldv Try.prog 68 3 = some (3, false, 1) := by kernel_rfl
@[go_sem] theorem fl68_4 : fldv Try.prog 68 4 = some (4, true, 3) := by kernel_rfl
@[go_sem] theorem pl68 : places Try.prog 68 = some [(0, 1), (1, 1), (2, 1), (3, 1), (4, 3)] := by kernel_rfl
theorem eq68 : eqlT Try.prog 68 [.sc (.int .i64 0), .sc (.int .i64 0), .sc (.int .i64 0), .sc (.int .i64 0), .sc (.int .i64 0), .sc (.int .i64 0), .sc (.int .i64 0)] := eqlT_of (by kernel_rfl) ty68 (by kernel_rfl)
@[go_sem] theorem zv68 : zv Try.prog 68 = some (.agg [.sc (.int .i64 0), .sc (.int .i64 0), .sc (.int .i64 0), .sc (.int .i64 0), .sc (.int .i64 0), .sc (.int .i64 0), .sc (.int .i64 0)]) := by kernel_rfl
@[go_sem] theorem zo68 : zok Try.prog 68 7 := by simp only [zok, zv68]; rfl
@[go_sem] theorem ty69 : tyv Try.prog 69 = some (false, 1) := by kernel_rfl
@[go_sem] theorem sl69 : slv Try.prog 69 = none := by kernel_rfl
@[go_sem] theorem zv69 : zv Try.prog 69 = some (.sc .nilFunc) := by kernel_rfl
@[go_sem] theorem zo69 : zok Try.prog 69 1 := by simp only [zok, zv69]; rfl
@[go_sem] theorem ty70 : tyv Try.prog 70 = some (true, 2) := by kernel_rfl
@[go_sem] theorem sl70 : slv Try.prog 70 = none := by kernel_rfl
@[go_sem] theorem fl70_0 : fldv Try.prog 70 0 = some (0, false, 1) := by kernel_rfl
@[go_sem] theorem fl70_1 : fldv Try.prog 70 1 = some (1, false, 1) := by kernel_rfl
@[go_sem] theorem pl70 : places Try.prog 70 = some [(0, 1), (1, 1)] := by kernel_rfl
theorem eq70 : eqlT Try.prog 70 [.sc (.int .i64 0), .sc (.int .i64 0)] := eqlT_of (by kernel_rfl) ty70 (by kernel_rfl)
@[go_sem] theorem zv70 : zv Try.prog 70 = some (.agg [.sc (.int .i64 0), .sc (.int .i64 0)]) := by kernel_rfl
@[go_sem] theorem zo70 : zok Try.prog 70 2 := by simp only [zok, zv70]; rfl
@[go_sem] theorem ty71 : tyv Try.prog 71 = some (true, 2) := by kernel_rfl
@[go_sem] theorem sl71 : slv Try.prog 71 = none := by kernel_rfl
@[go_sem] theorem fl71_0 : fldv Try.prog 71 0 = some (0, false, 1) := by kernel_rfl
@[go_sem] theorem fl71_1 : fldv Try.prog 71 1 = some (1, false, 1) := by kernel_rfl
@[go_sem] theorem pl71 : places Try.prog 71 = some [(0, 1), (1, 1)] := by kernel_rfl
theorem eq71 : eqlT Try.prog 71 [.sc (.int .i64 0), .sc (.int .i64 0)] := eqlT_of (by kernel_rfl) ty71 (by kernel_rfl)
@[go_sem] theorem zv71 : zv Try.prog 71 = some (.agg [.sc (.int .i64 0), .sc (.int .i64 0)]) := by kernel_rfl
@[go_sem] theorem zo71 : zok Try.prog 71 2 := by simp only [zok, zv71]; rfl
@[go_sem] theorem ty72 : tyv Try.prog 72 = some (false, 1) := by kernel_rfl
@[go_sem] theorem sl72 : slv Try.prog 72 = none := by kernel_rfl
@[go_sem] theorem zv72 : zv Try.prog 72 = some (.sc .nilFunc) := by kernel_rfl
@[go_sem] theorem zo72 : zok Try.prog 72 1 := by simp only [zok, zv72]; rfl
@[go_sem] theorem ty73 : tyv Try.prog 73 = some (true, 2) := by kernel_rfl
@[go_sem] theorem sl73 : slv Try.prog 73 = none := by kernel_rfl
@[go_sem] theorem ar73 : arv Try.prog 73 = some (2, false, 1) := by kernel_rfl
theorem eq73 : eqlT Try.prog 73 [.sc (.int .i64 0), .sc (.int .i64 0)] := eqlT_of (by kernel_rfl) ty73 (by kernel_rfl)
@[go_sem] theorem zv73 : zv Try.prog 73 = some (.agg [.sc (.int .i64 0), .sc (.int .i64 0)]) := by kernel_rfl
@[go_sem] theorem zo73 : zok Try.prog 73 2 := by simp only [zok, zv73]; rfl
@[go_sem] theorem ty74 : tyv Try.prog 74 = some (false, 1) := by kernel_rfl
@[go_sem] theorem sl74 : slv Try.prog 74 = none := by kernel_rfl
@[go_sem] theorem zv74 : zv Try.prog 74 = some (.sc .nilFunc) := by kernel_rfl
@[go_sem] theorem zo74 : zok Try.prog 74 1 := by simp only [zok, zv74]; rfl
@[go_sem] theorem ty75 : tyv Try.prog 75 = some (false, 1) := by kernel_rfl
@[go_sem] theorem sl75 : slv Try.prog 75 = none := by kernel_rfl
@[go_sem] theorem zv75 : zv Try.prog 75 = some (.sc .nilFunc) := by kernel_rfl
@[go_sem] theorem zo75 : zok Try.prog 75 1 := by simp only [zok, zv75]; rfl
@[go_sem] theorem ty76 : tyv Try.prog 76 = some (false, 1) := by kernel_rfl
@[go_sem] theorem sl76 : slv Try.prog 76 = none := by kernel_rfl
@[go_sem] theorem zv76 : zv Try.prog 76 = some (.sc .nilFunc) := by kernel_rfl
@[go_sem] theorem zo76 : zok Try.prog 76 1 := by simp only [zok, zv76]; rfl
@[go_sem] theorem ty77 : tyv Try.prog 77 = some (false, 1) := by kernel_rfl
@[go_sem] theorem sl77 : slv Try.prog 77 = none := by kernel_rfl
@[go_sem] theorem zv77 : zv Try.prog 77 = some (.sc .nilFunc) := by kernel_rfl
@[go_sem] theorem zo77 : zok Try.prog 77 1 := by simp only [zok, zv77]; rfl
@[go_sem] theorem ty78 : tyv Try.prog 78 = some (false, 1) := by kernel_rfl
@[go_sem] theorem sl78 : slv Try.prog 78 = none := by kernel_rfl
@[go_sem] theorem zv78 : zv Try.prog 78 = some (.sc .nilFunc) := by kernel_rfl
@[go_sem] theorem zo78 : zok Try.prog 78 1 := by simp only [zok, zv78]; rfl
@[go_sem] theorem ty79 : tyv Try.prog 79 = some (false, 1) := by kernel_rfl
@[go_sem] theorem sl79 : slv Try.prog 79 = none := by kernel_rfl
@[go_sem] theorem zv79 : zv Try.prog 79 = some (.sc .nilFunc) := by kernel_rfl
@[go_sem] theorem zo79 : zok Try.prog 79 1 := by simp only [zok, zv79]; rfl
@[go_sem] theorem ty80 : tyv Try.prog 80 = some (false, 1) := by kernel_rfl
@[go_sem] theorem sl80 : slv Try.prog 80 = none := by kernel_rfl
@[go_sem] theorem zv80 : zv Try.prog 80 = some (.sc .nilFunc) := by kernel_rfl
@[go_sem] theorem zo80 : zok Try.prog 80 1 := by simp only [zok, zv80]; rfl
@[go_sem] theorem ty81 : tyv Try.prog 81 = some (false, 1) := by kernel_rfl
@[go_sem] theorem sl81 : slv Try.prog 81 = none := by kernel_rfl
@[go_sem] theorem zv81 : zv Try.prog 81 = some (.sc .nilFunc) := by kernel_rfl
@[go_sem] theorem zo81 : zok Try.prog 81 1 := by simp only [zok, zv81]; rfl
@[go_sem] theorem ty82 : tyv Try.prog 82 = some (false, 1) := by kernel_rfl
@[go_sem] theorem sl82 : slv Try.prog 82 = none := by kernel_rfl
@[go_sem] theorem zv82 : zv Try.prog 82 = some (.sc .nilFunc) := by kernel_rfl
@[go_sem] theorem zo82 : zok Try.prog 82 1 := by simp only [zok, zv82]; rfl
@[go_sem] theorem ty83 : tyv Try.prog 83 = some (false, 1) := by kernel_rfl
@[go_sem] theorem sl83 : slv Try.prog 83 = none := by kernel_rfl
@[go_sem] theorem zv83 : zv Try.prog 83 = some (.sc .nilFunc) := by kernel_rfl
@[go_sem] theorem zo83 : zok Try.prog 83 1 := by simp only [zok, zv83]; rfl
@[go_sem] theorem ty84 : tyv Try.prog 84 = some (false, 1) := by kernel_rfl
@[go_sem] theorem sl84 : slv Try.prog 84 = none := by kernel_rfl
@[go_sem] theorem zv84 : zv Try.prog 84 = some (.sc .nilFunc) := by kernel_rfl
@[go_sem] theorem zo84 : zok Try.prog 84 1 := by simp only [zok, zv84]; rfl
@[go_sem] theorem ty85 : tyv Try.prog 85 = some (false, 1) := by kernel_rfl
@[go_sem] theorem sl85 : slv Try.prog 85 = none := by kernel_rfl
@[go_sem] theorem zv85 : zv Try.prog 85 = some (.sc .nilFunc) := by kernel_rfl
@[go_sem] theorem zo85 : zok Try.prog 85 1 := by simp only [zok, zv85]; rfl
@[go_sem] theorem ty86 : tyv Try.prog 86 = some (false, 1) := by kernel_rfl
@[go_sem] theorem mp86 : mpv Try.prog 86 = some ((.int .i64), 3) := by kernel_rfl
@[go_sem] theorem sl86 : slv Try.prog 86 = none := by kernel_rfl
@[go_sem] theorem zv86 : zv Try.prog 86 = some (.sc (.map none)) := by kernel_rfl
@[go_sem] theorem zo86 : zok Try.prog 86 1 := by simp only [zok, zv86]; rfl
@[go_sem] theorem ty88 : tyv Try.prog 88 = some (false, 1) := by kernel_rfl
@[go_sem] theorem sl88 : slv Try.prog 88 = none := by kernel_rfl
@[go_sem] theorem zv88 : zv Try.prog 88 = some (.sc .nilFunc) := by kernel_rfl
@[go_sem] theorem zo88 : zok Try.prog 88 1 := by simp only [zok, zv88]; rfl
@[go_sem] theorem ty89 : tyv Try.prog 89 = some (false, 1) := by kernel_rfl
@[go_sem] theorem mp89 : mpv Try.prog 89 = some ((.int .i64), 4) := by kernel_rfl
@[go_sem] theorem sl89 : slv Try.prog 89 = none := by kernel_rfl
@[go_sem] theorem zv89 : zv Try.prog 89 = some (.sc (.map none)) := by kernel_rfl
@[go_sem] theorem zo89 : zok Try.prog 89 1 := by simp only [zok, zv89]; rfl
@[go_sem] theorem ty90 : tyv Try.prog 90 = some (false, 1) := by kernel_rfl
@[go_sem] theorem sl90 : slv Try.prog 90 = none := by kernel_rfl
@[go_sem] theorem zv90 : zv Try.prog 90 = some (.sc .nilFunc) := by kernel_rfl
@[go_sem] theorem zo90 : zok Try.prog 90 1 := by simp only [zok, zv90]; rfl
@[go_sem] theorem ty91 : tyv Try.prog 91 = some (false, 1) := by kernel_rfl
@[go_sem] theorem sl91 : slv Try.prog 91 = none := by kernel_rfl
@[go_sem] theorem zv91 : zv Try.prog 91 = some (.sc .nilFunc) := by kernel_rfl
@[go_sem] theorem zo91 : zok Try.prog 91 1 := by simp only [zok, zv91]; rfl
@[go_sem] theorem ty92 : tyv Try.prog 92 = some (false, 1) := by kernel_rfl
@[go_sem] theorem sl92 : slv Try.prog 92 = some (59, 1, 24) := by kernel_rfl
@[go_sem] theorem zv92 : zv Try.prog 92 = some (.sc (.slice none 0 0)) := by kernel_rfl
@[go_sem] theorem zo92 : zok Try.prog 92 1 := by simp only [zok, zv92]; rfl
@[go_sem] theorem ty93 : tyv Try.prog 93 = some (false, 1) := by kernel_rfl
@[go_sem] theorem sl93 : slv Try.prog 93 = none := by kernel_rfl
@[go_sem] theorem zv93 : zv Try.prog 93 = some (.sc .nilFunc) := by kernel_rfl
@[go_sem] theorem zo93 : zok Try.prog 93 1 := by simp only [zok, zv93]; rfl
@[go_sem] theorem ty94 : tyv Try.prog 94 = some (false, 1) := by kernel_rfl
@[go_sem] theorem sl94 : slv Try.prog 94 = none := by kernel_rfl
@[go_sem] theorem zv94 : zv Try.prog 94 = some (.sc .nilFunc) := by kernel_rfl
@[go_sem] theorem zo94 : zok Try.prog 94 1 := by simp only [zok, zv94]; rfl
@[go_sem] theorem ty95 : tyv Try.prog 95 = some (true, 2) := by kernel_rfl
@[go_sem] theorem sl95 : slv Try.prog 95 = none := by kernel_rfl
@[go_sem] theorem fl95_0 : fldv Try.prog 95 0 = some (0, false, 1) := by kernel_rfl
@[go_sem] theorem fl95_1 : fldv Try.prog 95 1 = some (1, false, 1) := by kernel_rfl
@[go_sem] theorem pl95 : places Try.prog 95 = some [(0, 1), (1, 1)] := by kernel_rfl
theorem eq95 : eqlT Try.prog 95 [.sc (.int .i64 0), .sc (.int .i64 0)] := eqlT_of (by kernel_rfl) ty95 (by kernel_rfl)
@[go_sem] theorem zv95 : zv Try.prog 95 = some (.agg [.sc (.int .i64 0), .sc (.int .i64 0)]) := by kernel_rfl
@[go_sem] theorem zo95 : zok Try.prog 95 2 := by simp only [zok, zv95]; rfl
@[go_sem] theorem ty96 : tyv Try.prog 96 = some (true, 2) := by kernel_rfl
@[go_sem] theorem sl96 : slv Try.prog 96 = none := by kernel_rfl
@[go_sem] theorem fl96_0 : fldv Try.prog 96 0 = some (0, false, 1) := by kernel_rfl
@[go_sem] theorem fl96_1 : fldv Try.prog 96 1 = some (1, false, 1) := by kernel_rfl
@[go_sem] theorem pl96 : places Try.prog 96 = some [(0, 1), (1, 1)] := by kernel_rfl
theorem eq96 : eqlT Try.prog 96 [.sc (.int .i64 0), .sc (.int .i64 0)] := eqlT_of (by kernel_rfl) ty96 (by kernel_rfl)
@[go_sem] theorem zv96 : zv Try.prog 96 = some (.agg [.sc (.int .i64 0), .sc (.int .i64 0)]) := by kernel_rfl
@[go_sem] theorem zo96 : zok Try.prog 96 2 := by simp only [zok, zv96]; rfl
@[go_sem] theorem ty97 : tyv Try.prog 97 = some (false, 1) := by kernel_rfl
@[go_sem] theorem sl97 : slv Try.prog 97 = some (96, 2, 16) := by kernel_rfl
@[go_sem] theorem zv97 : zv Try.prog 97 = some (.sc (.slice none 0 0)) := by kernel_rfl
@[go_sem] theorem zo97 : zok Try.prog 97 1 := by simp only [zok, zv97]; rfl
@[go_sem] theorem ty98 : tyv Try.prog 98 = some (true, 4) := by kernel_rfl
@[go_sem] theorem sl98 : slv Try.prog 98 = none := by kernel_rfl
@[go_sem] theorem fl98_0 : fldv Try.prog 98 0 = some (0, false, 1) := by kernel_rfl
@[go_sem] theorem fl98_1 : fldv Try.prog 98 1 = some (1, true, 3) := by kernel_rfl
@[go_sem] theorem pl98 : places Try.prog 98 = some [(0, 1), (1, 3)] := by kernel_rfl
@[go_sem] theorem zv98 : zv Try.prog 98 = some (.agg [.sc (.slice none 0 0), .sc (.int .i64 0), .sc (.int .i64 0), .sc (.int .i64 0)]) := by kernel_rfl
@[go_sem] theorem zo98 : zok Try.prog 98 4 := by simp only [zok, zv98]; rfl
@[go_sem] theorem ty99 : tyv Try.prog 99 = some (true, 4) := by kernel_rfl
@[go_sem] theorem sl99 : slv Try.prog 99 = none := by kernel_rfl
@[go_sem] theorem fl99_0 : fldv Try.prog 99 0 = some (0, false, 1) := by kernel_rfl
@[go_sem] theorem fl99_1 : fldv Try.prog 99 1 = some (1, true, 3) := by kernel_rfl
@[go_sem] theorem pl99 : places Try.prog 99 = some [(0, 1), (1, 3)] := by kernel_rfl
@[go_sem] theorem zv99 : zv Try.prog 99 = some (.agg [.sc (.slice none 0 0), .sc (.int .i64 0), .sc (.int .i64 0), .sc (.int .i64 0)]) := by kernel_rfl
@[go_sem] theorem zo99 : zok Try.prog 99 4 := by simp only [zok, zv99]; rfl
@[go_sem] theorem ty100 : tyv Try.prog 100 = some (false, 1) := by kernel_rfl
@[go_sem] theorem sl100 : slv Try.prog 100 = none := by kernel_rfl
@[go_sem] theorem zv100 : zv Try.prog 100 = some (.sc .nilFunc) := by kernel_rfl
@[go_sem] theorem zo100 : zok Try.prog 100 1 := by simp only [zok, zv100]; rfl
@[go_sem] theorem ty101 : tyv Try.prog 101 = some (false, 1) := by kernel_rfl
@[go_sem] theorem sl101 : slv Try.prog 101 = some (111, 4, 48) := by kernel_rfl
@[go_sem] theorem zv101 : zv Try.prog 101 = some (.sc (.slice none 0 0)) := by kernel_rfl
@[go_sem] theorem zo101 : zok Try.prog 101 1 := by simp only [zok, zv101]; rfl
@[go_sem] theorem ty102 : tyv Try.prog 102 = some (false, 1) := by kernel_rfl
@[go_sem] theorem sl102 : slv Try.prog 102 = none := by kernel_rfl
@[go_sem] theorem zv102 : zv Try.prog 102 = some (.sc .nilFunc) := by kernel_rfl
@[go_sem] theorem zo102 : zok Try.prog 102 1 := by simp only [zok, zv102]; rfl
@[go_sem] theorem ty103 : tyv Try.prog 103 = some (false, 1) := by kernel_rfl
@[go_sem] theorem sl103 : slv Try.prog 103 = none := by kernel_rfl
@[go_sem] theorem zv103 : zv Try.prog 103 = some (.sc .nilFunc) := by kernel_rfl
@[go_sem] theorem zo103 : zok Try.prog 103 1 := by simp only [zok, zv103]; rfl
@[go_sem] theorem ty104 : tyv Try.prog 104 = some (false, 1) := by kernel_rfl
@[go_sem] theorem sl104 : slv Try.prog 104 = none := by kernel_rfl
@[go_sem] theorem zv104 : zv Try.prog 104 = some (.sc .nilFunc) := by kernel_rfl
@[go_sem] theorem zo104 : zok Try.prog 104 1 := by simp only [zok, zv104]; rfl
@[go_sem] theorem ty105 : tyv Try.prog 105 = some (false, 1) := by kernel_rfl
@[go_sem] theorem sl105 : slv Try.prog 105 = none := by kernel_rfl
@[go_sem] theorem zv105 : zv Try.prog 105 = some (.sc .nilFunc) := by kernel_rfl
@[go_sem] theorem zo105 : zok Try.prog 105 1 := by simp only [zok, zv105]; rfl
@[go_sem] theorem ty106 : tyv Try.prog 106 = some (false, 1) := by kernel_rfl
@[go_sem] theorem un106 : Try.prog.underlying 106 = some (.int .u64) := by kernel_rfl
@[go_sem] theorem sl106 : slv Try.prog 106 = none := by kernel_rfl
@[go_sem] theorem zv106 : zv Try.prog 106 = some (.sc (.int .u64 0)) := by kernel_rfl
@[go_sem] theorem zo106 : zok Try.prog 106 1 := by simp only [zok, zv106]; rfl
@[go_sem] theorem ty107 : tyv Try.prog 107 = some (false, 1) := by kernel_rfl
@[go_sem] theorem sl107 : slv Try.prog 107 = none := by kernel_rfl
@[go_sem] theorem zv107 : zv Try.prog 107 = some (.sc .nilFunc) := by kernel_rfl
@[go_sem] theorem zo107 : zok Try.prog 107 1 := by simp only [zok, zv107]; rfl
@[go_sem] theorem ty108 : tyv Try.prog 108 = some (false, 1) := by kernel_rfl
@[go_sem] theorem sl108 : slv Try.prog 108 = none := by kernel_rfl
@[go_sem] theorem zv108 : zv Try.prog 108 = some (.sc .nilFunc) := by kernel_rfl
@[go_sem] theorem zo108 : zok Try.prog 108 1 := by simp only [zok, zv108]; rfl
@[go_sem] theorem ty109 : tyv Try.prog 109 = some (false, 1) := by kernel_rfl
@[go_sem] theorem sl109 : slv Try.prog 109 = none := by kernel_rfl
@[go_sem] theorem zv109 : zv Try.prog 109 = some (.sc .nilFunc) := by kernel_rfl
@[go_sem] theorem zo109 : zok Try.prog 109 1 := by simp only [zok, zv109]; rfl
@[go_sem] theorem ty110 : tyv Try.prog 110 = some (false, 1) := by kernel_rfl
@[go_sem] theorem sl110 : slv Try.prog 110 = none := by kernel_rfl
@[go_sem] theorem zv110 : zv Try.prog 110 = some (.sc .nilFunc) := by kernel_rfl
@[go_sem] theorem zo110 : zok Try.prog 110 1 := by simp only [zok, zv110]; rfl
@[go_sem] theorem ty111 : tyv Try.prog 111 = some (true, 4) := by kernel_rfl
@[go_sem] theorem sl111 : slv Try.prog 111 = none := by kernel_rfl
@[go_sem] theorem fl111_0 : fldv Try.prog 111 0 = some (0, false, 1) := by kernel_rfl
@[go_sem] theorem fl111_1 : fldv Try.prog 111 1 = some (1, true, 3) := by kernel_rfl
@[go_sem] theorem pl111 : places Try.prog 111 = some [(0, 1), (1, 3)] := by kernel_rfl
@[go_sem] theorem zv111 : zv Try.prog 111 = some (.agg [.sc (.slice none 0 0), .sc (.int .i64 0), .sc (.int .i64 0), .sc (.int .i64 0)]) := by kernel_rfl
@[go_sem] theorem zo111 : zok Try.prog 111 4 := by simp only [zok, zv111]; rfl
@[go_sem] theorem ty112 : tyv Try.prog 112 = some (false, 1) := by kernel_rfl
@[go_sem] theorem sl112 : slv Try.prog 112 = none := by kernel_rfl
@[go_sem] theorem zv112 : zv Try.prog 112 = some (.sc .nilFunc) := by kernel_rfl
@[go_sem] theorem zo112 : zok Try.prog 112 1 := by simp only [zok, zv112]; rfl
@[go_sem] theorem ty113 : tyv Try.prog 113 = some (false, 1) := by kernel_rfl
@[go_sem] theorem sl113 : slv Try.prog 113 = none := by kernel_rfl
@[go_sem] theorem zv113 : zv Try.prog 113 = some (.sc .nilFunc) := by kernel_rfl
@[go_sem] theorem zo113 : zok Try.prog 113 1 := by simp only [zok, zv113]; rfl
@[go_sem] theorem ty114 : tyv Try.prog 114 = some (false, 1) := by kernel_rfl
@[go_sem] theorem sl114 : slv Try.prog 114 = some (138, 5, 40) := by kernel_rfl
@[go_sem] theorem zv114 : zv Try.prog 114 = some (.sc (.slice none 0 0)) := by kernel_rfl
@[go_sem] theorem zo114 : zok Try.prog 114 1 := by simp only [zok, zv114]; rfl
@[go_sem] theorem ty115 : tyv Try.prog 115 = some (true, 9) := by kernel_rfl
@[go_sem] theorem sl115 : slv Try.prog 115 = none := by kernel_rfl
@[go_sem] theorem fl115_0 : fldv Try.prog 115 0 = some (0, false, 1) := by kernel_rfl
@[go_sem] theorem fl115_1 : fldv Try.prog 115 1 = some (1, false, 1) := by kernel_rfl
@[go_sem] theorem fl115_2 : fldv Try.prog 115 2 = some (2, false, 1) := by kernel_rfl
@[go_sem] theorem fl115_3 : fldv Try.prog 115 3 = some (3, true, 3) := by kernel_rfl
@[go_sem] theorem fl115_4 : fldv Try.prog 115 4 = some (6, false, 1) := by kernel_rfl
@[go_sem] theorem fl115_5 : fldv Try.prog 115 5 = some (7, false, 1) := by kernel_rfl
@[go_sem] theorem fl115_6 : fldv Try.prog 115 6 = some (8, false, 1) := by kernel_rfl
@[go_sem] theorem pl115 : places Try.prog 115 = some [(0, 1), (1, 1), (2, 1), (3, 3), (6, 1), (7, 1), (8, 1)] := by kernel_rfl
@[go_sem] theorem zv115 : zv Try.prog 115 = some (.agg [.sc (.slice none 0 0), .sc (.slice none 0 0), .sc (.slice none 0 0), .sc (.int .i64 0), .sc (.int .i64 0), .sc (.int .i64 0), .sc (.int .i64 0), .sc (.int .i64 0), .sc (.int .i64 0)]) := by kernel_rfl
@[go_sem] theorem zo115 : zok Try.prog 115 9 := by simp only [zok, zv115]; rfl
@[go_sem] theorem ty116 : tyv Try.prog 116 = some (true, 9) := by kernel_rfl
@[go_sem] theorem sl116 : slv Try.prog 116 = none := by kernel_rfl
@[go_sem] theorem fl116_0 : fldv Try.prog 116 0 = some (0, false, 1) := by kernel_rfl
@[go_sem] theorem fl116_1 : fldv Try.prog 116 1 = some (1, false, 1) := by kernel_rfl
@[go_sem] theorem fl116_2 : fldv Try.prog 116 2 = some (2, false, 1) := by kernel_rfl
@[go_sem] theorem fl116_3 : fldv Try.prog 116 3 = some (3, true, 3) := by kernel_rfl
@[go_sem] theorem fl116_4 : fldv Try.prog 116 4 = some (6, false, 1) := by kernel_rfl
@[go_sem] theorem fl116_5 : fldv Try.prog 116 5 = some (7, false, 1) := by kernel_rfl
@[go_sem] theorem fl116_6 : fldv Try.prog 116 6 = some (8, false, 1) := by kernel_rfl
@[go_sem] theorem pl116 : places Try.prog 116 = some [(0, 1), (1, 1), (2, 1), (3, 3), (6, 1), (7, 1), (8, 1)] := by kernel_rfl
@[go_sem] theorem zv116 : zv Try.prog 116 = some (.agg [.sc (.slice none 0 0), .sc (.slice none 0 0), .sc (.slice none 0 0), .sc (.int .i64 0), .sc (.int .i64 0), .sc (.int .i64 0), .sc (.int .i64 0), .sc (.int .i64 0), .sc (.int .i64 0)]) := by kernel_rfl
@[go_sem] theorem zo116 : zok Try.prog 116 9 := by simp only [zok, zv116]; rfl
@[go_sem] theorem ty117 : tyv Try.prog 117 = some (false, 1) := by kernel_rfl
@[go_sem] theorem sl117 : slv Try.prog 117 = none := by kernel_rfl
@[go_sem] theorem zv117 : zv Try.prog 117 = some (.sc .nilFunc) := by kernel_rfl
@[go_sem] theorem zo117 : zok Try.prog 117 1 := by simp only [zok, zv117]; rfl
@[go_sem] theorem ty118 : tyv Try.prog 118 = some (false, 1) := by kernel_rfl
@[go_sem] theorem sl118 : slv Try.prog 118 = none := by kernel_rfl
@[go_sem] theorem zv118 : zv Try.prog 118 = some (.sc .nilFunc) := by kernel_rfl
@[go_sem] theorem zo118 : zok Try.prog 118 1 := by simp only [zok, zv118]; rfl
@[go_sem] theorem ty119 : tyv Try.prog 119 = some (false, 1) := by kernel_rfl
@[go_sem] theorem sl119 : slv Try.prog 119 = none := by kernel_rfl
@[go_sem] theorem zv119 : zv Try.prog 119 = some (.sc .nilFunc) := by kernel_rfl
@[go_sem] theorem zo119 : zok Try.prog 119 1 := by simp only [zok, zv119]; rfl
@[go_sem] theorem ty120 : tyv Try.prog 120 = some (false, 1) := by kernel_rfl
@[go_sem] theorem sl120 : slv Try.prog 120 = none := by kernel_rfl
@[go_sem] theorem zv120 : zv Try.prog 120 = some (.sc .nilFunc) := by kernel_rfl
@[go_sem] theorem zo120 : zok Try.prog 120 1 := by simp only [zok, zv120]; rfl
@[go_sem] theorem ty121 : tyv Try.prog 121 = some (false, 1) := by kernel_rfl
@[go_sem] theorem sl121 : slv Try.prog 121 = none := by kernel_rfl
@[go_sem] theorem zv121 : zv Try.prog 121 = some (.sc .nilFunc) := by kernel_rfl
@[go_sem] theorem zo121 : zok Try.prog 121 1 := by simp only [zok, zv121]; rfl
@[go_sem] theorem ty122 : tyv Try.prog 122 = some (false, 1) := by kernel_rfl
@[go_sem] theorem un122 : Try.prog.underlying 122 = some (.int .i64) := by kernel_rfl
@[go_sem] theorem sl122 : slv Try.prog 122 = none := by kernel_rfl
@[go_sem] theorem zv122 : zv Try.prog 122 = some (.sc (.int .i64 0)) := by kernel_rfl
@[go_sem] theorem zo122 : zok Try.prog 122 1 := by simp only [zok, zv122]; rfl
@[go_sem] theorem ty124 : tyv Try.prog 124 = some (false, 1) := by kernel_rfl
@[go_sem] theorem sl124 : slv Try.prog 124 = none := by kernel_rfl
@[go_sem] theorem zv124 : zv Try.prog 124 = some (.sc .nilFunc) := by kernel_rfl
@[go_sem] theorem zo124 : zok Try.prog 124 1 := by simp only [zok, zv124]; rfl
@[go_sem] theorem ty125 : tyv Try.prog 125 = some (false, 1) := by kernel_rfl
@[go_sem] theorem sl125 : slv Try.prog 125 = none := by kernel_rfl
@[go_sem] theorem zv125 : zv Try.prog 125 = some (.sc .nilFunc) := by kernel_rfl
@[go_sem] theorem zo125 : zok Try.prog 125 1 := by simp only [zok, zv125]; rfl
@[go_sem] theorem ty126 : tyv Try.prog 126 = some (false, 1) := by kernel_rfl
@[go_sem] theorem sl126 : slv Try.prog 126 = none := by kernel_rfl
@[go_sem] theorem zv126 : zv Try.prog 126 = some (.sc .nilFunc) := by kernel_rfl
@[go_sem] theorem zo126 : zok Try.prog 126 1 := by simp only [zok, zv126]; rfl
@[go_sem] theorem ty127 : tyv Try.prog 127 = some (false, 1) := by kernel_rfl
@[go_sem] theorem sl127 : slv Try.prog 127 = none := by kernel_rfl
@[go_sem] theorem zv127 : zv Try.prog 127 = some (.sc .nilFunc) := by kernel_rfl
@[go_sem] theorem zo127 : zok Try.prog 127 1 := by simp only [zok, zv127]; rfl
@[go_sem] theorem ty128 : tyv Try.prog 128 = some (false, 1) := by kernel_rfl
@[go_sem] theorem sl128 : slv Try.prog 128 = none := by kernel_rfl
@[go_sem] theorem zv128 : zv Try.prog 128 = some (.sc .nilFunc) := by kernel_rfl
@[go_sem] theorem zo128 : zok Try.prog 128 1 := by simp only [zok, zv128]; rfl
@[go_sem] theorem ty129 : tyv Try.prog 129 = some (false, 1) := by kernel_rfl
@[go_sem] theorem un129 : Try.prog.underlying 129 = some (.int .u32) := by kernel_rfl
@[go_sem] theorem sl129 : slv Try.prog 129 = none := by kernel_rfl
@[go_sem] theorem zv129 : zv Try.prog 129 = some (.sc (.int .u32 0)) := by kernel_rfl
@[go_sem] theorem zo129 : zok Try.prog 129 1 := by simp only [zok, zv129]; rfl
@[go_sem] theorem ty130 : tyv Try.prog 130 = some (false, 1) := by kernel_rfl
@[go_sem] theorem sl130 : slv Try.prog 130 = none := by kernel_rfl
@[go_sem] theorem zv130 : zv Try.prog 130 = some (.sc .nilFunc) := by kernel_rfl
@[go_sem] theorem zo130 : zok Try.prog 130 1 := by simp only [zok, zv130]; rfl
@[go_sem] theorem ty131 : tyv Try.prog 131 = some (false, 1) := by kernel_rfl
@[go_sem] theorem un131 : Try.prog.underlying 131 = some (.int .u64) := by kernel_rfl
@[go_sem] theorem sl131 : slv Try.prog 131 = none := by kernel_rfl
@[go_sem] theorem zv131 : zv Try.prog 131 = some (.sc (.int .u64 0)) := by kernel_rfl
@[go_sem] theorem zo131 : zok Try.prog 131 1 := by simp only [zok, zv131]; rfl
@[go_sem] theorem ty132 : tyv Try.prog 132 = some (false, 1) := by kernel_rfl
@[go_sem] theorem sl132 : slv Try.prog 132 = none := by kernel_rfl
@[go_sem] theorem zv132 : zv Try.prog 132 = some (.sc .nilFunc) := by kernel_rfl
@[go_sem] theorem zo132 : zok Try.prog 132 1 := by simp only [zok, zv132]; rfl
@[go_sem] theorem ty133 : tyv Try.prog 133 = some (false, 1) := by kernel_rfl
@[go_sem] theorem sl133 : slv Try.prog 133 = none := by kernel_rfl
@[go_sem] theorem zv133 : zv Try.prog 133 = some (.sc .nilFunc) := by kernel_rfl
@[go_sem] theorem zo133 : zok Try.prog 133 1 := by simp only [zok, zv133]; rfl
@[go_sem] theorem ty134 : tyv Try.prog 134 = some (false, 1) := by kernel_rfl
@[go_sem] theorem sl134 : slv Try.prog 134 = none := by kernel_rfl
@[go_sem] theorem zv134 : zv Try.prog 134 = some (.sc .nilFunc) := by kernel_rfl
@[go_sem] theorem zo134 : zok Try.prog 134 1 := by simp only [zok, zv134]; rfl
@[go_sem] theorem ty135 : tyv Try.prog 135 = some (false, 1) := by kernel_rfl
@[go_sem] theorem sl135 : slv Try.prog 135 = none := by kernel_rfl
@[go_sem] theorem zv135 : zv Try.prog 135 = some (.sc .nilFunc) := by kernel_rfl
@[go_sem] theorem zo135 : zok Try.prog 135 1 := by simp only [zok, zv135]; rfl
@[go_sem] theorem ty136 : tyv Try.prog 136 = some (false, 1) := by kernel_rfl
@[go_sem] theorem sl136 : slv Try.prog 136 = none := by kernel_rfl
@[go_sem] theorem zv136 : zv Try.prog 136 = some (.sc .nilFunc) := by kernel_rfl
@[go_sem] theorem zo136 : zok Try.prog 136 1 := by simp only [zok, zv136]; rfl
@[go_sem] theorem ty137 : tyv Try.prog 137 = some (true, 5) := by kernel_rfl
@[go_sem] theorem sl137 : slv Try.prog 137 = none := by kernel_rfl
@[go_sem] theorem fl137_0 : fldv Try.prog 137 0 = some (0, false, 1) := by kernel_rfl
@[go_sem] theorem fl137_1 : fldv Try.prog 137 1 = some (1, false, 1) := by kernel_rfl
@[go_sem] theorem fl137_2 : fldv Try.prog 137 2 = some (2, false, 1) := by kernel_rfl
@[go_sem] theorem fl137_3 : fldv Try.prog 137 3 = some (3, false, 1) := by kernel_rfl
@[go_sem] theorem fl137_4 : fldv Try.prog 137 4 = some (4, false, 1) := by kernel_rfl
@[go_sem] theorem pl137 : places Try.prog 137 = some [(0, 1), (1, 1), (2, 1), (3, 1), (4, 1)] := by kernel_rfl
theorem eq137 : eqlT Try.prog 137 [.sc (.int .i64 0), .sc (.int .i64 0), .sc (.int .i64 0), .sc (.int .i64 0), .sc (.int .i64 0)] := eqlT_of (by kernel_rfl) ty137 (by kernel_rfl)
@[go_sem] theorem zv137 : zv Try.prog 137 = some (.agg [.sc (.int .i64 0), .sc (.int .i64 0), .sc (.int .i64 0), .sc (.int .i64 0), .sc (.int .i64 0)]) := by kernel_rfl
@[go_sem] theorem zo137 : zok Try.prog 137 5 := by simp only [zok, zv137]; rfl
@[go_sem] theorem ty138 : tyv Try.prog 138 = some (true, 5) := by kernel_rfl
@[go_sem] theorem sl138 : slv Try.prog 138 = none := by kernel_rfl
@[go_sem] theorem fl138_0 : fldv Try.prog 138 0 = some (0, false, 1) := by kernel_rfl
@[go_sem] theorem fl138_1 : fldv Try.prog 138 1 = some (1, false, 1) := by kernel_rfl
@[go_sem] theorem fl138_2 : fldv Try.prog 138 2 = some (2, false, 1) := by kernel_rfl
@[go_sem] theorem fl138_3 : fldv Try.prog 138 3 = some (3, false, 1) := by kernel_rfl
@[go_sem] theorem fl138_4 : fldv Try.prog 138 4 = some (4, false, 1) := by kernel_rfl
@[go_sem] theorem pl138 : places Try.prog 138 = some [(0, 1), (1, 1), (2, 1), (3, 1), (4, 1)] := by kernel_rfl
theorem eq138 : eqlT Try.prog 138 [.sc (.int .i64 0), .sc (.int .i64 0), .sc (.int .i64 0), .sc (.int .i64 0), .sc (.int .i64 0)] := eqlT_of (by kernel_rfl) ty138 (by kernel_rfl)
@[go_sem] theorem zv138 : zv Try.prog 138 = some (.agg [.sc (.int .i64 0), .sc (.int .i64 0), .sc (.int .i64 0), .sc (.int .i64 0), .sc (.int .i64 0)]) := by kernel_rfl
@[go_sem] theorem zo138 : zok Try.prog 138 5 := by simp only [zok, zv138]; rfl
@[go_sem] theorem ty139 : tyv Try.prog 139 = some (false, 1) := by kernel_rfl
@[go_sem] theorem sl139 : slv Try.prog 139 = none := by kernel_rfl
@[go_sem] theorem zv139 : zv Try.prog 139 = some (.sc .nilFunc) := by kernel_rfl
@[go_sem] theorem zo139 : zok Try.prog 139 1 := by simp only [zok, zv139]; rfl
@[go_sem] theorem ty140 : tyv Try.prog 140 = some (false, 1) := by kernel_rfl
@[go_sem] theorem sl140 : slv Try.prog 140 = none := by kernel_rfl
@[go_sem] theorem zv140 : zv Try.prog 140 = some (.sc .nilFunc) := by kernel_rfl
@[go_sem] theorem zo140 : zok Try.prog 140 1 := by simp only [zok, zv140]; rfl
@[go_sem] theorem ty141 : tyv Try.prog 141 = some (false, 1) := by kernel_rfl
@[go_sem] theorem sl141 : slv Try.prog 141 = none := by kernel_rfl
@[go_sem] theorem zv141 : zv Try.prog 141 = some (.sc .nilFunc) := by kernel_rfl
@[go_sem] theorem zo141 : zok Try.prog 141 1 := by simp only [zok, zv141]; rfl
@[go_sem] theorem ty142 : tyv Try.prog 142 = some (false, 1) := by kernel_rfl
@[go_sem] theorem sl142 : slv Try.prog 142 = none := by kernel_rfl
@[go_sem] theorem zv142 : zv Try.prog 142 = some (.sc .nilFunc) := by kernel_rfl
@[go_sem] theorem zo142 : zok Try.prog 142 1 := by simp only [zok, zv142]; rfl
@[go_sem] theorem ty143 : tyv Try.prog 143 = some (false, 1) := by kernel_rfl
@[go_sem] theorem sl143 : slv Try.prog 143 = none := by kernel_rfl
@[go_sem] theorem zv143 : zv Try.prog 143 = some (.sc .nilFunc) := by kernel_rfl
@[go_sem] theorem zo143 : zok Try.prog 143 1 := by simp only [zok, zv143]; rfl
@[go_sem] theorem ty144 : tyv Try.prog 144 = some (false, 1) := by kernel_rfl
@[go_sem] theorem sl144 : slv Try.prog 144 = none := by kernel_rfl
@[go_sem] theorem zv144 : zv Try.prog 144 = some (.sc .nilFunc) := by kernel_rfl
@[go_sem] theorem zo144 : zok Try.prog 144 1 := by simp only [zok, zv144]; rfl
@[go_sem] theorem ty145 : tyv Try.prog 145 = some (false, 1) := by kernel_rfl
@[go_sem] theorem sl145 : slv Try.prog 145 = none := by kernel_rfl
@[go_sem] theorem zv145 : zv Try.prog 145 = some (.sc .nilFunc) := by kernel_rfl
@[go_sem] theorem zo145 : zok Try.prog 145 1 := by simp only [zok, zv145]; rfl
@[go_sem] theorem ty146 : tyv Try.prog 146 = some (false, 1) := by kernel_rfl
@[go_sem] theorem un146 : Try.prog.underlying 146 = some (.int .u64) := by kernel_rfl
@[go_sem] theorem sl146 : slv Try.prog 146 = none := by kernel_rfl
@[go_sem] theorem zv146 : zv Try.prog 146 = some (.sc (.int .u64 0)) := by kernel_rfl
@[go_sem] theorem zo146 : zok Try.prog 146 1 := by simp only [zok, zv146]; rfl
@[go_sem] theorem ty147 : tyv Try.prog 147 = some (false, 1) := by kernel_rfl
@[go_sem] theorem sl147 : slv Try.prog 147 = none := by kernel_rfl
@[go_sem] theorem zv147 : zv Try.prog 147 = some (.sc .nilFunc) := by kernel_rfl
@[go_sem] theorem zo147 : zok Try.prog 147 1 := by simp only [zok, zv147]; rfl
@[go_sem] theorem ty148 : tyv Try.prog 148 = some (false, 1) := by kernel_rfl
@[go_sem] theorem sl148 : slv Try.prog 148 = none := by kernel_rfl
@[go_sem] theorem zv148 : zv Try.prog 148 = some (.sc .nilFunc) := by kernel_rfl
@[go_sem] theorem zo148 : zok Try.prog 148 1 := by simp only [zok, zv148]; rfl
@[go_sem] theorem ty149 : tyv Try.prog 149 = some (false, 1) := by kernel_rfl
@[go_sem] theorem sl149 : slv Try.prog 149 = none := by kernel_rfl
@[go_sem] theorem zv149 : zv Try.prog 149 = some (.sc .nilFunc) := by kernel_rfl
@[go_sem] theorem zo149 : zok Try.prog 149 1 := by simp only [zok, zv149]; rfl
@[go_sem] theorem ty150 : tyv Try.prog 150 = some (false, 1) := by kernel_rfl
@[go_sem] theorem sl150 : slv Try.prog 150 = none := by kernel_rfl
@[go_sem] theorem zv150 : zv Try.prog 150 = some (.sc (.pointer none)) := by kernel_rfl
@[go_sem] theorem zo150 : zok Try.prog 150 1 := by simp only [zok, zv150]; rfl
@[go_sem] theorem ty151 : tyv Try.prog 151 = some (false, 1) := by kernel_rfl
@[go_sem] theorem sl151 : slv Try.prog 151 = none := by kernel_rfl
@[go_sem] theorem zv151 : zv Try.prog 151 = some (.sc .nilFunc) := by kernel_rfl
@[go_sem] theorem zo151 : zok Try.prog 151 1 := by simp only [zok, zv151]; rfl
@[go_sem] theorem ty152 : tyv Try.prog 152 = some (false, 1) := by kernel_rfl
@[go_sem] theorem sl152 : slv Try.prog 152 = none := by kernel_rfl
@[go_sem] theorem zv152 : zv Try.prog 152 = some (.sc .nilFunc) := by kernel_rfl
@[go_sem] theorem zo152 : zok Try.prog 152 1 := by simp only [zok, zv152]; rfl
@[go_sem] theorem ty153 : tyv Try.prog 153 = some (false, 1) := by kernel_rfl
@[go_sem] theorem sl153 : slv Try.prog 153 = none := by kernel_rfl
@[go_sem] theorem zv153 : zv Try.prog 153 = some (.sc .nilFunc) := by kernel_rfl
@[go_sem] theorem zo153 : zok Try.prog 153 1 := by simp only [zok, zv153]; rfl
@[go_sem] theorem ty154 : tyv Try.prog 154 = some (false, 1) := by kernel_rfl
@[go_sem] theorem sl154 : slv Try.prog 154 = none := by kernel_rfl
@[go_sem] theorem zv154 : zv Try.prog 154 = some (.sc .nilFunc) := by kernel_rfl
@[go_sem] theorem zo154 : zok Try.prog 154 1 := by simp only [zok, zv154]; rfl
@[go_sem] theorem ty155 : tyv Try.prog 155 = some (false, 1) := by kernel_rfl
@[go_sem] theorem sl155 : slv Try.prog 155 = none := by kernel_rfl
@[go_sem] theorem zv155 : zv Try.prog 155 = some (.sc .nilFunc) := by kernel_rfl
@[go_sem] theorem zo155 : zok Try.prog 155 1 := by simp only [zok, zv155]; rfl
@[go_sem] theorem ty156 : tyv Try.prog 156 = some (false, 1) := by kernel_rfl
@[go_sem] theorem sl156 : slv Try.prog 156 = none := by kernel_rfl
@[go_sem] theorem zv156 : zv Try.prog 156 = some (.sc .nilFunc) := by kernel_rfl
@[go_sem] theorem zo156 : zok Try.prog 156 1 := by simp only [zok, zv156]; rfl
@[go_sem] theorem ty157 : tyv Try.prog 157 = some (false, 1) := by kernel_rfl
@[go_sem] theorem sl157 : slv Try.prog 157 = none := by kernel_rfl
@[go_sem] theorem zv157 : zv Try.prog 157 = some (.sc .nilFunc) := by kernel_rfl
@[go_sem] theorem zo157 : zok Try.prog 157 1 := by simp only [zok, zv157]; rfl
@[go_sem] theorem ty158 : tyv Try.prog 158 = some (false, 1) := by kernel_rfl
@[go_sem] theorem sl158 : slv Try.prog 158 = none := by kernel_rfl
@[go_sem] theorem zv158 : zv Try.prog 158 = some (.sc .nilFunc) := by kernel_rfl
@[go_sem] theorem zo158 : zok Try.prog 158 1 := by simp only [zok, zv158]; rfl
@[go_sem] theorem ty159 : tyv Try.prog 159 = some (false, 1) := by kernel_rfl
@[go_sem] theorem mp159 : mpv Try.prog 159 = some ((.int .i64), 138) := by kernel_rfl
@[go_sem] theorem sl159 : slv Try.prog 159 = none := by kernel_rfl
@[go_sem] theorem zv159 : zv Try.prog 159 = some (.sc (.map none)) := by kernel_rfl
@[go_sem] theorem zo159 : zok Try.prog 159 1 := by simp only [zok, zv159]; rfl
@[go_sem] theorem ty161 : tyv Try.prog 161 = some (false, 1) := by kernel_rfl
@[go_sem] theorem sl161 : slv Try.prog 161 = none := by kernel_rfl
@[go_sem] theorem zv161 : zv Try.prog 161 = some (.sc (.pointer none)) := by kernel_rfl
@[go_sem] theorem zo161 : zok Try.prog 161 1 := by simp only [zok, zv161]; rfl
@[go_sem] theorem ty163 : tyv Try.prog 163 = some (false, 1) := by kernel_rfl
@[go_sem] theorem sl163 : slv Try.prog 163 = none := by kernel_rfl
@[go_sem] theorem zv163 : zv Try.prog 163 = some (.sc .nilFunc) := by kernel_rfl
@[go_sem] theorem zo163 : zok Try.prog 163 1 := by simp only [zok, zv163]; rfl
@[go_sem] theorem ty164 : tyv Try.prog 164 = some (false, 1) := by kernel_rfl
@[go_sem] theorem sl164 : slv Try.prog 164 = none := by kernel_rfl
@[go_sem] theorem zv164 : zv Try.prog 164 = some (.sc .nilFunc) := by kernel_rfl
@[go_sem] theorem zo164 : zok Try.prog 164 1 := by simp only [zok, zv164]; rfl
@[go_sem] theorem ty165 : tyv Try.prog 165 = some (false, 1) := by kernel_rfl
@[go_sem] theorem sl165 : slv Try.prog 165 = none := by kernel_rfl
@[go_sem] theorem zv165 : zv Try.prog 165 = some (.sc .nilFunc) := by kernel_rfl
@[go_sem] theorem zo165 : zok Try.prog 165 1 := by simp only [zok, zv165]; rfl
@[go_sem] theorem ty166 : tyv Try.prog 166 = some (false, 1) := by kernel_rfl
@[go_sem] theorem sl166 : slv Try.prog 166 = none := by kernel_rfl
@[go_sem] theorem zv166 : zv Try.prog 166 = some (.sc .nilFunc) := by kernel_rfl
@[go_sem] theorem zo166 : zok Try.prog 166 1 := by simp only [zok, zv166]; rfl
@[go_sem] theorem ty167 : tyv Try.prog 167 = some (false, 1) := by kernel_rfl
@[go_sem] theorem sl167 : slv Try.prog 167 = none := by kernel_rfl
@[go_sem] theorem zv167 : zv Try.prog 167 = some (.sc .nilFunc) := by kernel_rfl
@[go_sem] theorem zo167 : zok Try.prog 167 1 := by simp only [zok, zv167]; rfl
@[go_sem] theorem ty168 : tyv Try.prog 168 = some (false, 1) := by kernel_rfl
@[go_sem] theorem sl168 : slv Try.prog 168 = none := by kernel_rfl
@[go_sem] theorem zv168 : zv Try.prog 168 = some (.sc .nilFunc) := by kernel_rfl
@[go_sem] theorem zo168 : zok Try.prog 168 1 := by simp only [zok, zv168]; rfl
@[go_sem] theorem ty169 : tyv Try.prog 169 = some (false, 1) := by kernel_rfl
@[go_sem] theorem sl169 : slv Try.prog 169 = none := by kernel_rfl
@[go_sem] theorem zv169 : zv Try.prog 169 = some (.sc .nilFunc) := by kernel_rfl
@[go_sem] theorem zo169 : zok Try.prog 169 1 := by simp only [zok, zv169]; rfl
@[go_sem] theorem ty170 : tyv Try.prog 170 = some (false, 1) := by kernel_rfl
@[go_sem] theorem sl170 : slv Try.prog 170 = none := by kernel_rfl
@[go_sem] theorem zv170 : zv Try.prog 170 = some (.sc .nilFunc) := by kernel_rfl
@[go_sem] theorem zo170 : zok Try.prog 170 1 := by simp only [zok, zv170]; rfl
@[go_sem] theorem ty171 : tyv Try.prog 171 = some (false, 1) := by kernel_rfl
@[go_sem] theorem sl171 : slv Try.prog 171 = none := by kernel_rfl
@[go_sem] theorem zv171 : zv Try.prog 171 = some (.sc .nilFunc) := by kernel_rfl
@[go_sem] theorem zo171 : zok Try.prog 171 1 := by simp only [zok, zv171]; rfl
@[go_sem] theorem ty172 : tyv Try.prog 172 = some (false, 1) := by kernel_rfl
@[go_sem] theorem sl172 : slv Try.prog 172 = none := by kernel_rfl
@[go_sem] theorem zv172 : zv Try.prog 172 = some (.sc .nilFunc) := by kernel_rfl
@[go_sem] theorem zo172 : zok Try.prog 172 1 := by simp only [zok, zv172]; rfl
@[go_sem] theorem ty173 : tyv Try.prog 173 = some (false, 1) := by kernel_rfl
@[go_sem] theorem sl173 : slv Try.prog 173 = none := by kernel_rfl
@[go_sem] theorem zv173 : zv Try.prog 173 = some (.sc .nilFunc) := by kernel_rfl
@[go_sem] theorem zo173 : zok Try.prog 173 1 := by simp only [zok, zv173]; rfl
@[go_sem] theorem ty174 : tyv Try.prog 174 = some (false, 1) := by kernel_rfl
@[go_sem] theorem sl174 : slv Try.prog 174 = none := by kernel_rfl
@[go_sem] theorem zv174 : zv Try.prog 174 = some (.sc .nilFunc) := by kernel_rfl
@[go_sem] theorem zo174 : zok Try.prog 174 1 := by simp only [zok, zv174]; rfl
@[go_sem] theorem ty175 : tyv Try.prog 175 = some (false, 1) := by kernel_rfl
@[go_sem] theorem sl175 : slv Try.prog 175 = none := by kernel_rfl
@[go_sem] theorem zv175 : zv Try.prog 175 = some (.sc .nilFunc) := by kernel_rfl
@[go_sem] theorem zo175 : zok Try.prog 175 1 := by simp only [zok, zv175]; rfl
@[go_sem] theorem ty176 : tyv Try.prog 176 = some (false, 1) := by kernel_rfl
@[go_sem] theorem sl176 : slv Try.prog 176 = none := by kernel_rfl
@[go_sem] theorem zv176 : zv Try.prog 176 = some (.sc .nilFunc) := by kernel_rfl
@[go_sem] theorem zo176 : zok Try.prog 176 1 := by simp only [zok, zv176]; rfl
@[go_sem] theorem ty177 : tyv Try.prog 177 = some (true, 4) := by kernel_rfl
@[go_sem] theorem sl177 : slv Try.prog 177 = none := by kernel_rfl
@[go_sem] theorem fl177_0 : fldv Try.prog 177 0 = some (0, false, 1) := by kernel_rfl
@[go_sem] theorem fl177_1 : fldv Try.prog 177 1 = some (1, false, 1) := by kernel_rfl
@[go_sem] theorem fl177_2 : fldv Try.prog 177 2 = some (2, false, 1) := by kernel_rfl
@[go_sem] theorem fl177_3 : fldv Try.prog 177 3 = some (3, false, 1) := by kernel_rfl
@[go_sem] theorem pl177 : places Try.prog 177 = some [(0, 1), (1, 1), (2, 1), (3, 1)] := by kernel_rfl
@[go_sem] theorem zv177 : zv Try.prog 177 = some (.agg [.sc (.pointer none), .sc (.pointer none), .sc (.pointer none), .sc (.string ByteArray.empty)]) := by kernel_rfl
@[go_sem] theorem zo177 : zok Try.prog 177 4 := by simp only [zok, zv177]; rfl
@[go_sem] theorem ty179 : tyv Try.prog 179 = some (true, 0) := by kernel_rfl
@[go_sem] theorem sl179 : slv Try.prog 179 = none := by kernel_rfl
@[go_sem] theorem ar179 : arv Try.prog 179 = some (0, false, 1) := by kernel_rfl
@[go_sem] theorem zv179 : zv Try.prog 179 = some (.agg []) := by kernel_rfl
@[go_sem] theorem ty180 : tyv Try.prog 180 = some (true, 0) := by kernel_rfl
@[go_sem] theorem sl180 : slv Try.prog 180 = none := by kernel_rfl
@[go_sem] theorem pl180 : places Try.prog 180 = some [(0, 0)] := by kernel_rfl
@[go_sem] theorem zv180 : zv Try.prog 180 = some (.agg []) := by kernel_rfl
@[go_sem] theorem ty182 : tyv Try.prog 182 = some (false, 1) := by kernel_rfl
@[go_sem] theorem sl182 : slv Try.prog 182 = none := by kernel_rfl
@[go_sem] theorem zv182 : zv Try.prog 182 = some (.sc .nilFunc) := by kernel_rfl
@[go_sem] theorem zo182 : zok Try.prog 182 1 := by simp only [zok, zv182]; rfl
@[go_sem] theorem ty185 : tyv Try.prog 185 = some (false, 1) := by kernel_rfl
@[go_sem] theorem sl185 : slv Try.prog 185 = none := by kernel_rfl
@[go_sem] theorem zv185 : zv Try.prog 185 = some (.sc .nilFunc) := by kernel_rfl
@[go_sem] theorem zo185 : zok Try.prog 185 1 := by simp only [zok, zv185]; rfl
@[go_sem] theorem ty186 : tyv Try.prog 186 = some (false, 1) := by kernel_rfl
@[go_sem] theorem sl186 : slv Try.prog 186 = none := by kernel_rfl
@[go_sem] theorem zv186 : zv Try.prog 186 = some (.sc (.pointer none)) := by kernel_rfl
@[go_sem] theorem zo186 : zok Try.prog 186 1 := by simp only [zok, zv186]; rfl
@[go_sem] theorem ty189 : tyv Try.prog 189 = some (true, 11) := by kernel_rfl
@[go_sem] theorem sl189 : slv Try.prog 189 = none := by kernel_rfl
@[go_sem] theorem fl189_0 : fldv Try.prog 189 0 = some (0, false, 1) := by kernel_rfl
@[go_sem] theorem fl189_1 : fldv Try.prog 189 1 = some (1, false, 1) := by kernel_rfl
@[go_sem] theorem fl189_2 : fldv Try.prog 189 2 = some (2, false, 1) := by kernel_rfl
@[go_sem] theorem fl189_3 : fldv Try.prog 189 3 = some (3, false, 1) := by kernel_rfl
@[go_sem] theorem fl189_4 : fldv Try.prog 189 4 = some (4, false, 1) := by kernel_rfl
@[go_sem] theorem fl189_5 : fldv Try.prog 189 5 = some (5, false, 1) := by kernel_rfl
@[go_sem] theorem fl189_6 : fldv Try.prog 189 6 = some (6, false, 1) := by kernel_rfl
@[go_sem] theorem fl189_7 : fldv Try.prog 189 7 = some (7, false, 1) := by kernel_rfl
@[go_sem] theorem fl189_8 : fldv Try.prog 189 8 = some (8, false, 1) := by kernel_rfl
@[go_sem] theorem fl189_9 : fldv Try.prog 189 9 = some (9, false, 1) := by kernel_rfl
@[go_sem] theorem fl189_10 : fldv Try.prog 189 10 = some (10, false, 1) := by kernel_rfl
@[go_sem] theorem pl189 : places Try.prog 189 = some [(0, 1), (1, 1), (2, 1), (3, 1), (4, 1), (5, 1), (6, 1), (7, 1), (8, 1), (9, 1), (10, 1)] := by kernel_rfl
@[go_sem] theorem zv189 : zv Try.prog 189 = some (.agg [.sc (.int .u64 0), .sc (.int .u64 0), .sc (.int .u32 0), .sc (.int .u8 0), .sc (.int .u8 0), .sc (.int .u8 0), .sc (.int .u8 0), .sc .nilFunc, .sc (.pointer none), .sc (.int .i32 0), .sc (.int .i32 0)]) := by kernel_rfl
@[go_sem] theorem zo189 : zok Try.prog 189 11 := by simp only [zok, zv189]; rfl
theorem hb3 : hasBody Try.prog 3 := ⟨Try.f3, _, Try.func3, rfl, by decide +kernel⟩
theorem hb4 : hasBody Try.prog 4 := ⟨Try.f4, _, Try.func4, rfl, by decide +kernel⟩
theorem hb5 : hasBody Try.prog 5 := ⟨Try.f5, _, Try.func5, rfl, by decide +kernel⟩
theorem hb6 : hasBody Try.prog 6 := ⟨Try.f6, _, Try.func6, rfl, by decide +kernel⟩
theorem hb7 : hasBody Try.prog 7 := ⟨Try.f7, _, Try.func7, rfl, by decide +kernel⟩
theorem hb8 : hasBody Try.prog 8 := ⟨Try.f8, _, Try.func8, rfl, by decide +kernel⟩
theorem hb9 : hasBody Try.prog 9 := ⟨Try.f9, _, Try.func9, rfl, by decide +kernel⟩
theorem hb10 : hasBody Try.prog 10 := ⟨Try.f10, _, Try.func10, rfl, by decide +kernel⟩
theorem hb11 : hasBody Try.prog 11 := ⟨Try.f11, _, Try.func11, rfl, by decide +kernel⟩
theorem hb12 : hasBody Try.prog 12 := ⟨Try.f12, _, Try.func12, rfl, by decide +kernel⟩
theorem hb13 : hasBody Try.prog 13 := ⟨Try.f13, _, Try.func13, rfl, by decide +kernel⟩
theorem hb14 : hasBody Try.prog 14 := ⟨Try.f14, _, Try.func14, rfl, by decide +kernel⟩
theorem hb15 : hasBody Try.prog 15 := ⟨Try.f15, _, Try.func15, rfl, by decide +kernel⟩
theorem hb16 : hasBody Try.prog 16 := ⟨Try.f16, _, Try.func16, rfl, by decide +kernel⟩
theorem hb17 : hasBody Try.prog 17 := ⟨Try.f17, _, Try.func17, rfl, by decide +kernel⟩
theorem hb18 : hasBody Try.prog 18 := ⟨Try.f18, _, Try.func18, rfl, by decide +kernel⟩
theorem hb19 : hasBody Try.prog 19 := ⟨Try.f19, _, Try.func19, rfl, by decide +kernel⟩
theorem hb20 : hasBody Try.prog 20 := ⟨Try.f20, _, Try.func20, rfl, by decide +kernel⟩
theorem hb21 : hasBody Try.prog 21 := ⟨Try.f21, _, Try.func21, rfl, by decide +kernel⟩
theorem hb22 : hasBody Try.prog 22 := ⟨Try.f22, _, Try.func22, rfl, by decide +kernel⟩
theorem hb23 : hasBody Try.prog 23 := ⟨Try.f23, _, Try.func23, rfl, by decide +kernel⟩
theorem hb24 : hasBody Try.prog 24 := ⟨Try.f24, _, Try.func24, rfl, by decide +kernel⟩
theorem hb25 : hasBody Try.prog 25 := ⟨Try.f25, _, Try.func25, rfl, by decide +kernel⟩
theorem hb26 : hasBody Try.prog 26 := ⟨Try.f26, _, Try.func26, rfl, by decide +kernel⟩
theorem hb27 : hasBody Try.prog 27 := ⟨Try.f27, _, Try.func27, rfl, by decide +kernel⟩
theorem hb28 : hasBody Try.prog 28 := ⟨Try.f28, _, Try.func28, rfl, by decide +kernel⟩
theorem hb29 : hasBody Try.prog 29 := ⟨Try.f29, _, Try.func29, rfl, by decide +kernel⟩
theorem hb30 : hasBody Try.prog 30 := ⟨Try.f30, _, Try.func30, rfl, by decide +kernel⟩
theorem hb31 : hasBody Try.prog 31 := ⟨Try.f31, _, Try.func31, rfl, by decide +kernel⟩
theorem hb32 : hasBody Try.prog 32 := ⟨Try.f32, _, Try.func32, rfl, by decide +kernel⟩
theorem hb33 : hasBody Try.prog 33 := ⟨Try.f33, _, Try.func33, rfl, by decide +kernel⟩
theorem hb34 : hasBody Try.prog 34 := ⟨Try.f34, _, Try.func34, rfl, by decide +kernel⟩
theorem hb35 : hasBody Try.prog 35 := ⟨Try.f35, _, Try.func35, rfl, by decide +kernel⟩
theorem hb36 : hasBody Try.prog 36 := ⟨Try.f36, _, Try.func36, rfl, by decide +kernel⟩
theorem hb37 : hasBody Try.prog 37 := ⟨Try.f37, _, Try.func37, rfl, by decide +kernel⟩
theorem hb38 : hasBody Try.prog 38 := ⟨Try.f38, _, Try.func38, rfl, by decide +kernel⟩
theorem hb39 : hasBody Try.prog 39 := ⟨Try.f39, _, Try.func39, rfl, by decide +kernel⟩
theorem hb40 : hasBody Try.prog 40 := ⟨Try.f40, _, Try.func40, rfl, by decide +kernel⟩
theorem hb41 : hasBody Try.prog 41 := ⟨Try.f41, _, Try.func41, rfl, by decide +kernel⟩
theorem hb42 : hasBody Try.prog 42 := ⟨Try.f42, _, Try.func42, rfl, by decide +kernel⟩
theorem hb43 : hasBody Try.prog 43 := ⟨Try.f43, _, Try.func43, rfl, by decide +kernel⟩
theorem hb44 : hasBody Try.prog 44 := ⟨Try.f44, _, Try.func44, rfl, by decide +kernel⟩
theorem hb45 : hasBody Try.prog 45 := ⟨Try.f45, _, Try.func45, rfl, by decide +kernel⟩
theorem hb46 : hasBody Try.prog 46 := ⟨Try.f46, _, Try.func46, rfl, by decide +kernel⟩
theorem hb47 : hasBody Try.prog 47 := ⟨Try.f47, _, Try.func47, rfl, by decide +kernel⟩
theorem hb48 : hasBody Try.prog 48 := ⟨Try.f48, _, Try.func48, rfl, by decide +kernel⟩
theorem hb49 : hasBody Try.prog 49 := ⟨Try.f49, _, Try.func49, rfl, by decide +kernel⟩
theorem hb50 : hasBody Try.prog 50 := ⟨Try.f50, _, Try.func50, rfl, by decide +kernel⟩
theorem hb51 : hasBody Try.prog 51 := ⟨Try.f51, _, Try.func51, rfl, by decide +kernel⟩
theorem hb52 : hasBody Try.prog 52 := ⟨Try.f52, _, Try.func52, rfl, by decide +kernel⟩
theorem hb53 : hasBody Try.prog 53 := ⟨Try.f53, _, Try.func53, rfl, by decide +kernel⟩
theorem hb54 : hasBody Try.prog 54 := ⟨Try.f54, _, Try.func54, rfl, by decide +kernel⟩
theorem hb55 : hasBody Try.prog 55 := ⟨Try.f55, _, Try.func55, rfl, by decide +kernel⟩
theorem hb56 : hasBody Try.prog 56 := ⟨Try.f56, _, Try.func56, rfl, by decide +kernel⟩
theorem hb57 : hasBody Try.prog 57 := ⟨Try.f57, _, Try.func57, rfl, by decide +kernel⟩
theorem hb58 : hasBody Try.prog 58 := ⟨Try.f58, _, Try.func58, rfl, by decide +kernel⟩
theorem hb59 : hasBody Try.prog 59 := ⟨Try.f59, _, Try.func59, rfl, by decide +kernel⟩
theorem hb60 : hasBody Try.prog 60 := ⟨Try.f60, _, Try.func60, rfl, by decide +kernel⟩
theorem hb61 : hasBody Try.prog 61 := ⟨Try.f61, _, Try.func61, rfl, by decide +kernel⟩
theorem hb62 : hasBody Try.prog 62 := ⟨Try.f62, _, Try.func62, rfl, by decide +kernel⟩
theorem hb63 : hasBody Try.prog 63 := ⟨Try.f63, _, Try.func63, rfl, by decide +kernel⟩
theorem hb64 : hasBody Try.prog 64 := ⟨Try.f64, _, Try.func64, rfl, by decide +kernel⟩
theorem hb65 : hasBody Try.prog 65 := ⟨Try.f65, _, Try.func65, rfl, by decide +kernel⟩
theorem hb66 : hasBody Try.prog 66 := ⟨Try.f66, _, Try.func66, rfl, by decide +kernel⟩
theorem hb67 : hasBody Try.prog 67 := ⟨Try.f67, _, Try.func67, rfl, by decide +kernel⟩
theorem hb68 : hasBody Try.prog 68 := ⟨Try.f68, _, Try.func68, rfl, by decide +kernel⟩
theorem hb69 : hasBody Try.prog 69 := ⟨Try.f69, _, Try.func69, rfl, by decide +kernel⟩
theorem hb70 : hasBody Try.prog 70 := ⟨Try.f70, _, Try.func70, rfl, by decide +kernel⟩
theorem hb71 : hasBody Try.prog 71 := ⟨Try.f71, _, Try.func71, rfl, by decide +kernel⟩
theorem hb72 : hasBody Try.prog 72 := ⟨Try.f72, _, Try.func72, rfl, by decide +kernel⟩
theorem hb73 : hasBody Try.prog 73 := ⟨Try.f73, _, Try.func73, rfl, by decide +kernel⟩
theorem hb74 : hasBody Try.prog 74 := ⟨Try.f74, _, Try.func74, rfl, by decide +kernel⟩
theorem hb75 : hasBody Try.prog 75 := ⟨Try.f75, _, Try.func75, rfl, by decide +kernel⟩
theorem hb76 : hasBody Try.prog 76 := ⟨Try.f76, _, Try.func76, rfl, by decide +kernel⟩
theorem hb77 : hasBody Try.prog 77 := ⟨Try.f77, _, Try.func77, rfl, by decide +kernel⟩
theorem hb78 : hasBody Try.prog 78 := ⟨Try.f78, _, Try.func78, rfl, by decide +kernel⟩
theorem hb79 : hasBody Try.prog 79 := ⟨Try.f79, _, Try.func79, rfl, by decide +kernel⟩
theorem hb80 : hasBody Try.prog 80 := ⟨Try.f80, _, Try.func80, rfl, by decide +kernel⟩
theorem hb81 : hasBody Try.prog 81 := ⟨Try.f81, _, Try.func81, rfl, by decide +kernel⟩
theorem hb82 : hasBody Try.prog 82 := ⟨Try.f82, _, Try.func82, rfl, by decide +kernel⟩
theorem hb83 : hasBody Try.prog 83 := ⟨Try.f83, _, Try.func83, rfl, by decide +kernel⟩
theorem hb84 : hasBody Try.prog 84 := ⟨Try.f84, _, Try.func84, rfl, by decide +kernel⟩
theorem hb85 : hasBody Try.prog 85 := ⟨Try.f85, _, Try.func85, rfl, by decide +kernel⟩
theorem hb86 : hasBody Try.prog 86 := ⟨Try.f86, _, Try.func86, rfl, by decide +kernel⟩
theorem hb87 : hasBody Try.prog 87 := ⟨Try.f87, _, Try.func87, rfl, by decide +kernel⟩
theorem hb88 : hasBody Try.prog 88 := ⟨Try.f88, _, Try.func88, rfl, by decide +kernel⟩
theorem hb89 : hasBody Try.prog 89 := ⟨Try.f89, _, Try.func89, rfl, by decide +kernel⟩
theorem hb90 : hasBody Try.prog 90 := ⟨Try.f90, _, Try.func90, rfl, by decide +kernel⟩
theorem hb91 : hasBody Try.prog 91 := ⟨Try.f91, _, Try.func91, rfl, by decide +kernel⟩
theorem hb92 : hasBody Try.prog 92 := ⟨Try.f92, _, Try.func92, rfl, by decide +kernel⟩
theorem hb93 : hasBody Try.prog 93 := ⟨Try.f93, _, Try.func93, rfl, by decide +kernel⟩
theorem hb94 : hasBody Try.prog 94 := ⟨Try.f94, _, Try.func94, rfl, by decide +kernel⟩
theorem hb95 : hasBody Try.prog 95 := ⟨Try.f95, _, Try.func95, rfl, by decide +kernel⟩
theorem hb96 : hasBody Try.prog 96 := ⟨Try.f96, _, Try.func96, rfl, by decide +kernel⟩
theorem hb97 : hasBody Try.prog 97 := ⟨Try.f97, _, Try.func97, rfl, by decide +kernel⟩
theorem hb98 : hasBody Try.prog 98 := ⟨Try.f98, _, Try.func98, rfl, by decide +kernel⟩
theorem hb99 : hasBody Try.prog 99 := ⟨Try.f99, _, Try.func99, rfl, by decide +kernel⟩
theorem hb100 : hasBody Try.prog 100 := ⟨Try.f100, _, Try.func100, rfl, by decide +kernel⟩
theorem hb101 : hasBody Try.prog 101 := ⟨Try.f101, _, Try.func101, rfl, by decide +kernel⟩
theorem hb102 : hasBody Try.prog 102 := ⟨Try.f102, _, Try.func102, rfl, by decide +kernel⟩
theorem hb103 : hasBody Try.prog 103 := ⟨Try.f103, _, Try.func103, rfl, by decide +kernel⟩
theorem hb104 : hasBody Try.prog 104 := ⟨Try.f104, _, Try.func104, rfl, by decide +kernel⟩
theorem hb105 : hasBody Try.prog 105 := ⟨Try.f105, _, Try.func105, rfl, by decide +kernel⟩
theorem hb106 : hasBody Try.prog 106 := ⟨Try.f106, _, Try.func106, rfl, by decide +kernel⟩
theorem hb107 : hasBody Try.prog 107 := ⟨Try.f107, _, Try.func107, rfl, by decide +kernel⟩
theorem hb108 : hasBody Try.prog 108 := ⟨Try.f108, _, Try.func108, rfl, by decide +kernel⟩
theorem hb109 : hasBody Try.prog 109 := ⟨Try.f109, _, Try.func109, rfl, by decide +kernel⟩
theorem hb110 : hasBody Try.prog 110 := ⟨Try.f110, _, Try.func110, rfl, by decide +kernel⟩
theorem hb111 : hasBody Try.prog 111 := ⟨Try.f111, _, Try.func111, rfl, by decide +kernel⟩
theorem hb113 : hasBody Try.prog 113 := ⟨Try.f113, _, Try.func113, rfl, by decide +kernel⟩
theorem hb114 : hasBody Try.prog 114 := ⟨Try.f114, _, Try.func114, rfl, by decide +kernel⟩
theorem hb115 : hasBody Try.prog 115 := ⟨Try.f115, _, Try.func115, rfl, by decide +kernel⟩
theorem hb116 : hasBody Try.prog 116 := ⟨Try.f116, _, Try.func116, rfl, by decide +kernel⟩
theorem hb117 : hasBody Try.prog 117 := ⟨Try.f117, _, Try.func117, rfl, by decide +kernel⟩
theorem hb118 : hasBody Try.prog 118 := ⟨Try.f118, _, Try.func118, rfl, by decide +kernel⟩
theorem hb119 : hasBody Try.prog 119 := ⟨Try.f119, _, Try.func119, rfl, by decide +kernel⟩
theorem hb120 : hasBody Try.prog 120 := ⟨Try.f120, _, Try.func120, rfl, by decide +kernel⟩
theorem hb122 : hasBody Try.prog 122 := ⟨Try.f122, _, Try.func122, rfl, by decide +kernel⟩
theorem hb123 : hasBody Try.prog 123 := ⟨Try.f123, _, Try.func123, rfl, by decide +kernel⟩
theorem hb124 : hasBody Try.prog 124 := ⟨Try.f124, _, Try.func124, rfl, by decide +kernel⟩
theorem hb125 : hasBody Try.prog 125 := ⟨Try.f125, _, Try.func125, rfl, by decide +kernel⟩
theorem hb126 : hasBody Try.prog 126 := ⟨Try.f126, _, Try.func126, rfl, by decide +kernel⟩
theorem hb127 : hasBody Try.prog 127 := ⟨Try.f127, _, Try.func127, rfl, by decide +kernel⟩
theorem hb128 : hasBody Try.prog 128 := ⟨Try.f128, _, Try.func128, rfl, by decide +kernel⟩
theorem hb129 : hasBody Try.prog 129 := ⟨Try.f129, _, Try.func129, rfl, by decide +kernel⟩
theorem hb130 : hasBody Try.prog 130 := ⟨Try.f130, _, Try.func130, rfl, by decide +kernel⟩
theorem hb131 : hasBody Try.prog 131 := ⟨Try.f131, _, Try.func131, rfl, by decide +kernel⟩
theorem hb132 : hasBody Try.prog 132 := ⟨Try.f132, _, Try.func132, rfl, by decide +kernel⟩
theorem hb133 : hasBody Try.prog 133 := ⟨Try.f133, _, Try.func133, rfl, by decide +kernel⟩
theorem hb134 : hasBody Try.prog 134 := ⟨Try.f134, _, Try.func134, rfl, by decide +kernel⟩
theorem hb135 : hasBody Try.prog 135 := ⟨Try.f135, _, Try.func135, rfl, by decide +kernel⟩
theorem hb136 : hasBody Try.prog 136 := ⟨Try.f136, _, Try.func136, rfl, by decide +kernel⟩
theorem hb137 : hasBody Try.prog 137 := ⟨Try.f137, _, Try.func137, rfl, by decide +kernel⟩
theorem hb138 : hasBody Try.prog 138 := ⟨Try.f138, _, Try.func138, rfl, by decide +kernel⟩
theorem hb139 : hasBody Try.prog 139 := ⟨Try.f139, _, Try.func139, rfl, by decide +kernel⟩
theorem hb140 : hasBody Try.prog 140 := ⟨Try.f140, _, Try.func140, rfl, by decide +kernel⟩
theorem hb141 : hasBody Try.prog 141 := ⟨Try.f141, _, Try.func141, rfl, by decide +kernel⟩
theorem hb143 : hasBody Try.prog 143 := ⟨Try.f143, _, Try.func143, rfl, by decide +kernel⟩
theorem hb145 : hasBody Try.prog 145 := ⟨Try.f145, _, Try.func145, rfl, by decide +kernel⟩
theorem hb146 : hasBody Try.prog 146 := ⟨Try.f146, _, Try.func146, rfl, by decide +kernel⟩
theorem hb147 : hasBody Try.prog 147 := ⟨Try.f147, _, Try.func147, rfl, by decide +kernel⟩
theorem hb148 : hasBody Try.prog 148 := ⟨Try.f148, _, Try.func148, rfl, by decide +kernel⟩
theorem hb149 : hasBody Try.prog 149 := ⟨Try.f149, _, Try.func149, rfl, by decide +kernel⟩
end Go.Proofs
