/- Facts about the types and functions of this seat, for the abstract machine (written by gentypes.py). -/
import Derived.Test.YtmhnmookgbmmbaaMe
import Derived.Test.YtmhnmookgbmmbaaProg
import Derived.KernelRfl
set_option maxRecDepth 8000
namespace Go.Proofs
open Go.AM
theorem mixed : Try.prog.follows .mixedOrders = true := by kernel_rfl
@[go_sem] theorem ty1 : tyv Try.prog 1 = some (false, 1) := by kernel_rfl
instance ity1 : TyF Try.prog 1 false 1 := ⟨ty1⟩
@[go_sem] theorem sl1 : slv Try.prog 1 = none := by kernel_rfl
instance isl1 : SlN Try.prog 1 := ⟨sl1⟩
@[go_sem] theorem zv1 : zv Try.prog 1 = some (.sc .nilFunc) := by kernel_rfl
instance izv1 : ZvF Try.prog 1 (.sc .nilFunc) := ⟨zv1⟩
@[go_sem] theorem zo1 : zok Try.prog 1 1 := by simp only [zok, zv1]; rfl
instance izo1 : ZoF Try.prog 1 1 := ⟨zo1⟩
@[go_sem] theorem ty2 : tyv Try.prog 2 = some (false, 1) := by kernel_rfl
instance ity2 : TyF Try.prog 2 false 1 := ⟨ty2⟩
@[go_sem] theorem un2 : Try.prog.underlying 2 = some (.int .i64) := by kernel_rfl
instance iun2 : UnF Try.prog 2 (.int .i64) := ⟨un2⟩
@[go_sem] theorem sl2 : slv Try.prog 2 = none := by kernel_rfl
instance isl2 : SlN Try.prog 2 := ⟨sl2⟩
@[go_sem] theorem zv2 : zv Try.prog 2 = some (.sc (.int .i64 0)) := by kernel_rfl
instance izv2 : ZvF Try.prog 2 (.sc (.int .i64 0)) := ⟨zv2⟩
@[go_sem] theorem zo2 : zok Try.prog 2 1 := by simp only [zok, zv2]; rfl
instance izo2 : ZoF Try.prog 2 1 := ⟨zo2⟩
@[go_sem] theorem ty3 : tyv Try.prog 3 = some (false, 1) := by kernel_rfl
instance ity3 : TyF Try.prog 3 false 1 := ⟨ty3⟩
@[go_sem] theorem un3 : Try.prog.underlying 3 = some (.int .i64) := by kernel_rfl
instance iun3 : UnF Try.prog 3 (.int .i64) := ⟨un3⟩
@[go_sem] theorem sl3 : slv Try.prog 3 = none := by kernel_rfl
instance isl3 : SlN Try.prog 3 := ⟨sl3⟩
@[go_sem] theorem zv3 : zv Try.prog 3 = some (.sc (.int .i64 0)) := by kernel_rfl
instance izv3 : ZvF Try.prog 3 (.sc (.int .i64 0)) := ⟨zv3⟩
@[go_sem] theorem zo3 : zok Try.prog 3 1 := by simp only [zok, zv3]; rfl
instance izo3 : ZoF Try.prog 3 1 := ⟨zo3⟩
@[go_sem] theorem ty4 : tyv Try.prog 4 = some (false, 1) := by kernel_rfl
instance ity4 : TyF Try.prog 4 false 1 := ⟨ty4⟩
@[go_sem] theorem un4 : Try.prog.underlying 4 = some .bool := by kernel_rfl
instance iun4 : UnF Try.prog 4 .bool := ⟨un4⟩
@[go_sem] theorem sl4 : slv Try.prog 4 = none := by kernel_rfl
instance isl4 : SlN Try.prog 4 := ⟨sl4⟩
@[go_sem] theorem zv4 : zv Try.prog 4 = some (.sc (.bool false)) := by kernel_rfl
instance izv4 : ZvF Try.prog 4 (.sc (.bool false)) := ⟨zv4⟩
@[go_sem] theorem zo4 : zok Try.prog 4 1 := by simp only [zok, zv4]; rfl
instance izo4 : ZoF Try.prog 4 1 := ⟨zo4⟩
@[go_sem] theorem ty5 : tyv Try.prog 5 = some (false, 1) := by kernel_rfl
instance ity5 : TyF Try.prog 5 false 1 := ⟨ty5⟩
@[go_sem] theorem un5 : Try.prog.underlying 5 = some (.int .u8) := by kernel_rfl
instance iun5 : UnF Try.prog 5 (.int .u8) := ⟨un5⟩
@[go_sem] theorem sl5 : slv Try.prog 5 = none := by kernel_rfl
instance isl5 : SlN Try.prog 5 := ⟨sl5⟩
@[go_sem] theorem zv5 : zv Try.prog 5 = some (.sc (.int .u8 0)) := by kernel_rfl
instance izv5 : ZvF Try.prog 5 (.sc (.int .u8 0)) := ⟨zv5⟩
@[go_sem] theorem zo5 : zok Try.prog 5 1 := by simp only [zok, zv5]; rfl
instance izo5 : ZoF Try.prog 5 1 := ⟨zo5⟩
@[go_sem] theorem ty7 : tyv Try.prog 7 = some (true, 4) := by kernel_rfl
instance ity7 : TyF Try.prog 7 true 4 := ⟨ty7⟩
@[go_sem] theorem sl7 : slv Try.prog 7 = none := by kernel_rfl
instance isl7 : SlN Try.prog 7 := ⟨sl7⟩
@[go_sem] theorem fl7_0 : fldv Try.prog 7 0 = some (0, false, 1) := by kernel_rfl
instance ifl7_0 : FlF Try.prog 7 0 0 false 1 := ⟨fl7_0⟩
@[go_sem] theorem fl7_1 : fldv Try.prog 7 1 = some (1, false, 1) := by kernel_rfl
instance ifl7_1 : FlF Try.prog 7 1 1 false 1 := ⟨fl7_1⟩
@[go_sem] theorem fl7_2 : fldv Try.prog 7 2 = some (2, false, 1) := by kernel_rfl
instance ifl7_2 : FlF Try.prog 7 2 2 false 1 := ⟨fl7_2⟩
@[go_sem] theorem fl7_3 : fldv Try.prog 7 3 = some (3, false, 1) := by kernel_rfl
instance ifl7_3 : FlF Try.prog 7 3 3 false 1 := ⟨fl7_3⟩
@[go_sem] theorem pl7 : places Try.prog 7 = some [(0, 1), (1, 1), (2, 1), (3, 1)] := by kernel_rfl
instance ipl7 : PlF Try.prog 7 [(0, 1), (1, 1), (2, 1), (3, 1)] := ⟨pl7⟩
@[go_sem] theorem zv7 : zv Try.prog 7 = some (.agg [.sc (.int .i64 0), .sc (.int .i64 0), .sc (.bool false), .sc (.int .u8 0)]) := by kernel_rfl
instance izv7 : ZvF Try.prog 7 (.agg [.sc (.int .i64 0), .sc (.int .i64 0), .sc (.bool false), .sc (.int .u8 0)]) := ⟨zv7⟩
@[go_sem] theorem zo7 : zok Try.prog 7 4 := by simp only [zok, zv7]; rfl
instance izo7 : ZoF Try.prog 7 4 := ⟨zo7⟩
@[go_sem] theorem ty9 : tyv Try.prog 9 = some (false, 1) := by kernel_rfl
instance ity9 : TyF Try.prog 9 false 1 := ⟨ty9⟩
@[go_sem] theorem un9 : Try.prog.underlying 9 = some .string := by kernel_rfl
instance iun9 : UnF Try.prog 9 .string := ⟨un9⟩
@[go_sem] theorem sl9 : slv Try.prog 9 = none := by kernel_rfl
instance isl9 : SlN Try.prog 9 := ⟨sl9⟩
@[go_sem] theorem ar9 : arv Try.prog 9 = none := by kernel_rfl
@[go_sem] theorem zv9 : zv Try.prog 9 = some (.sc (.string ByteArray.empty)) := by kernel_rfl
instance izv9 : ZvF Try.prog 9 (.sc (.string ByteArray.empty)) := ⟨zv9⟩
@[go_sem] theorem zo9 : zok Try.prog 9 1 := by simp only [zok, zv9]; rfl
instance izo9 : ZoF Try.prog 9 1 := ⟨zo9⟩
@[go_sem] theorem ty12 : tyv Try.prog 12 = some (false, 1) := by kernel_rfl
instance ity12 : TyF Try.prog 12 false 1 := ⟨ty12⟩
@[go_sem] theorem un12 : Try.prog.underlying 12 = some (.int .u64) := by kernel_rfl
instance iun12 : UnF Try.prog 12 (.int .u64) := ⟨un12⟩
@[go_sem] theorem sl12 : slv Try.prog 12 = none := by kernel_rfl
instance isl12 : SlN Try.prog 12 := ⟨sl12⟩
@[go_sem] theorem zv12 : zv Try.prog 12 = some (.sc (.int .u64 0)) := by kernel_rfl
instance izv12 : ZvF Try.prog 12 (.sc (.int .u64 0)) := ⟨zv12⟩
@[go_sem] theorem zo12 : zok Try.prog 12 1 := by simp only [zok, zv12]; rfl
instance izo12 : ZoF Try.prog 12 1 := ⟨zo12⟩
@[go_sem] theorem ty13 : tyv Try.prog 13 = some (true, 2) := by kernel_rfl
instance ity13 : TyF Try.prog 13 true 2 := ⟨ty13⟩
@[go_sem] theorem sl13 : slv Try.prog 13 = none := by kernel_rfl
instance isl13 : SlN Try.prog 13 := ⟨sl13⟩
@[go_sem] theorem fl13_0 : fldv Try.prog 13 0 = some (0, false, 1) := by kernel_rfl
instance ifl13_0 : FlF Try.prog 13 0 0 false 1 := ⟨fl13_0⟩
@[go_sem] theorem fl13_1 : fldv Try.prog 13 1 = some (1, false, 1) := by kernel_rfl
instance ifl13_1 : FlF Try.prog 13 1 1 false 1 := ⟨fl13_1⟩
@[go_sem] theorem pl13 : places Try.prog 13 = some [(0, 1), (1, 1)] := by kernel_rfl
instance ipl13 : PlF Try.prog 13 [(0, 1), (1, 1)] := ⟨pl13⟩
@[go_sem] theorem zv13 : zv Try.prog 13 = some (.agg [.sc (.string ByteArray.empty), .sc (.int .u64 0)]) := by kernel_rfl
instance izv13 : ZvF Try.prog 13 (.agg [.sc (.string ByteArray.empty), .sc (.int .u64 0)]) := ⟨zv13⟩
@[go_sem] theorem zo13 : zok Try.prog 13 2 := by simp only [zok, zv13]; rfl
instance izo13 : ZoF Try.prog 13 2 := ⟨zo13⟩
@[go_sem] theorem ty15 : tyv Try.prog 15 = some (false, 1) := by kernel_rfl
instance ity15 : TyF Try.prog 15 false 1 := ⟨ty15⟩
@[go_sem] theorem sl15 : slv Try.prog 15 = none := by kernel_rfl
instance isl15 : SlN Try.prog 15 := ⟨sl15⟩
@[go_sem] theorem zv15 : zv Try.prog 15 = some (.sc (.pointer none)) := by kernel_rfl
instance izv15 : ZvF Try.prog 15 (.sc (.pointer none)) := ⟨zv15⟩
@[go_sem] theorem zo15 : zok Try.prog 15 1 := by simp only [zok, zv15]; rfl
instance izo15 : ZoF Try.prog 15 1 := ⟨zo15⟩
@[go_sem] theorem ty16 : tyv Try.prog 16 = some (false, 1) := by kernel_rfl
instance ity16 : TyF Try.prog 16 false 1 := ⟨ty16⟩
@[go_sem] theorem sl16 : slv Try.prog 16 = none := by kernel_rfl
instance isl16 : SlN Try.prog 16 := ⟨sl16⟩
@[go_sem] theorem zv16 : zv Try.prog 16 = some (.sc (.pointer none)) := by kernel_rfl
instance izv16 : ZvF Try.prog 16 (.sc (.pointer none)) := ⟨zv16⟩
@[go_sem] theorem zo16 : zok Try.prog 16 1 := by simp only [zok, zv16]; rfl
instance izo16 : ZoF Try.prog 16 1 := ⟨zo16⟩
@[go_sem] theorem ty17 : tyv Try.prog 17 = some (false, 1) := by kernel_rfl
instance ity17 : TyF Try.prog 17 false 1 := ⟨ty17⟩
@[go_sem] theorem sl17 : slv Try.prog 17 = none := by kernel_rfl
instance isl17 : SlN Try.prog 17 := ⟨sl17⟩
@[go_sem] theorem zv17 : zv Try.prog 17 = some (.sc (.pointer none)) := by kernel_rfl
instance izv17 : ZvF Try.prog 17 (.sc (.pointer none)) := ⟨zv17⟩
@[go_sem] theorem zo17 : zok Try.prog 17 1 := by simp only [zok, zv17]; rfl
instance izo17 : ZoF Try.prog 17 1 := ⟨zo17⟩
@[go_sem] theorem ty18 : tyv Try.prog 18 = some (true, 1) := by kernel_rfl
instance ity18 : TyF Try.prog 18 true 1 := ⟨ty18⟩
@[go_sem] theorem sl18 : slv Try.prog 18 = none := by kernel_rfl
instance isl18 : SlN Try.prog 18 := ⟨sl18⟩
@[go_sem] theorem fl18_0 : fldv Try.prog 18 0 = some (0, false, 1) := by kernel_rfl
instance ifl18_0 : FlF Try.prog 18 0 0 false 1 := ⟨fl18_0⟩
@[go_sem] theorem pl18 : places Try.prog 18 = some [(0, 1)] := by kernel_rfl
instance ipl18 : PlF Try.prog 18 [(0, 1)] := ⟨pl18⟩
@[go_sem] theorem zv18 : zv Try.prog 18 = some (.agg [.sc (.pointer none)]) := by kernel_rfl
instance izv18 : ZvF Try.prog 18 (.agg [.sc (.pointer none)]) := ⟨zv18⟩
@[go_sem] theorem zo18 : zok Try.prog 18 1 := by simp only [zok, zv18]; rfl
instance izo18 : ZoF Try.prog 18 1 := ⟨zo18⟩
@[go_sem] theorem ty21 : tyv Try.prog 21 = some (false, 1) := by kernel_rfl
instance ity21 : TyF Try.prog 21 false 1 := ⟨ty21⟩
@[go_sem] theorem un21 : Try.prog.underlying 21 = some (.int .i32) := by kernel_rfl
instance iun21 : UnF Try.prog 21 (.int .i32) := ⟨un21⟩
@[go_sem] theorem sl21 : slv Try.prog 21 = none := by kernel_rfl
instance isl21 : SlN Try.prog 21 := ⟨sl21⟩
@[go_sem] theorem zv21 : zv Try.prog 21 = some (.sc (.int .i32 0)) := by kernel_rfl
instance izv21 : ZvF Try.prog 21 (.sc (.int .i32 0)) := ⟨zv21⟩
@[go_sem] theorem zo21 : zok Try.prog 21 1 := by simp only [zok, zv21]; rfl
instance izo21 : ZoF Try.prog 21 1 := ⟨zo21⟩
@[go_sem] theorem ty22 : tyv Try.prog 22 = some (false, 1) := by kernel_rfl
instance ity22 : TyF Try.prog 22 false 1 := ⟨ty22⟩
@[go_sem] theorem sl22 : slv Try.prog 22 = some (3, 1, 8) := by kernel_rfl
instance isl22 : SlF Try.prog 22 3 1 8 := ⟨sl22⟩
@[go_sem] theorem zv22 : zv Try.prog 22 = some (.sc (.slice none 0 0)) := by kernel_rfl
instance izv22 : ZvF Try.prog 22 (.sc (.slice none 0 0)) := ⟨zv22⟩
@[go_sem] theorem zo22 : zok Try.prog 22 1 := by simp only [zok, zv22]; rfl
instance izo22 : ZoF Try.prog 22 1 := ⟨zo22⟩
@[go_sem] theorem ty23 : tyv Try.prog 23 = some (false, 1) := by kernel_rfl
instance ity23 : TyF Try.prog 23 false 1 := ⟨ty23⟩
@[go_sem] theorem sl23 : slv Try.prog 23 = some (55, 3, 40) := by kernel_rfl
instance isl23 : SlF Try.prog 23 55 3 40 := ⟨sl23⟩
@[go_sem] theorem zv23 : zv Try.prog 23 = some (.sc (.slice none 0 0)) := by kernel_rfl
instance izv23 : ZvF Try.prog 23 (.sc (.slice none 0 0)) := ⟨zv23⟩
@[go_sem] theorem zo23 : zok Try.prog 23 1 := by simp only [zok, zv23]; rfl
instance izo23 : ZoF Try.prog 23 1 := ⟨zo23⟩
@[go_sem] theorem ty24 : tyv Try.prog 24 = some (false, 1) := by kernel_rfl
instance ity24 : TyF Try.prog 24 false 1 := ⟨ty24⟩
@[go_sem] theorem sl24 : slv Try.prog 24 = some (55, 3, 40) := by kernel_rfl
instance isl24 : SlF Try.prog 24 55 3 40 := ⟨sl24⟩
@[go_sem] theorem zv24 : zv Try.prog 24 = some (.sc (.slice none 0 0)) := by kernel_rfl
instance izv24 : ZvF Try.prog 24 (.sc (.slice none 0 0)) := ⟨zv24⟩
@[go_sem] theorem zo24 : zok Try.prog 24 1 := by simp only [zok, zv24]; rfl
instance izo24 : ZoF Try.prog 24 1 := ⟨zo24⟩
@[go_sem] theorem ty25 : tyv Try.prog 25 = some (false, 1) := by kernel_rfl
instance ity25 : TyF Try.prog 25 false 1 := ⟨ty25⟩
@[go_sem] theorem sl25 : slv Try.prog 25 = none := by kernel_rfl
instance isl25 : SlN Try.prog 25 := ⟨sl25⟩
@[go_sem] theorem zv25 : zv Try.prog 25 = some (.sc .nilFunc) := by kernel_rfl
instance izv25 : ZvF Try.prog 25 (.sc .nilFunc) := ⟨zv25⟩
@[go_sem] theorem zo25 : zok Try.prog 25 1 := by simp only [zok, zv25]; rfl
instance izo25 : ZoF Try.prog 25 1 := ⟨zo25⟩
@[go_sem] theorem ty26 : tyv Try.prog 26 = some (false, 1) := by kernel_rfl
instance ity26 : TyF Try.prog 26 false 1 := ⟨ty26⟩
@[go_sem] theorem sl26 : slv Try.prog 26 = none := by kernel_rfl
instance isl26 : SlN Try.prog 26 := ⟨sl26⟩
@[go_sem] theorem zv26 : zv Try.prog 26 = some (.sc .nilFunc) := by kernel_rfl
instance izv26 : ZvF Try.prog 26 (.sc .nilFunc) := ⟨zv26⟩
@[go_sem] theorem zo26 : zok Try.prog 26 1 := by simp only [zok, zv26]; rfl
instance izo26 : ZoF Try.prog 26 1 := ⟨zo26⟩
@[go_sem] theorem ty27 : tyv Try.prog 27 = some (false, 1) := by kernel_rfl
instance ity27 : TyF Try.prog 27 false 1 := ⟨ty27⟩
@[go_sem] theorem sl27 : slv Try.prog 27 = none := by kernel_rfl
instance isl27 : SlN Try.prog 27 := ⟨sl27⟩
@[go_sem] theorem zv27 : zv Try.prog 27 = some (.sc .nilFunc) := by kernel_rfl
instance izv27 : ZvF Try.prog 27 (.sc .nilFunc) := ⟨zv27⟩
@[go_sem] theorem zo27 : zok Try.prog 27 1 := by simp only [zok, zv27]; rfl
instance izo27 : ZoF Try.prog 27 1 := ⟨zo27⟩
@[go_sem] theorem ty28 : tyv Try.prog 28 = some (false, 1) := by kernel_rfl
instance ity28 : TyF Try.prog 28 false 1 := ⟨ty28⟩
@[go_sem] theorem sl28 : slv Try.prog 28 = some (24, 1, 24) := by kernel_rfl
instance isl28 : SlF Try.prog 28 24 1 24 := ⟨sl28⟩
@[go_sem] theorem zv28 : zv Try.prog 28 = some (.sc (.slice none 0 0)) := by kernel_rfl
instance izv28 : ZvF Try.prog 28 (.sc (.slice none 0 0)) := ⟨zv28⟩
@[go_sem] theorem zo28 : zok Try.prog 28 1 := by simp only [zok, zv28]; rfl
instance izo28 : ZoF Try.prog 28 1 := ⟨zo28⟩
@[go_sem] theorem ty29 : tyv Try.prog 29 = some (false, 1) := by kernel_rfl
instance ity29 : TyF Try.prog 29 false 1 := ⟨ty29⟩
@[go_sem] theorem sl29 : slv Try.prog 29 = some (73, 2, 16) := by kernel_rfl
instance isl29 : SlF Try.prog 29 73 2 16 := ⟨sl29⟩
@[go_sem] theorem zv29 : zv Try.prog 29 = some (.sc (.slice none 0 0)) := by kernel_rfl
instance izv29 : ZvF Try.prog 29 (.sc (.slice none 0 0)) := ⟨zv29⟩
@[go_sem] theorem zo29 : zok Try.prog 29 1 := by simp only [zok, zv29]; rfl
instance izo29 : ZoF Try.prog 29 1 := ⟨zo29⟩
@[go_sem] theorem ty30 : tyv Try.prog 30 = some (true, 2) := by kernel_rfl
instance ity30 : TyF Try.prog 30 true 2 := ⟨ty30⟩
@[go_sem] theorem sl30 : slv Try.prog 30 = none := by kernel_rfl
instance isl30 : SlN Try.prog 30 := ⟨sl30⟩
@[go_sem] theorem fl30_0 : fldv Try.prog 30 0 = some (0, false, 1) := by kernel_rfl
instance ifl30_0 : FlF Try.prog 30 0 0 false 1 := ⟨fl30_0⟩
@[go_sem] theorem fl30_1 : fldv Try.prog 30 1 = some (1, false, 1) := by kernel_rfl
instance ifl30_1 : FlF Try.prog 30 1 1 false 1 := ⟨fl30_1⟩
@[go_sem] theorem pl30 : places Try.prog 30 = some [(0, 1), (1, 1)] := by kernel_rfl
instance ipl30 : PlF Try.prog 30 [(0, 1), (1, 1)] := ⟨pl30⟩
@[go_sem] theorem zv30 : zv Try.prog 30 = some (.agg [.sc (.slice none 0 0), .sc (.slice none 0 0)]) := by kernel_rfl
instance izv30 : ZvF Try.prog 30 (.agg [.sc (.slice none 0 0), .sc (.slice none 0 0)]) := ⟨zv30⟩
@[go_sem] theorem zo30 : zok Try.prog 30 2 := by simp only [zok, zv30]; rfl
instance izo30 : ZoF Try.prog 30 2 := ⟨zo30⟩
@[go_sem] theorem ty31 : tyv Try.prog 31 = some (true, 2) := by kernel_rfl
instance ity31 : TyF Try.prog 31 true 2 := ⟨ty31⟩
@[go_sem] theorem sl31 : slv Try.prog 31 = none := by kernel_rfl
instance isl31 : SlN Try.prog 31 := ⟨sl31⟩
@[go_sem] theorem fl31_0 : fldv Try.prog 31 0 = some (0, false, 1) := by kernel_rfl
instance ifl31_0 : FlF Try.prog 31 0 0 false 1 := ⟨fl31_0⟩
@[go_sem] theorem fl31_1 : fldv Try.prog 31 1 = some (1, false, 1) := by kernel_rfl
instance ifl31_1 : FlF Try.prog 31 1 1 false 1 := ⟨fl31_1⟩
@[go_sem] theorem pl31 : places Try.prog 31 = some [(0, 1), (1, 1)] := by kernel_rfl
instance ipl31 : PlF Try.prog 31 [(0, 1), (1, 1)] := ⟨pl31⟩
@[go_sem] theorem zv31 : zv Try.prog 31 = some (.agg [.sc (.slice none 0 0), .sc (.slice none 0 0)]) := by kernel_rfl
instance izv31 : ZvF Try.prog 31 (.agg [.sc (.slice none 0 0), .sc (.slice none 0 0)]) := ⟨zv31⟩
@[go_sem] theorem zo31 : zok Try.prog 31 2 := by simp only [zok, zv31]; rfl
instance izo31 : ZoF Try.prog 31 2 := ⟨zo31⟩
@[go_sem] theorem ty32 : tyv Try.prog 32 = some (false, 1) := by kernel_rfl
instance ity32 : TyF Try.prog 32 false 1 := ⟨ty32⟩
@[go_sem] theorem sl32 : slv Try.prog 32 = none := by kernel_rfl
instance isl32 : SlN Try.prog 32 := ⟨sl32⟩
@[go_sem] theorem zv32 : zv Try.prog 32 = some (.sc .nilFunc) := by kernel_rfl
instance izv32 : ZvF Try.prog 32 (.sc .nilFunc) := ⟨zv32⟩
@[go_sem] theorem zo32 : zok Try.prog 32 1 := by simp only [zok, zv32]; rfl
instance izo32 : ZoF Try.prog 32 1 := ⟨zo32⟩
@[go_sem] theorem ty33 : tyv Try.prog 33 = some (false, 1) := by kernel_rfl
instance ity33 : TyF Try.prog 33 false 1 := ⟨ty33⟩
@[go_sem] theorem sl33 : slv Try.prog 33 = none := by kernel_rfl
instance isl33 : SlN Try.prog 33 := ⟨sl33⟩
@[go_sem] theorem zv33 : zv Try.prog 33 = some (.sc .nilFunc) := by kernel_rfl
instance izv33 : ZvF Try.prog 33 (.sc .nilFunc) := ⟨zv33⟩
@[go_sem] theorem zo33 : zok Try.prog 33 1 := by simp only [zok, zv33]; rfl
instance izo33 : ZoF Try.prog 33 1 := ⟨zo33⟩
@[go_sem] theorem ty34 : tyv Try.prog 34 = some (false, 1) := by kernel_rfl
instance ity34 : TyF Try.prog 34 false 1 := ⟨ty34⟩
@[go_sem] theorem sl34 : slv Try.prog 34 = none := by kernel_rfl
instance isl34 : SlN Try.prog 34 := ⟨sl34⟩
@[go_sem] theorem zv34 : zv Try.prog 34 = some (.sc .nilFunc) := by kernel_rfl
instance izv34 : ZvF Try.prog 34 (.sc .nilFunc) := ⟨zv34⟩
@[go_sem] theorem zo34 : zok Try.prog 34 1 := by simp only [zok, zv34]; rfl
instance izo34 : ZoF Try.prog 34 1 := ⟨zo34⟩
@[go_sem] theorem ty35 : tyv Try.prog 35 = some (false, 1) := by kernel_rfl
instance ity35 : TyF Try.prog 35 false 1 := ⟨ty35⟩
@[go_sem] theorem sl35 : slv Try.prog 35 = none := by kernel_rfl
instance isl35 : SlN Try.prog 35 := ⟨sl35⟩
@[go_sem] theorem zv35 : zv Try.prog 35 = some (.sc .nilFunc) := by kernel_rfl
instance izv35 : ZvF Try.prog 35 (.sc .nilFunc) := ⟨zv35⟩
@[go_sem] theorem zo35 : zok Try.prog 35 1 := by simp only [zok, zv35]; rfl
instance izo35 : ZoF Try.prog 35 1 := ⟨zo35⟩
@[go_sem] theorem ty36 : tyv Try.prog 36 = some (false, 1) := by kernel_rfl
instance ity36 : TyF Try.prog 36 false 1 := ⟨ty36⟩
@[go_sem] theorem sl36 : slv Try.prog 36 = none := by kernel_rfl
instance isl36 : SlN Try.prog 36 := ⟨sl36⟩
@[go_sem] theorem zv36 : zv Try.prog 36 = some (.sc .nilFunc) := by kernel_rfl
instance izv36 : ZvF Try.prog 36 (.sc .nilFunc) := ⟨zv36⟩
@[go_sem] theorem zo36 : zok Try.prog 36 1 := by simp only [zok, zv36]; rfl
instance izo36 : ZoF Try.prog 36 1 := ⟨zo36⟩
@[go_sem] theorem ty37 : tyv Try.prog 37 = some (false, 1) := by kernel_rfl
instance ity37 : TyF Try.prog 37 false 1 := ⟨ty37⟩
@[go_sem] theorem sl37 : slv Try.prog 37 = none := by kernel_rfl
instance isl37 : SlN Try.prog 37 := ⟨sl37⟩
@[go_sem] theorem zv37 : zv Try.prog 37 = some (.sc .nilFunc) := by kernel_rfl
instance izv37 : ZvF Try.prog 37 (.sc .nilFunc) := ⟨zv37⟩
@[go_sem] theorem zo37 : zok Try.prog 37 1 := by simp only [zok, zv37]; rfl
instance izo37 : ZoF Try.prog 37 1 := ⟨zo37⟩
@[go_sem] theorem ty38 : tyv Try.prog 38 = some (false, 1) := by kernel_rfl
instance ity38 : TyF Try.prog 38 false 1 := ⟨ty38⟩
@[go_sem] theorem sl38 : slv Try.prog 38 = none := by kernel_rfl
instance isl38 : SlN Try.prog 38 := ⟨sl38⟩
@[go_sem] theorem zv38 : zv Try.prog 38 = some (.sc .nilFunc) := by kernel_rfl
instance izv38 : ZvF Try.prog 38 (.sc .nilFunc) := ⟨zv38⟩
@[go_sem] theorem zo38 : zok Try.prog 38 1 := by simp only [zok, zv38]; rfl
instance izo38 : ZoF Try.prog 38 1 := ⟨zo38⟩
@[go_sem] theorem ty39 : tyv Try.prog 39 = some (false, 1) := by kernel_rfl
instance ity39 : TyF Try.prog 39 false 1 := ⟨ty39⟩
@[go_sem] theorem sl39 : slv Try.prog 39 = none := by kernel_rfl
instance isl39 : SlN Try.prog 39 := ⟨sl39⟩
@[go_sem] theorem zv39 : zv Try.prog 39 = some (.sc .nilFunc) := by kernel_rfl
instance izv39 : ZvF Try.prog 39 (.sc .nilFunc) := ⟨zv39⟩
@[go_sem] theorem zo39 : zok Try.prog 39 1 := by simp only [zok, zv39]; rfl
instance izo39 : ZoF Try.prog 39 1 := ⟨zo39⟩
@[go_sem] theorem ty40 : tyv Try.prog 40 = some (false, 1) := by kernel_rfl
instance ity40 : TyF Try.prog 40 false 1 := ⟨ty40⟩
@[go_sem] theorem sl40 : slv Try.prog 40 = none := by kernel_rfl
instance isl40 : SlN Try.prog 40 := ⟨sl40⟩
@[go_sem] theorem zv40 : zv Try.prog 40 = some (.sc .nilFunc) := by kernel_rfl
instance izv40 : ZvF Try.prog 40 (.sc .nilFunc) := ⟨zv40⟩
@[go_sem] theorem zo40 : zok Try.prog 40 1 := by simp only [zok, zv40]; rfl
instance izo40 : ZoF Try.prog 40 1 := ⟨zo40⟩
@[go_sem] theorem ty41 : tyv Try.prog 41 = some (false, 1) := by kernel_rfl
instance ity41 : TyF Try.prog 41 false 1 := ⟨ty41⟩
@[go_sem] theorem sl41 : slv Try.prog 41 = some (22, 1, 24) := by kernel_rfl
instance isl41 : SlF Try.prog 41 22 1 24 := ⟨sl41⟩
@[go_sem] theorem zv41 : zv Try.prog 41 = some (.sc (.slice none 0 0)) := by kernel_rfl
instance izv41 : ZvF Try.prog 41 (.sc (.slice none 0 0)) := ⟨zv41⟩
@[go_sem] theorem zo41 : zok Try.prog 41 1 := by simp only [zok, zv41]; rfl
instance izo41 : ZoF Try.prog 41 1 := ⟨zo41⟩
@[go_sem] theorem ty42 : tyv Try.prog 42 = some (false, 1) := by kernel_rfl
instance ity42 : TyF Try.prog 42 false 1 := ⟨ty42⟩
@[go_sem] theorem sl42 : slv Try.prog 42 = none := by kernel_rfl
instance isl42 : SlN Try.prog 42 := ⟨sl42⟩
@[go_sem] theorem zv42 : zv Try.prog 42 = some (.sc .nilFunc) := by kernel_rfl
instance izv42 : ZvF Try.prog 42 (.sc .nilFunc) := ⟨zv42⟩
@[go_sem] theorem zo42 : zok Try.prog 42 1 := by simp only [zok, zv42]; rfl
instance izo42 : ZoF Try.prog 42 1 := ⟨zo42⟩
@[go_sem] theorem ty43 : tyv Try.prog 43 = some (false, 1) := by kernel_rfl
instance ity43 : TyF Try.prog 43 false 1 := ⟨ty43⟩
@[go_sem] theorem sl43 : slv Try.prog 43 = none := by kernel_rfl
instance isl43 : SlN Try.prog 43 := ⟨sl43⟩
@[go_sem] theorem zv43 : zv Try.prog 43 = some (.sc .nilFunc) := by kernel_rfl
instance izv43 : ZvF Try.prog 43 (.sc .nilFunc) := ⟨zv43⟩
@[go_sem] theorem zo43 : zok Try.prog 43 1 := by simp only [zok, zv43]; rfl
instance izo43 : ZoF Try.prog 43 1 := ⟨zo43⟩
@[go_sem] theorem ty44 : tyv Try.prog 44 = some (false, 1) := by kernel_rfl
instance ity44 : TyF Try.prog 44 false 1 := ⟨ty44⟩
@[go_sem] theorem sl44 : slv Try.prog 44 = none := by kernel_rfl
instance isl44 : SlN Try.prog 44 := ⟨sl44⟩
@[go_sem] theorem zv44 : zv Try.prog 44 = some (.sc .nilFunc) := by kernel_rfl
instance izv44 : ZvF Try.prog 44 (.sc .nilFunc) := ⟨zv44⟩
@[go_sem] theorem zo44 : zok Try.prog 44 1 := by simp only [zok, zv44]; rfl
instance izo44 : ZoF Try.prog 44 1 := ⟨zo44⟩
@[go_sem] theorem ty45 : tyv Try.prog 45 = some (false, 1) := by kernel_rfl
instance ity45 : TyF Try.prog 45 false 1 := ⟨ty45⟩
@[go_sem] theorem sl45 : slv Try.prog 45 = none := by kernel_rfl
instance isl45 : SlN Try.prog 45 := ⟨sl45⟩
@[go_sem] theorem zv45 : zv Try.prog 45 = some (.sc .nilFunc) := by kernel_rfl
instance izv45 : ZvF Try.prog 45 (.sc .nilFunc) := ⟨zv45⟩
@[go_sem] theorem zo45 : zok Try.prog 45 1 := by simp only [zok, zv45]; rfl
instance izo45 : ZoF Try.prog 45 1 := ⟨zo45⟩
@[go_sem] theorem ty46 : tyv Try.prog 46 = some (false, 1) := by kernel_rfl
instance ity46 : TyF Try.prog 46 false 1 := ⟨ty46⟩
@[go_sem] theorem sl46 : slv Try.prog 46 = none := by kernel_rfl
instance isl46 : SlN Try.prog 46 := ⟨sl46⟩
@[go_sem] theorem zv46 : zv Try.prog 46 = some (.sc .nilFunc) := by kernel_rfl
instance izv46 : ZvF Try.prog 46 (.sc .nilFunc) := ⟨zv46⟩
@[go_sem] theorem zo46 : zok Try.prog 46 1 := by simp only [zok, zv46]; rfl
instance izo46 : ZoF Try.prog 46 1 := ⟨zo46⟩
@[go_sem] theorem ty47 : tyv Try.prog 47 = some (false, 1) := by kernel_rfl
instance ity47 : TyF Try.prog 47 false 1 := ⟨ty47⟩
@[go_sem] theorem sl47 : slv Try.prog 47 = none := by kernel_rfl
instance isl47 : SlN Try.prog 47 := ⟨sl47⟩
@[go_sem] theorem zv47 : zv Try.prog 47 = some (.sc .nilFunc) := by kernel_rfl
instance izv47 : ZvF Try.prog 47 (.sc .nilFunc) := ⟨zv47⟩
@[go_sem] theorem zo47 : zok Try.prog 47 1 := by simp only [zok, zv47]; rfl
instance izo47 : ZoF Try.prog 47 1 := ⟨zo47⟩
@[go_sem] theorem ty48 : tyv Try.prog 48 = some (false, 1) := by kernel_rfl
instance ity48 : TyF Try.prog 48 false 1 := ⟨ty48⟩
@[go_sem] theorem sl48 : slv Try.prog 48 = none := by kernel_rfl
instance isl48 : SlN Try.prog 48 := ⟨sl48⟩
@[go_sem] theorem zv48 : zv Try.prog 48 = some (.sc .nilFunc) := by kernel_rfl
instance izv48 : ZvF Try.prog 48 (.sc .nilFunc) := ⟨zv48⟩
@[go_sem] theorem zo48 : zok Try.prog 48 1 := by simp only [zok, zv48]; rfl
instance izo48 : ZoF Try.prog 48 1 := ⟨zo48⟩
@[go_sem] theorem ty49 : tyv Try.prog 49 = some (false, 1) := by kernel_rfl
instance ity49 : TyF Try.prog 49 false 1 := ⟨ty49⟩
@[go_sem] theorem sl49 : slv Try.prog 49 = none := by kernel_rfl
instance isl49 : SlN Try.prog 49 := ⟨sl49⟩
@[go_sem] theorem zv49 : zv Try.prog 49 = some (.sc .nilFunc) := by kernel_rfl
instance izv49 : ZvF Try.prog 49 (.sc .nilFunc) := ⟨zv49⟩
@[go_sem] theorem zo49 : zok Try.prog 49 1 := by simp only [zok, zv49]; rfl
instance izo49 : ZoF Try.prog 49 1 := ⟨zo49⟩
@[go_sem] theorem ty50 : tyv Try.prog 50 = some (false, 1) := by kernel_rfl
instance ity50 : TyF Try.prog 50 false 1 := ⟨ty50⟩
@[go_sem] theorem sl50 : slv Try.prog 50 = none := by kernel_rfl
instance isl50 : SlN Try.prog 50 := ⟨sl50⟩
@[go_sem] theorem zv50 : zv Try.prog 50 = some (.sc .nilFunc) := by kernel_rfl
instance izv50 : ZvF Try.prog 50 (.sc .nilFunc) := ⟨zv50⟩
@[go_sem] theorem zo50 : zok Try.prog 50 1 := by simp only [zok, zv50]; rfl
instance izo50 : ZoF Try.prog 50 1 := ⟨zo50⟩
@[go_sem] theorem ty51 : tyv Try.prog 51 = some (false, 1) := by kernel_rfl
instance ity51 : TyF Try.prog 51 false 1 := ⟨ty51⟩
@[go_sem] theorem sl51 : slv Try.prog 51 = none := by kernel_rfl
instance isl51 : SlN Try.prog 51 := ⟨sl51⟩
@[go_sem] theorem zv51 : zv Try.prog 51 = some (.sc .nilFunc) := by kernel_rfl
instance izv51 : ZvF Try.prog 51 (.sc .nilFunc) := ⟨zv51⟩
@[go_sem] theorem zo51 : zok Try.prog 51 1 := by simp only [zok, zv51]; rfl
instance izo51 : ZoF Try.prog 51 1 := ⟨zo51⟩
@[go_sem] theorem ty52 : tyv Try.prog 52 = some (false, 1) := by kernel_rfl
instance ity52 : TyF Try.prog 52 false 1 := ⟨ty52⟩
@[go_sem] theorem sl52 : slv Try.prog 52 = none := by kernel_rfl
instance isl52 : SlN Try.prog 52 := ⟨sl52⟩
@[go_sem] theorem zv52 : zv Try.prog 52 = some (.sc .nilFunc) := by kernel_rfl
instance izv52 : ZvF Try.prog 52 (.sc .nilFunc) := ⟨zv52⟩
@[go_sem] theorem zo52 : zok Try.prog 52 1 := by simp only [zok, zv52]; rfl
instance izo52 : ZoF Try.prog 52 1 := ⟨zo52⟩
@[go_sem] theorem ty53 : tyv Try.prog 53 = some (false, 1) := by kernel_rfl
instance ity53 : TyF Try.prog 53 false 1 := ⟨ty53⟩
@[go_sem] theorem sl53 : slv Try.prog 53 = some (68, 7, 56) := by kernel_rfl
instance isl53 : SlF Try.prog 53 68 7 56 := ⟨sl53⟩
@[go_sem] theorem zv53 : zv Try.prog 53 = some (.sc (.slice none 0 0)) := by kernel_rfl
instance izv53 : ZvF Try.prog 53 (.sc (.slice none 0 0)) := ⟨zv53⟩
@[go_sem] theorem zo53 : zok Try.prog 53 1 := by simp only [zok, zv53]; rfl
instance izo53 : ZoF Try.prog 53 1 := ⟨zo53⟩
@[go_sem] theorem ty54 : tyv Try.prog 54 = some (true, 3) := by kernel_rfl
instance ity54 : TyF Try.prog 54 true 3 := ⟨ty54⟩
@[go_sem] theorem sl54 : slv Try.prog 54 = none := by kernel_rfl
instance isl54 : SlN Try.prog 54 := ⟨sl54⟩
@[go_sem] theorem fl54_0 : fldv Try.prog 54 0 = some (0, false, 1) := by kernel_rfl
instance ifl54_0 : FlF Try.prog 54 0 0 false 1 := ⟨fl54_0⟩
@[go_sem] theorem fl54_1 : fldv Try.prog 54 1 = some (1, false, 1) := by kernel_rfl
instance ifl54_1 : FlF Try.prog 54 1 1 false 1 := ⟨fl54_1⟩
@[go_sem] theorem fl54_2 : fldv Try.prog 54 2 = some (2, false, 1) := by kernel_rfl
instance ifl54_2 : FlF Try.prog 54 2 2 false 1 := ⟨fl54_2⟩
@[go_sem] theorem pl54 : places Try.prog 54 = some [(0, 1), (1, 1), (2, 1)] := by kernel_rfl
instance ipl54 : PlF Try.prog 54 [(0, 1), (1, 1), (2, 1)] := ⟨pl54⟩
@[go_sem] theorem zv54 : zv Try.prog 54 = some (.agg [.sc (.int .i64 0), .sc (.int .i64 0), .sc (.slice none 0 0)]) := by kernel_rfl
instance izv54 : ZvF Try.prog 54 (.agg [.sc (.int .i64 0), .sc (.int .i64 0), .sc (.slice none 0 0)]) := ⟨zv54⟩
@[go_sem] theorem zo54 : zok Try.prog 54 3 := by simp only [zok, zv54]; rfl
instance izo54 : ZoF Try.prog 54 3 := ⟨zo54⟩
@[go_sem] theorem ty55 : tyv Try.prog 55 = some (true, 3) := by kernel_rfl
instance ity55 : TyF Try.prog 55 true 3 := ⟨ty55⟩
@[go_sem] theorem sl55 : slv Try.prog 55 = none := by kernel_rfl
instance isl55 : SlN Try.prog 55 := ⟨sl55⟩
@[go_sem] theorem fl55_0 : fldv Try.prog 55 0 = some (0, false, 1) := by kernel_rfl
instance ifl55_0 : FlF Try.prog 55 0 0 false 1 := ⟨fl55_0⟩
@[go_sem] theorem fl55_1 : fldv Try.prog 55 1 = some (1, false, 1) := by kernel_rfl
instance ifl55_1 : FlF Try.prog 55 1 1 false 1 := ⟨fl55_1⟩
@[go_sem] theorem fl55_2 : fldv Try.prog 55 2 = some (2, false, 1) := by kernel_rfl
instance ifl55_2 : FlF Try.prog 55 2 2 false 1 := ⟨fl55_2⟩
@[go_sem] theorem pl55 : places Try.prog 55 = some [(0, 1), (1, 1), (2, 1)] := by kernel_rfl
instance ipl55 : PlF Try.prog 55 [(0, 1), (1, 1), (2, 1)] := ⟨pl55⟩
@[go_sem] theorem zv55 : zv Try.prog 55 = some (.agg [.sc (.int .i64 0), .sc (.int .i64 0), .sc (.slice none 0 0)]) := by kernel_rfl
instance izv55 : ZvF Try.prog 55 (.agg [.sc (.int .i64 0), .sc (.int .i64 0), .sc (.slice none 0 0)]) := ⟨zv55⟩
@[go_sem] theorem zo55 : zok Try.prog 55 3 := by simp only [zok, zv55]; rfl
instance izo55 : ZoF Try.prog 55 3 := ⟨zo55⟩
@[go_sem] theorem ty56 : tyv Try.prog 56 = some (false, 1) := by kernel_rfl
instance ity56 : TyF Try.prog 56 false 1 := ⟨ty56⟩
@[go_sem] theorem sl56 : slv Try.prog 56 = none := by kernel_rfl
instance isl56 : SlN Try.prog 56 := ⟨sl56⟩
@[go_sem] theorem zv56 : zv Try.prog 56 = some (.sc .nilFunc) := by kernel_rfl
instance izv56 : ZvF Try.prog 56 (.sc .nilFunc) := ⟨zv56⟩
@[go_sem] theorem zo56 : zok Try.prog 56 1 := by simp only [zok, zv56]; rfl
instance izo56 : ZoF Try.prog 56 1 := ⟨zo56⟩
@[go_sem] theorem ty57 : tyv Try.prog 57 = some (false, 1) := by kernel_rfl
instance ity57 : TyF Try.prog 57 false 1 := ⟨ty57⟩
@[go_sem] theorem sl57 : slv Try.prog 57 = none := by kernel_rfl
instance isl57 : SlN Try.prog 57 := ⟨sl57⟩
@[go_sem] theorem zv57 : zv Try.prog 57 = some (.sc .nilFunc) := by kernel_rfl
instance izv57 : ZvF Try.prog 57 (.sc .nilFunc) := ⟨zv57⟩
@[go_sem] theorem zo57 : zok Try.prog 57 1 := by simp only [zok, zv57]; rfl
instance izo57 : ZoF Try.prog 57 1 := ⟨zo57⟩
@[go_sem] theorem ty58 : tyv Try.prog 58 = some (false, 1) := by kernel_rfl
instance ity58 : TyF Try.prog 58 false 1 := ⟨ty58⟩
@[go_sem] theorem sl58 : slv Try.prog 58 = some (71, 2, 16) := by kernel_rfl
instance isl58 : SlF Try.prog 58 71 2 16 := ⟨sl58⟩
@[go_sem] theorem zv58 : zv Try.prog 58 = some (.sc (.slice none 0 0)) := by kernel_rfl
instance izv58 : ZvF Try.prog 58 (.sc (.slice none 0 0)) := ⟨zv58⟩
@[go_sem] theorem zo58 : zok Try.prog 58 1 := by simp only [zok, zv58]; rfl
instance izo58 : ZoF Try.prog 58 1 := ⟨zo58⟩
@[go_sem] theorem ty59 : tyv Try.prog 59 = some (false, 1) := by kernel_rfl
instance ity59 : TyF Try.prog 59 false 1 := ⟨ty59⟩
@[go_sem] theorem sl59 : slv Try.prog 59 = some (71, 2, 16) := by kernel_rfl
instance isl59 : SlF Try.prog 59 71 2 16 := ⟨sl59⟩
@[go_sem] theorem zv59 : zv Try.prog 59 = some (.sc (.slice none 0 0)) := by kernel_rfl
instance izv59 : ZvF Try.prog 59 (.sc (.slice none 0 0)) := ⟨zv59⟩
@[go_sem] theorem zo59 : zok Try.prog 59 1 := by simp only [zok, zv59]; rfl
instance izo59 : ZoF Try.prog 59 1 := ⟨zo59⟩
@[go_sem] theorem ty60 : tyv Try.prog 60 = some (false, 1) := by kernel_rfl
instance ity60 : TyF Try.prog 60 false 1 := ⟨ty60⟩
@[go_sem] theorem sl60 : slv Try.prog 60 = none := by kernel_rfl
instance isl60 : SlN Try.prog 60 := ⟨sl60⟩
@[go_sem] theorem zv60 : zv Try.prog 60 = some (.sc .nilFunc) := by kernel_rfl
instance izv60 : ZvF Try.prog 60 (.sc .nilFunc) := ⟨zv60⟩
@[go_sem] theorem zo60 : zok Try.prog 60 1 := by simp only [zok, zv60]; rfl
instance izo60 : ZoF Try.prog 60 1 := ⟨zo60⟩
@[go_sem] theorem ty61 : tyv Try.prog 61 = some (false, 1) := by kernel_rfl
instance ity61 : TyF Try.prog 61 false 1 := ⟨ty61⟩
@[go_sem] theorem sl61 : slv Try.prog 61 = none := by kernel_rfl
instance isl61 : SlN Try.prog 61 := ⟨sl61⟩
@[go_sem] theorem zv61 : zv Try.prog 61 = some (.sc .nilFunc) := by kernel_rfl
instance izv61 : ZvF Try.prog 61 (.sc .nilFunc) := ⟨zv61⟩
@[go_sem] theorem zo61 : zok Try.prog 61 1 := by simp only [zok, zv61]; rfl
instance izo61 : ZoF Try.prog 61 1 := ⟨zo61⟩
@[go_sem] theorem ty62 : tyv Try.prog 62 = some (false, 1) := by kernel_rfl
instance ity62 : TyF Try.prog 62 false 1 := ⟨ty62⟩
@[go_sem] theorem sl62 : slv Try.prog 62 = none := by kernel_rfl
instance isl62 : SlN Try.prog 62 := ⟨sl62⟩
@[go_sem] theorem zv62 : zv Try.prog 62 = some (.sc .nilFunc) := by kernel_rfl
instance izv62 : ZvF Try.prog 62 (.sc .nilFunc) := ⟨zv62⟩
@[go_sem] theorem zo62 : zok Try.prog 62 1 := by simp only [zok, zv62]; rfl
instance izo62 : ZoF Try.prog 62 1 := ⟨zo62⟩
@[go_sem] theorem ty63 : tyv Try.prog 63 = some (false, 1) := by kernel_rfl
instance ity63 : TyF Try.prog 63 false 1 := ⟨ty63⟩
@[go_sem] theorem sl63 : slv Try.prog 63 = none := by kernel_rfl
instance isl63 : SlN Try.prog 63 := ⟨sl63⟩
@[go_sem] theorem zv63 : zv Try.prog 63 = some (.sc .nilFunc) := by kernel_rfl
instance izv63 : ZvF Try.prog 63 (.sc .nilFunc) := ⟨zv63⟩
@[go_sem] theorem zo63 : zok Try.prog 63 1 := by simp only [zok, zv63]; rfl
instance izo63 : ZoF Try.prog 63 1 := ⟨zo63⟩
@[go_sem] theorem ty64 : tyv Try.prog 64 = some (false, 1) := by kernel_rfl
instance ity64 : TyF Try.prog 64 false 1 := ⟨ty64⟩
@[go_sem] theorem sl64 : slv Try.prog 64 = none := by kernel_rfl
instance isl64 : SlN Try.prog 64 := ⟨sl64⟩
@[go_sem] theorem zv64 : zv Try.prog 64 = some (.sc .nilFunc) := by kernel_rfl
instance izv64 : ZvF Try.prog 64 (.sc .nilFunc) := ⟨zv64⟩
@[go_sem] theorem zo64 : zok Try.prog 64 1 := by simp only [zok, zv64]; rfl
instance izo64 : ZoF Try.prog 64 1 := ⟨zo64⟩
@[go_sem] theorem ty65 : tyv Try.prog 65 = some (true, 3) := by kernel_rfl
instance ity65 : TyF Try.prog 65 true 3 := ⟨ty65⟩
@[go_sem] theorem sl65 : slv Try.prog 65 = none := by kernel_rfl
instance isl65 : SlN Try.prog 65 := ⟨sl65⟩
@[go_sem] theorem fl65_0 : fldv Try.prog 65 0 = some (0, false, 1) := by kernel_rfl
instance ifl65_0 : FlF Try.prog 65 0 0 false 1 := ⟨fl65_0⟩
@[go_sem] theorem fl65_1 : fldv Try.prog 65 1 = some (1, false, 1) := by kernel_rfl
instance ifl65_1 : FlF Try.prog 65 1 1 false 1 := ⟨fl65_1⟩
@[go_sem] theorem fl65_2 : fldv Try.prog 65 2 = some (2, false, 1) := by kernel_rfl
instance ifl65_2 : FlF Try.prog 65 2 2 false 1 := ⟨fl65_2⟩
@[go_sem] theorem pl65 : places Try.prog 65 = some [(0, 1), (1, 1), (2, 1)] := by kernel_rfl
instance ipl65 : PlF Try.prog 65 [(0, 1), (1, 1), (2, 1)] := ⟨pl65⟩
theorem eq65 : eqlT Try.prog 65 [.sc (.int .i64 0), .sc (.int .i64 0), .sc (.int .i64 0)] := eqlT_of (by kernel_rfl) ty65 (by kernel_rfl)
instance ieq65 : EqF Try.prog 65 ([.sc (.int .i64 0), .sc (.int .i64 0), .sc (.int .i64 0)]) := ⟨eq65⟩
@[go_sem] theorem zv65 : zv Try.prog 65 = some (.agg [.sc (.int .i64 0), .sc (.int .i64 0), .sc (.int .i64 0)]) := by kernel_rfl
instance izv65 : ZvF Try.prog 65 (.agg [.sc (.int .i64 0), .sc (.int .i64 0), .sc (.int .i64 0)]) := ⟨zv65⟩
@[go_sem] theorem zo65 : zok Try.prog 65 3 := by simp only [zok, zv65]; rfl
instance izo65 : ZoF Try.prog 65 3 := ⟨zo65⟩
@[go_sem] theorem ty66 : tyv Try.prog 66 = some (true, 3) := by kernel_rfl
instance ity66 : TyF Try.prog 66 true 3 := ⟨ty66⟩
@[go_sem] theorem sl66 : slv Try.prog 66 = none := by kernel_rfl
instance isl66 : SlN Try.prog 66 := ⟨sl66⟩
@[go_sem] theorem fl66_0 : fldv Try.prog 66 0 = some (0, false, 1) := by kernel_rfl
instance ifl66_0 : FlF Try.prog 66 0 0 false 1 := ⟨fl66_0⟩
@[go_sem] theorem fl66_1 : fldv Try.prog 66 1 = some (1, false, 1) := by kernel_rfl
instance ifl66_1 : FlF Try.prog 66 1 1 false 1 := ⟨fl66_1⟩
@[go_sem] theorem fl66_2 : fldv Try.prog 66 2 = some (2, false, 1) := by kernel_rfl
instance ifl66_2 : FlF Try.prog 66 2 2 false 1 := ⟨fl66_2⟩
@[go_sem] theorem pl66 : places Try.prog 66 = some [(0, 1), (1, 1), (2, 1)] := by kernel_rfl
instance ipl66 : PlF Try.prog 66 [(0, 1), (1, 1), (2, 1)] := ⟨pl66⟩
theorem eq66 : eqlT Try.prog 66 [.sc (.int .i64 0), .sc (.int .i64 0), .sc (.int .i64 0)] := eqlT_of (by kernel_rfl) ty66 (by kernel_rfl)
instance ieq66 : EqF Try.prog 66 ([.sc (.int .i64 0), .sc (.int .i64 0), .sc (.int .i64 0)]) := ⟨eq66⟩
@[go_sem] theorem zv66 : zv Try.prog 66 = some (.agg [.sc (.int .i64 0), .sc (.int .i64 0), .sc (.int .i64 0)]) := by kernel_rfl
instance izv66 : ZvF Try.prog 66 (.agg [.sc (.int .i64 0), .sc (.int .i64 0), .sc (.int .i64 0)]) := ⟨zv66⟩
@[go_sem] theorem zo66 : zok Try.prog 66 3 := by simp only [zok, zv66]; rfl
instance izo66 : ZoF Try.prog 66 3 := ⟨zo66⟩
@[go_sem] theorem ty67 : tyv Try.prog 67 = some (true, 7) := by kernel_rfl
instance ity67 : TyF Try.prog 67 true 7 := ⟨ty67⟩
@[go_sem] theorem sl67 : slv Try.prog 67 = none := by kernel_rfl
instance isl67 : SlN Try.prog 67 := ⟨sl67⟩
@[go_sem] theorem fl67_0 : fldv Try.prog 67 0 = some (0, false, 1) := by kernel_rfl
instance ifl67_0 : FlF Try.prog 67 0 0 false 1 := ⟨fl67_0⟩
@[go_sem] theorem fl67_1 : fldv Try.prog 67 1 = some (1, false, 1) := by kernel_rfl
instance ifl67_1 : FlF Try.prog 67 1 1 false 1 := ⟨fl67_1⟩
@[go_sem] theorem fl67_2 : fldv Try.prog 67 2 = some (2, false, 1) := by kernel_rfl
instance ifl67_2 : FlF Try.prog 67 2 2 false 1 := ⟨fl67_2⟩
@[go_sem] theorem fl67_3 : fldv Try.prog 67 3 = some (3, false, 1) := by kernel_rfl
instance ifl67_3 : FlF Try.prog 67 3 3 false 1 := ⟨fl67_3⟩
@[go_sem] theorem fl67_4 : fldv Try.prog 67 4 = some (4, true, 3) := by kernel_rfl
instance ifl67_4 : FlF Try.prog 67 4 4 true 3 := ⟨fl67_4⟩
@[go_sem] theorem pl67 : places Try.prog 67 = some [(0, 1), (1, 1), (2, 1), (3, 1), (4, 3)] := by kernel_rfl
instance ipl67 : PlF Try.prog 67 [(0, 1), (1, 1), (2, 1), (3, 1), (4, 3)] := ⟨pl67⟩
theorem eq67 : eqlT Try.prog 67 [.sc (.int .i64 0), .sc (.int .i64 0), .sc (.int .i64 0), .sc (.int .i64 0), .sc (.int .i64 0), .sc (.int .i64 0), .sc (.int .i64 0)] := eqlT_of (by kernel_rfl) ty67 (by kernel_rfl)
instance ieq67 : EqF Try.prog 67 ([.sc (.int .i64 0), .sc (.int .i64 0), .sc (.int .i64 0), .sc (.int .i64 0), .sc (.int .i64 0), .sc (.int .i64 0), .sc (.int .i64 0)]) := ⟨eq67⟩
@[go_sem] theorem zv67 : zv Try.prog 67 = some (.agg [.sc (.int .i64 0), .sc (.int .i64 0), .sc (.int .i64 0), .sc (.int .i64 0), .sc (.int .i64 0), .sc (.int .i64 0), .sc (.int .i64 0)]) := by kernel_rfl
instance izv67 : ZvF Try.prog 67 (.agg [.sc (.int .i64 0), .sc (.int .i64 0), .sc (.int .i64 0), .sc (.int .i64 0), .sc (.int .i64 0), .sc (.int .i64 0), .sc (.int .i64 0)]) := ⟨zv67⟩
@[go_sem] theorem zo67 : zok Try.prog 67 7 := by simp only [zok, zv67]; rfl
instance izo67 : ZoF Try.prog 67 7 := ⟨zo67⟩
@[go_sem] theorem ty68 : tyv Try.prog 68 = some (true, 7) := by kernel_rfl
instance ity68 : TyF Try.prog 68 true 7 := ⟨ty68⟩
@[go_sem] theorem sl68 : slv Try.prog 68 = none := by kernel_rfl
instance isl68 : SlN Try.prog 68 := ⟨sl68⟩
@[go_sem] theorem fl68_0 : fldv Try.prog 68 0 = some (0, false, 1) := by kernel_rfl
instance ifl68_0 : FlF Try.prog 68 0 0 false 1 := ⟨fl68_0⟩
@[go_sem] theorem fl68_1 : fldv Try.prog 68 1 = some (1, false, 1) := by kernel_rfl
instance ifl68_1 : FlF Try.prog 68 1 1 false 1 := ⟨fl68_1⟩
@[go_sem] theorem fl68_2 : fldv Try.prog 68 2 = some (2, false, 1) := by kernel_rfl
instance ifl68_2 : FlF Try.prog 68 2 2 false 1 := ⟨fl68_2⟩
@[go_sem] theorem fl68_3 : fldv Try.prog 68 3 = some (3, false, 1) := by kernel_rfl
instance ifl68_3 : FlF Try.prog 68 3 3 false 1 := ⟨fl68_3⟩
@[go_sem] theorem fl68_4 : fldv Try.prog 68 4 = some (4, true, 3) := by kernel_rfl
instance ifl68_4 : FlF Try.prog 68 4 4 true 3 := ⟨fl68_4⟩
@[go_sem] theorem pl68 : places Try.prog 68 = some [(0, 1), (1, 1), (2, 1), (3, 1), (4, 3)] := by kernel_rfl
instance ipl68 : PlF Try.prog 68 [(0, 1), (1, 1), (2, 1), (3, 1), (4, 3)] := ⟨pl68⟩
theorem eq68 : eqlT Try.prog 68 [.sc (.int .i64 0), .sc (.int .i64 0), .sc (.int .i64 0), .sc (.int .i64 0), .sc (.int .i64 0), .sc (.int .i64 0), .sc (.int .i64 0)] := eqlT_of (by kernel_rfl) ty68 (by kernel_rfl)
instance ieq68 : EqF Try.prog 68 ([.sc (.int .i64 0), .sc (.int .i64 0), .sc (.int .i64 0), .sc (.int .i64 0), .sc (.int .i64 0), .sc (.int .i64 0), .sc (.int .i64 0)]) := ⟨eq68⟩
@[go_sem] theorem zv68 : zv Try.prog 68 = some (.agg [.sc (.int .i64 0), .sc (.int .i64 0), .sc (.int .i64 0), .sc (.int .i64 0), .sc (.int .i64 0), .sc (.int .i64 0), .sc (.int .i64 0)]) := by kernel_rfl
instance izv68 : ZvF Try.prog 68 (.agg [.sc (.int .i64 0), .sc (.int .i64 0), .sc (.int .i64 0), .sc (.int .i64 0), .sc (.int .i64 0), .sc (.int .i64 0), .sc (.int .i64 0)]) := ⟨zv68⟩
@[go_sem] theorem zo68 : zok Try.prog 68 7 := by simp only [zok, zv68]; rfl
instance izo68 : ZoF Try.prog 68 7 := ⟨zo68⟩
@[go_sem] theorem ty69 : tyv Try.prog 69 = some (false, 1) := by kernel_rfl
instance ity69 : TyF Try.prog 69 false 1 := ⟨ty69⟩
@[go_sem] theorem sl69 : slv Try.prog 69 = none := by kernel_rfl
instance isl69 : SlN Try.prog 69 := ⟨sl69⟩
@[go_sem] theorem zv69 : zv Try.prog 69 = some (.sc .nilFunc) := by kernel_rfl
instance izv69 : ZvF Try.prog 69 (.sc .nilFunc) := ⟨zv69⟩
@[go_sem] theorem zo69 : zok Try.prog 69 1 := by simp only [zok, zv69]; rfl
instance izo69 : ZoF Try.prog 69 1 := ⟨zo69⟩
@[go_sem] theorem ty70 : tyv Try.prog 70 = some (true, 2) := by kernel_rfl
instance ity70 : TyF Try.prog 70 true 2 := ⟨ty70⟩
@[go_sem] theorem sl70 : slv Try.prog 70 = none := by kernel_rfl
instance isl70 : SlN Try.prog 70 := ⟨sl70⟩
@[go_sem] theorem fl70_0 : fldv Try.prog 70 0 = some (0, false, 1) := by kernel_rfl
instance ifl70_0 : FlF Try.prog 70 0 0 false 1 := ⟨fl70_0⟩
@[go_sem] theorem fl70_1 : fldv Try.prog 70 1 = some (1, false, 1) := by kernel_rfl
instance ifl70_1 : FlF Try.prog 70 1 1 false 1 := ⟨fl70_1⟩
@[go_sem] theorem pl70 : places Try.prog 70 = some [(0, 1), (1, 1)] := by kernel_rfl
instance ipl70 : PlF Try.prog 70 [(0, 1), (1, 1)] := ⟨pl70⟩
theorem eq70 : eqlT Try.prog 70 [.sc (.int .i64 0), .sc (.int .i64 0)] := eqlT_of (by kernel_rfl) ty70 (by kernel_rfl)
instance ieq70 : EqF Try.prog 70 ([.sc (.int .i64 0), .sc (.int .i64 0)]) := ⟨eq70⟩
@[go_sem] theorem zv70 : zv Try.prog 70 = some (.agg [.sc (.int .i64 0), .sc (.int .i64 0)]) := by kernel_rfl
instance izv70 : ZvF Try.prog 70 (.agg [.sc (.int .i64 0), .sc (.int .i64 0)]) := ⟨zv70⟩
@[go_sem] theorem zo70 : zok Try.prog 70 2 := by simp only [zok, zv70]; rfl
instance izo70 : ZoF Try.prog 70 2 := ⟨zo70⟩
@[go_sem] theorem ty71 : tyv Try.prog 71 = some (true, 2) := by kernel_rfl
instance ity71 : TyF Try.prog 71 true 2 := ⟨ty71⟩
@[go_sem] theorem sl71 : slv Try.prog 71 = none := by kernel_rfl
instance isl71 : SlN Try.prog 71 := ⟨sl71⟩
@[go_sem] theorem fl71_0 : fldv Try.prog 71 0 = some (0, false, 1) := by kernel_rfl
instance ifl71_0 : FlF Try.prog 71 0 0 false 1 := ⟨fl71_0⟩
@[go_sem] theorem fl71_1 : fldv Try.prog 71 1 = some (1, false, 1) := by kernel_rfl
instance ifl71_1 : FlF Try.prog 71 1 1 false 1 := ⟨fl71_1⟩
@[go_sem] theorem pl71 : places Try.prog 71 = some [(0, 1), (1, 1)] := by kernel_rfl
instance ipl71 : PlF Try.prog 71 [(0, 1), (1, 1)] := ⟨pl71⟩
theorem eq71 : eqlT Try.prog 71 [.sc (.int .i64 0), .sc (.int .i64 0)] := eqlT_of (by kernel_rfl) ty71 (by kernel_rfl)
instance ieq71 : EqF Try.prog 71 ([.sc (.int .i64 0), .sc (.int .i64 0)]) := ⟨eq71⟩
@[go_sem] theorem zv71 : zv Try.prog 71 = some (.agg [.sc (.int .i64 0), .sc (.int .i64 0)]) := by kernel_rfl
instance izv71 : ZvF Try.prog 71 (.agg [.sc (.int .i64 0), .sc (.int .i64 0)]) := ⟨zv71⟩
@[go_sem] theorem zo71 : zok Try.prog 71 2 := by simp only [zok, zv71]; rfl
instance izo71 : ZoF Try.prog 71 2 := ⟨zo71⟩
@[go_sem] theorem ty72 : tyv Try.prog 72 = some (false, 1) := by kernel_rfl
instance ity72 : TyF Try.prog 72 false 1 := ⟨ty72⟩
@[go_sem] theorem sl72 : slv Try.prog 72 = none := by kernel_rfl
instance isl72 : SlN Try.prog 72 := ⟨sl72⟩
@[go_sem] theorem zv72 : zv Try.prog 72 = some (.sc .nilFunc) := by kernel_rfl
instance izv72 : ZvF Try.prog 72 (.sc .nilFunc) := ⟨zv72⟩
@[go_sem] theorem zo72 : zok Try.prog 72 1 := by simp only [zok, zv72]; rfl
instance izo72 : ZoF Try.prog 72 1 := ⟨zo72⟩
@[go_sem] theorem ty73 : tyv Try.prog 73 = some (true, 2) := by kernel_rfl
instance ity73 : TyF Try.prog 73 true 2 := ⟨ty73⟩
@[go_sem] theorem sl73 : slv Try.prog 73 = none := by kernel_rfl
instance isl73 : SlN Try.prog 73 := ⟨sl73⟩
@[go_sem] theorem ar73 : arv Try.prog 73 = some (2, false, 1) := by kernel_rfl
instance iar73 : ArF Try.prog 73 2 false 1 := ⟨ar73⟩
theorem eq73 : eqlT Try.prog 73 [.sc (.int .i64 0), .sc (.int .i64 0)] := eqlT_of (by kernel_rfl) ty73 (by kernel_rfl)
instance ieq73 : EqF Try.prog 73 ([.sc (.int .i64 0), .sc (.int .i64 0)]) := ⟨eq73⟩
@[go_sem] theorem zv73 : zv Try.prog 73 = some (.agg [.sc (.int .i64 0), .sc (.int .i64 0)]) := by kernel_rfl
instance izv73 : ZvF Try.prog 73 (.agg [.sc (.int .i64 0), .sc (.int .i64 0)]) := ⟨zv73⟩
@[go_sem] theorem zo73 : zok Try.prog 73 2 := by simp only [zok, zv73]; rfl
instance izo73 : ZoF Try.prog 73 2 := ⟨zo73⟩
@[go_sem] theorem ty74 : tyv Try.prog 74 = some (false, 1) := by kernel_rfl
instance ity74 : TyF Try.prog 74 false 1 := ⟨ty74⟩
@[go_sem] theorem sl74 : slv Try.prog 74 = none := by kernel_rfl
instance isl74 : SlN Try.prog 74 := ⟨sl74⟩
@[go_sem] theorem zv74 : zv Try.prog 74 = some (.sc .nilFunc) := by kernel_rfl
instance izv74 : ZvF Try.prog 74 (.sc .nilFunc) := ⟨zv74⟩
@[go_sem] theorem zo74 : zok Try.prog 74 1 := by simp only [zok, zv74]; rfl
instance izo74 : ZoF Try.prog 74 1 := ⟨zo74⟩
@[go_sem] theorem ty75 : tyv Try.prog 75 = some (false, 1) := by kernel_rfl
instance ity75 : TyF Try.prog 75 false 1 := ⟨ty75⟩
@[go_sem] theorem sl75 : slv Try.prog 75 = none := by kernel_rfl
instance isl75 : SlN Try.prog 75 := ⟨sl75⟩
@[go_sem] theorem zv75 : zv Try.prog 75 = some (.sc .nilFunc) := by kernel_rfl
instance izv75 : ZvF Try.prog 75 (.sc .nilFunc) := ⟨zv75⟩
@[go_sem] theorem zo75 : zok Try.prog 75 1 := by simp only [zok, zv75]; rfl
instance izo75 : ZoF Try.prog 75 1 := ⟨zo75⟩
@[go_sem] theorem ty76 : tyv Try.prog 76 = some (false, 1) := by kernel_rfl
instance ity76 : TyF Try.prog 76 false 1 := ⟨ty76⟩
@[go_sem] theorem sl76 : slv Try.prog 76 = none := by kernel_rfl
instance isl76 : SlN Try.prog 76 := ⟨sl76⟩
@[go_sem] theorem zv76 : zv Try.prog 76 = some (.sc .nilFunc) := by kernel_rfl
instance izv76 : ZvF Try.prog 76 (.sc .nilFunc) := ⟨zv76⟩
@[go_sem] theorem zo76 : zok Try.prog 76 1 := by simp only [zok, zv76]; rfl
instance izo76 : ZoF Try.prog 76 1 := ⟨zo76⟩
@[go_sem] theorem ty77 : tyv Try.prog 77 = some (false, 1) := by kernel_rfl
instance ity77 : TyF Try.prog 77 false 1 := ⟨ty77⟩
@[go_sem] theorem sl77 : slv Try.prog 77 = none := by kernel_rfl
instance isl77 : SlN Try.prog 77 := ⟨sl77⟩
@[go_sem] theorem zv77 : zv Try.prog 77 = some (.sc .nilFunc) := by kernel_rfl
instance izv77 : ZvF Try.prog 77 (.sc .nilFunc) := ⟨zv77⟩
@[go_sem] theorem zo77 : zok Try.prog 77 1 := by simp only [zok, zv77]; rfl
instance izo77 : ZoF Try.prog 77 1 := ⟨zo77⟩
@[go_sem] theorem ty78 : tyv Try.prog 78 = some (false, 1) := by kernel_rfl
instance ity78 : TyF Try.prog 78 false 1 := ⟨ty78⟩
@[go_sem] theorem sl78 : slv Try.prog 78 = none := by kernel_rfl
instance isl78 : SlN Try.prog 78 := ⟨sl78⟩
@[go_sem] theorem zv78 : zv Try.prog 78 = some (.sc .nilFunc) := by kernel_rfl
instance izv78 : ZvF Try.prog 78 (.sc .nilFunc) := ⟨zv78⟩
@[go_sem] theorem zo78 : zok Try.prog 78 1 := by simp only [zok, zv78]; rfl
instance izo78 : ZoF Try.prog 78 1 := ⟨zo78⟩
@[go_sem] theorem ty79 : tyv Try.prog 79 = some (false, 1) := by kernel_rfl
instance ity79 : TyF Try.prog 79 false 1 := ⟨ty79⟩
@[go_sem] theorem sl79 : slv Try.prog 79 = none := by kernel_rfl
instance isl79 : SlN Try.prog 79 := ⟨sl79⟩
@[go_sem] theorem zv79 : zv Try.prog 79 = some (.sc .nilFunc) := by kernel_rfl
instance izv79 : ZvF Try.prog 79 (.sc .nilFunc) := ⟨zv79⟩
@[go_sem] theorem zo79 : zok Try.prog 79 1 := by simp only [zok, zv79]; rfl
instance izo79 : ZoF Try.prog 79 1 := ⟨zo79⟩
@[go_sem] theorem ty80 : tyv Try.prog 80 = some (false, 1) := by kernel_rfl
instance ity80 : TyF Try.prog 80 false 1 := ⟨ty80⟩
@[go_sem] theorem sl80 : slv Try.prog 80 = none := by kernel_rfl
instance isl80 : SlN Try.prog 80 := ⟨sl80⟩
@[go_sem] theorem zv80 : zv Try.prog 80 = some (.sc .nilFunc) := by kernel_rfl
instance izv80 : ZvF Try.prog 80 (.sc .nilFunc) := ⟨zv80⟩
@[go_sem] theorem zo80 : zok Try.prog 80 1 := by simp only [zok, zv80]; rfl
instance izo80 : ZoF Try.prog 80 1 := ⟨zo80⟩
@[go_sem] theorem ty81 : tyv Try.prog 81 = some (false, 1) := by kernel_rfl
instance ity81 : TyF Try.prog 81 false 1 := ⟨ty81⟩
@[go_sem] theorem sl81 : slv Try.prog 81 = none := by kernel_rfl
instance isl81 : SlN Try.prog 81 := ⟨sl81⟩
@[go_sem] theorem zv81 : zv Try.prog 81 = some (.sc .nilFunc) := by kernel_rfl
instance izv81 : ZvF Try.prog 81 (.sc .nilFunc) := ⟨zv81⟩
@[go_sem] theorem zo81 : zok Try.prog 81 1 := by simp only [zok, zv81]; rfl
instance izo81 : ZoF Try.prog 81 1 := ⟨zo81⟩
@[go_sem] theorem ty82 : tyv Try.prog 82 = some (false, 1) := by kernel_rfl
instance ity82 : TyF Try.prog 82 false 1 := ⟨ty82⟩
@[go_sem] theorem sl82 : slv Try.prog 82 = none := by kernel_rfl
instance isl82 : SlN Try.prog 82 := ⟨sl82⟩
@[go_sem] theorem zv82 : zv Try.prog 82 = some (.sc .nilFunc) := by kernel_rfl
instance izv82 : ZvF Try.prog 82 (.sc .nilFunc) := ⟨zv82⟩
@[go_sem] theorem zo82 : zok Try.prog 82 1 := by simp only [zok, zv82]; rfl
instance izo82 : ZoF Try.prog 82 1 := ⟨zo82⟩
@[go_sem] theorem ty83 : tyv Try.prog 83 = some (false, 1) := by kernel_rfl
instance ity83 : TyF Try.prog 83 false 1 := ⟨ty83⟩
@[go_sem] theorem sl83 : slv Try.prog 83 = none := by kernel_rfl
instance isl83 : SlN Try.prog 83 := ⟨sl83⟩
@[go_sem] theorem zv83 : zv Try.prog 83 = some (.sc .nilFunc) := by kernel_rfl
instance izv83 : ZvF Try.prog 83 (.sc .nilFunc) := ⟨zv83⟩
@[go_sem] theorem zo83 : zok Try.prog 83 1 := by simp only [zok, zv83]; rfl
instance izo83 : ZoF Try.prog 83 1 := ⟨zo83⟩
@[go_sem] theorem ty84 : tyv Try.prog 84 = some (false, 1) := by kernel_rfl
instance ity84 : TyF Try.prog 84 false 1 := ⟨ty84⟩
@[go_sem] theorem sl84 : slv Try.prog 84 = none := by kernel_rfl
instance isl84 : SlN Try.prog 84 := ⟨sl84⟩
@[go_sem] theorem zv84 : zv Try.prog 84 = some (.sc .nilFunc) := by kernel_rfl
instance izv84 : ZvF Try.prog 84 (.sc .nilFunc) := ⟨zv84⟩
@[go_sem] theorem zo84 : zok Try.prog 84 1 := by simp only [zok, zv84]; rfl
instance izo84 : ZoF Try.prog 84 1 := ⟨zo84⟩
@[go_sem] theorem ty85 : tyv Try.prog 85 = some (false, 1) := by kernel_rfl
instance ity85 : TyF Try.prog 85 false 1 := ⟨ty85⟩
@[go_sem] theorem sl85 : slv Try.prog 85 = none := by kernel_rfl
instance isl85 : SlN Try.prog 85 := ⟨sl85⟩
@[go_sem] theorem zv85 : zv Try.prog 85 = some (.sc .nilFunc) := by kernel_rfl
instance izv85 : ZvF Try.prog 85 (.sc .nilFunc) := ⟨zv85⟩
@[go_sem] theorem zo85 : zok Try.prog 85 1 := by simp only [zok, zv85]; rfl
instance izo85 : ZoF Try.prog 85 1 := ⟨zo85⟩
@[go_sem] theorem ty86 : tyv Try.prog 86 = some (false, 1) := by kernel_rfl
instance ity86 : TyF Try.prog 86 false 1 := ⟨ty86⟩
@[go_sem] theorem mp86 : mpv Try.prog 86 = some ((.int .i64), 3) := by kernel_rfl
instance imp86 : MpF Try.prog 86 ((.int .i64)) 3 := ⟨mp86⟩
@[go_sem] theorem sl86 : slv Try.prog 86 = none := by kernel_rfl
instance isl86 : SlN Try.prog 86 := ⟨sl86⟩
@[go_sem] theorem zv86 : zv Try.prog 86 = some (.sc (.map none)) := by kernel_rfl
instance izv86 : ZvF Try.prog 86 (.sc (.map none)) := ⟨zv86⟩
@[go_sem] theorem zo86 : zok Try.prog 86 1 := by simp only [zok, zv86]; rfl
instance izo86 : ZoF Try.prog 86 1 := ⟨zo86⟩
@[go_sem] theorem ty88 : tyv Try.prog 88 = some (false, 1) := by kernel_rfl
instance ity88 : TyF Try.prog 88 false 1 := ⟨ty88⟩
@[go_sem] theorem sl88 : slv Try.prog 88 = none := by kernel_rfl
instance isl88 : SlN Try.prog 88 := ⟨sl88⟩
@[go_sem] theorem zv88 : zv Try.prog 88 = some (.sc .nilFunc) := by kernel_rfl
instance izv88 : ZvF Try.prog 88 (.sc .nilFunc) := ⟨zv88⟩
@[go_sem] theorem zo88 : zok Try.prog 88 1 := by simp only [zok, zv88]; rfl
instance izo88 : ZoF Try.prog 88 1 := ⟨zo88⟩
@[go_sem] theorem ty89 : tyv Try.prog 89 = some (false, 1) := by kernel_rfl
instance ity89 : TyF Try.prog 89 false 1 := ⟨ty89⟩
@[go_sem] theorem mp89 : mpv Try.prog 89 = some ((.int .i64), 4) := by kernel_rfl
instance imp89 : MpF Try.prog 89 ((.int .i64)) 4 := ⟨mp89⟩
@[go_sem] theorem sl89 : slv Try.prog 89 = none := by kernel_rfl
instance isl89 : SlN Try.prog 89 := ⟨sl89⟩
@[go_sem] theorem zv89 : zv Try.prog 89 = some (.sc (.map none)) := by kernel_rfl
instance izv89 : ZvF Try.prog 89 (.sc (.map none)) := ⟨zv89⟩
@[go_sem] theorem zo89 : zok Try.prog 89 1 := by simp only [zok, zv89]; rfl
instance izo89 : ZoF Try.prog 89 1 := ⟨zo89⟩
@[go_sem] theorem ty90 : tyv Try.prog 90 = some (false, 1) := by kernel_rfl
instance ity90 : TyF Try.prog 90 false 1 := ⟨ty90⟩
@[go_sem] theorem sl90 : slv Try.prog 90 = none := by kernel_rfl
instance isl90 : SlN Try.prog 90 := ⟨sl90⟩
@[go_sem] theorem zv90 : zv Try.prog 90 = some (.sc .nilFunc) := by kernel_rfl
instance izv90 : ZvF Try.prog 90 (.sc .nilFunc) := ⟨zv90⟩
@[go_sem] theorem zo90 : zok Try.prog 90 1 := by simp only [zok, zv90]; rfl
instance izo90 : ZoF Try.prog 90 1 := ⟨zo90⟩
@[go_sem] theorem ty91 : tyv Try.prog 91 = some (false, 1) := by kernel_rfl
instance ity91 : TyF Try.prog 91 false 1 := ⟨ty91⟩
@[go_sem] theorem sl91 : slv Try.prog 91 = none := by kernel_rfl
instance isl91 : SlN Try.prog 91 := ⟨sl91⟩
@[go_sem] theorem zv91 : zv Try.prog 91 = some (.sc .nilFunc) := by kernel_rfl
instance izv91 : ZvF Try.prog 91 (.sc .nilFunc) := ⟨zv91⟩
@[go_sem] theorem zo91 : zok Try.prog 91 1 := by simp only [zok, zv91]; rfl
instance izo91 : ZoF Try.prog 91 1 := ⟨zo91⟩
@[go_sem] theorem ty92 : tyv Try.prog 92 = some (false, 1) := by kernel_rfl
instance ity92 : TyF Try.prog 92 false 1 := ⟨ty92⟩
@[go_sem] theorem sl92 : slv Try.prog 92 = some (59, 1, 24) := by kernel_rfl
instance isl92 : SlF Try.prog 92 59 1 24 := ⟨sl92⟩
@[go_sem] theorem zv92 : zv Try.prog 92 = some (.sc (.slice none 0 0)) := by kernel_rfl
instance izv92 : ZvF Try.prog 92 (.sc (.slice none 0 0)) := ⟨zv92⟩
@[go_sem] theorem zo92 : zok Try.prog 92 1 := by simp only [zok, zv92]; rfl
instance izo92 : ZoF Try.prog 92 1 := ⟨zo92⟩
@[go_sem] theorem ty93 : tyv Try.prog 93 = some (false, 1) := by kernel_rfl
instance ity93 : TyF Try.prog 93 false 1 := ⟨ty93⟩
@[go_sem] theorem sl93 : slv Try.prog 93 = none := by kernel_rfl
instance isl93 : SlN Try.prog 93 := ⟨sl93⟩
@[go_sem] theorem zv93 : zv Try.prog 93 = some (.sc .nilFunc) := by kernel_rfl
instance izv93 : ZvF Try.prog 93 (.sc .nilFunc) := ⟨zv93⟩
@[go_sem] theorem zo93 : zok Try.prog 93 1 := by simp only [zok, zv93]; rfl
instance izo93 : ZoF Try.prog 93 1 := ⟨zo93⟩
@[go_sem] theorem ty94 : tyv Try.prog 94 = some (false, 1) := by kernel_rfl
instance ity94 : TyF Try.prog 94 false 1 := ⟨ty94⟩
@[go_sem] theorem sl94 : slv Try.prog 94 = none := by kernel_rfl
instance isl94 : SlN Try.prog 94 := ⟨sl94⟩
@[go_sem] theorem zv94 : zv Try.prog 94 = some (.sc .nilFunc) := by kernel_rfl
instance izv94 : ZvF Try.prog 94 (.sc .nilFunc) := ⟨zv94⟩
@[go_sem] theorem zo94 : zok Try.prog 94 1 := by simp only [zok, zv94]; rfl
instance izo94 : ZoF Try.prog 94 1 := ⟨zo94⟩
@[go_sem] theorem ty95 : tyv Try.prog 95 = some (true, 2) := by kernel_rfl
instance ity95 : TyF Try.prog 95 true 2 := ⟨ty95⟩
@[go_sem] theorem sl95 : slv Try.prog 95 = none := by kernel_rfl
instance isl95 : SlN Try.prog 95 := ⟨sl95⟩
@[go_sem] theorem fl95_0 : fldv Try.prog 95 0 = some (0, false, 1) := by kernel_rfl
instance ifl95_0 : FlF Try.prog 95 0 0 false 1 := ⟨fl95_0⟩
@[go_sem] theorem fl95_1 : fldv Try.prog 95 1 = some (1, false, 1) := by kernel_rfl
instance ifl95_1 : FlF Try.prog 95 1 1 false 1 := ⟨fl95_1⟩
@[go_sem] theorem pl95 : places Try.prog 95 = some [(0, 1), (1, 1)] := by kernel_rfl
instance ipl95 : PlF Try.prog 95 [(0, 1), (1, 1)] := ⟨pl95⟩
theorem eq95 : eqlT Try.prog 95 [.sc (.int .i64 0), .sc (.int .i64 0)] := eqlT_of (by kernel_rfl) ty95 (by kernel_rfl)
instance ieq95 : EqF Try.prog 95 ([.sc (.int .i64 0), .sc (.int .i64 0)]) := ⟨eq95⟩
@[go_sem] theorem zv95 : zv Try.prog 95 = some (.agg [.sc (.int .i64 0), .sc (.int .i64 0)]) := by kernel_rfl
instance izv95 : ZvF Try.prog 95 (.agg [.sc (.int .i64 0), .sc (.int .i64 0)]) := ⟨zv95⟩
@[go_sem] theorem zo95 : zok Try.prog 95 2 := by simp only [zok, zv95]; rfl
instance izo95 : ZoF Try.prog 95 2 := ⟨zo95⟩
@[go_sem] theorem ty96 : tyv Try.prog 96 = some (true, 2) := by kernel_rfl
instance ity96 : TyF Try.prog 96 true 2 := ⟨ty96⟩
@[go_sem] theorem sl96 : slv Try.prog 96 = none := by kernel_rfl
instance isl96 : SlN Try.prog 96 := ⟨sl96⟩
@[go_sem] theorem fl96_0 : fldv Try.prog 96 0 = some (0, false, 1) := by kernel_rfl
instance ifl96_0 : FlF Try.prog 96 0 0 false 1 := ⟨fl96_0⟩
@[go_sem] theorem fl96_1 : fldv Try.prog 96 1 = some (1, false, 1) := by kernel_rfl
instance ifl96_1 : FlF Try.prog 96 1 1 false 1 := ⟨fl96_1⟩
@[go_sem] theorem pl96 : places Try.prog 96 = some [(0, 1), (1, 1)] := by kernel_rfl
instance ipl96 : PlF Try.prog 96 [(0, 1), (1, 1)] := ⟨pl96⟩
theorem eq96 : eqlT Try.prog 96 [.sc (.int .i64 0), .sc (.int .i64 0)] := eqlT_of (by kernel_rfl) ty96 (by kernel_rfl)
instance ieq96 : EqF Try.prog 96 ([.sc (.int .i64 0), .sc (.int .i64 0)]) := ⟨eq96⟩
@[go_sem] theorem zv96 : zv Try.prog 96 = some (.agg [.sc (.int .i64 0), .sc (.int .i64 0)]) := by kernel_rfl
instance izv96 : ZvF Try.prog 96 (.agg [.sc (.int .i64 0), .sc (.int .i64 0)]) := ⟨zv96⟩
@[go_sem] theorem zo96 : zok Try.prog 96 2 := by simp only [zok, zv96]; rfl
instance izo96 : ZoF Try.prog 96 2 := ⟨zo96⟩
@[go_sem] theorem ty97 : tyv Try.prog 97 = some (false, 1) := by kernel_rfl
instance ity97 : TyF Try.prog 97 false 1 := ⟨ty97⟩
@[go_sem] theorem sl97 : slv Try.prog 97 = some (96, 2, 16) := by kernel_rfl
instance isl97 : SlF Try.prog 97 96 2 16 := ⟨sl97⟩
@[go_sem] theorem zv97 : zv Try.prog 97 = some (.sc (.slice none 0 0)) := by kernel_rfl
instance izv97 : ZvF Try.prog 97 (.sc (.slice none 0 0)) := ⟨zv97⟩
@[go_sem] theorem zo97 : zok Try.prog 97 1 := by simp only [zok, zv97]; rfl
instance izo97 : ZoF Try.prog 97 1 := ⟨zo97⟩
@[go_sem] theorem ty98 : tyv Try.prog 98 = some (true, 4) := by kernel_rfl
instance ity98 : TyF Try.prog 98 true 4 := ⟨ty98⟩
@[go_sem] theorem sl98 : slv Try.prog 98 = none := by kernel_rfl
instance isl98 : SlN Try.prog 98 := ⟨sl98⟩
@[go_sem] theorem fl98_0 : fldv Try.prog 98 0 = some (0, false, 1) := by kernel_rfl
instance ifl98_0 : FlF Try.prog 98 0 0 false 1 := ⟨fl98_0⟩
@[go_sem] theorem fl98_1 : fldv Try.prog 98 1 = some (1, true, 3) := by kernel_rfl
instance ifl98_1 : FlF Try.prog 98 1 1 true 3 := ⟨fl98_1⟩
@[go_sem] theorem pl98 : places Try.prog 98 = some [(0, 1), (1, 3)] := by kernel_rfl
instance ipl98 : PlF Try.prog 98 [(0, 1), (1, 3)] := ⟨pl98⟩
@[go_sem] theorem zv98 : zv Try.prog 98 = some (.agg [.sc (.slice none 0 0), .sc (.int .i64 0), .sc (.int .i64 0), .sc (.int .i64 0)]) := by kernel_rfl
instance izv98 : ZvF Try.prog 98 (.agg [.sc (.slice none 0 0), .sc (.int .i64 0), .sc (.int .i64 0), .sc (.int .i64 0)]) := ⟨zv98⟩
@[go_sem] theorem zo98 : zok Try.prog 98 4 := by simp only [zok, zv98]; rfl
instance izo98 : ZoF Try.prog 98 4 := ⟨zo98⟩
@[go_sem] theorem ty99 : tyv Try.prog 99 = some (true, 4) := by kernel_rfl
instance ity99 : TyF Try.prog 99 true 4 := ⟨ty99⟩
@[go_sem] theorem sl99 : slv Try.prog 99 = none := by kernel_rfl
instance isl99 : SlN Try.prog 99 := ⟨sl99⟩
@[go_sem] theorem fl99_0 : fldv Try.prog 99 0 = some (0, false, 1) := by kernel_rfl
instance ifl99_0 : FlF Try.prog 99 0 0 false 1 := ⟨fl99_0⟩
@[go_sem] theorem fl99_1 : fldv Try.prog 99 1 = some (1, true, 3) := by kernel_rfl
instance ifl99_1 : FlF Try.prog 99 1 1 true 3 := ⟨fl99_1⟩
@[go_sem] theorem pl99 : places Try.prog 99 = some [(0, 1), (1, 3)] := by kernel_rfl
instance ipl99 : PlF Try.prog 99 [(0, 1), (1, 3)] := ⟨pl99⟩
@[go_sem] theorem zv99 : zv Try.prog 99 = some (.agg [.sc (.slice none 0 0), .sc (.int .i64 0), .sc (.int .i64 0), .sc (.int .i64 0)]) := by kernel_rfl
instance izv99 : ZvF Try.prog 99 (.agg [.sc (.slice none 0 0), .sc (.int .i64 0), .sc (.int .i64 0), .sc (.int .i64 0)]) := ⟨zv99⟩
@[go_sem] theorem zo99 : zok Try.prog 99 4 := by simp only [zok, zv99]; rfl
instance izo99 : ZoF Try.prog 99 4 := ⟨zo99⟩
@[go_sem] theorem ty100 : tyv Try.prog 100 = some (false, 1) := by kernel_rfl
instance ity100 : TyF Try.prog 100 false 1 := ⟨ty100⟩
@[go_sem] theorem sl100 : slv Try.prog 100 = none := by kernel_rfl
instance isl100 : SlN Try.prog 100 := ⟨sl100⟩
@[go_sem] theorem zv100 : zv Try.prog 100 = some (.sc .nilFunc) := by kernel_rfl
instance izv100 : ZvF Try.prog 100 (.sc .nilFunc) := ⟨zv100⟩
@[go_sem] theorem zo100 : zok Try.prog 100 1 := by simp only [zok, zv100]; rfl
instance izo100 : ZoF Try.prog 100 1 := ⟨zo100⟩
@[go_sem] theorem ty101 : tyv Try.prog 101 = some (false, 1) := by kernel_rfl
instance ity101 : TyF Try.prog 101 false 1 := ⟨ty101⟩
@[go_sem] theorem sl101 : slv Try.prog 101 = some (111, 4, 48) := by kernel_rfl
instance isl101 : SlF Try.prog 101 111 4 48 := ⟨sl101⟩
@[go_sem] theorem zv101 : zv Try.prog 101 = some (.sc (.slice none 0 0)) := by kernel_rfl
instance izv101 : ZvF Try.prog 101 (.sc (.slice none 0 0)) := ⟨zv101⟩
@[go_sem] theorem zo101 : zok Try.prog 101 1 := by simp only [zok, zv101]; rfl
instance izo101 : ZoF Try.prog 101 1 := ⟨zo101⟩
@[go_sem] theorem ty102 : tyv Try.prog 102 = some (false, 1) := by kernel_rfl
instance ity102 : TyF Try.prog 102 false 1 := ⟨ty102⟩
@[go_sem] theorem sl102 : slv Try.prog 102 = none := by kernel_rfl
instance isl102 : SlN Try.prog 102 := ⟨sl102⟩
@[go_sem] theorem zv102 : zv Try.prog 102 = some (.sc .nilFunc) := by kernel_rfl
instance izv102 : ZvF Try.prog 102 (.sc .nilFunc) := ⟨zv102⟩
@[go_sem] theorem zo102 : zok Try.prog 102 1 := by simp only [zok, zv102]; rfl
instance izo102 : ZoF Try.prog 102 1 := ⟨zo102⟩
@[go_sem] theorem ty103 : tyv Try.prog 103 = some (false, 1) := by kernel_rfl
instance ity103 : TyF Try.prog 103 false 1 := ⟨ty103⟩
@[go_sem] theorem sl103 : slv Try.prog 103 = none := by kernel_rfl
instance isl103 : SlN Try.prog 103 := ⟨sl103⟩
@[go_sem] theorem zv103 : zv Try.prog 103 = some (.sc .nilFunc) := by kernel_rfl
instance izv103 : ZvF Try.prog 103 (.sc .nilFunc) := ⟨zv103⟩
@[go_sem] theorem zo103 : zok Try.prog 103 1 := by simp only [zok, zv103]; rfl
instance izo103 : ZoF Try.prog 103 1 := ⟨zo103⟩
@[go_sem] theorem ty104 : tyv Try.prog 104 = some (false, 1) := by kernel_rfl
instance ity104 : TyF Try.prog 104 false 1 := ⟨ty104⟩
@[go_sem] theorem sl104 : slv Try.prog 104 = none := by kernel_rfl
instance isl104 : SlN Try.prog 104 := ⟨sl104⟩
@[go_sem] theorem zv104 : zv Try.prog 104 = some (.sc .nilFunc) := by kernel_rfl
instance izv104 : ZvF Try.prog 104 (.sc .nilFunc) := ⟨zv104⟩
@[go_sem] theorem zo104 : zok Try.prog 104 1 := by simp only [zok, zv104]; rfl
instance izo104 : ZoF Try.prog 104 1 := ⟨zo104⟩
@[go_sem] theorem ty105 : tyv Try.prog 105 = some (false, 1) := by kernel_rfl
instance ity105 : TyF Try.prog 105 false 1 := ⟨ty105⟩
@[go_sem] theorem sl105 : slv Try.prog 105 = none := by kernel_rfl
instance isl105 : SlN Try.prog 105 := ⟨sl105⟩
@[go_sem] theorem zv105 : zv Try.prog 105 = some (.sc .nilFunc) := by kernel_rfl
instance izv105 : ZvF Try.prog 105 (.sc .nilFunc) := ⟨zv105⟩
@[go_sem] theorem zo105 : zok Try.prog 105 1 := by simp only [zok, zv105]; rfl
instance izo105 : ZoF Try.prog 105 1 := ⟨zo105⟩
@[go_sem] theorem ty106 : tyv Try.prog 106 = some (false, 1) := by kernel_rfl
instance ity106 : TyF Try.prog 106 false 1 := ⟨ty106⟩
@[go_sem] theorem un106 : Try.prog.underlying 106 = some (.int .u64) := by kernel_rfl
instance iun106 : UnF Try.prog 106 (.int .u64) := ⟨un106⟩
@[go_sem] theorem sl106 : slv Try.prog 106 = none := by kernel_rfl
instance isl106 : SlN Try.prog 106 := ⟨sl106⟩
@[go_sem] theorem zv106 : zv Try.prog 106 = some (.sc (.int .u64 0)) := by kernel_rfl
instance izv106 : ZvF Try.prog 106 (.sc (.int .u64 0)) := ⟨zv106⟩
@[go_sem] theorem zo106 : zok Try.prog 106 1 := by simp only [zok, zv106]; rfl
instance izo106 : ZoF Try.prog 106 1 := ⟨zo106⟩
@[go_sem] theorem ty107 : tyv Try.prog 107 = some (false, 1) := by kernel_rfl
instance ity107 : TyF Try.prog 107 false 1 := ⟨ty107⟩
@[go_sem] theorem sl107 : slv Try.prog 107 = none := by kernel_rfl
instance isl107 : SlN Try.prog 107 := ⟨sl107⟩
@[go_sem] theorem zv107 : zv Try.prog 107 = some (.sc .nilFunc) := by kernel_rfl
instance izv107 : ZvF Try.prog 107 (.sc .nilFunc) := ⟨zv107⟩
@[go_sem] theorem zo107 : zok Try.prog 107 1 := by simp only [zok, zv107]; rfl
instance izo107 : ZoF Try.prog 107 1 := ⟨zo107⟩
@[go_sem] theorem ty108 : tyv Try.prog 108 = some (false, 1) := by kernel_rfl
instance ity108 : TyF Try.prog 108 false 1 := ⟨ty108⟩
@[go_sem] theorem sl108 : slv Try.prog 108 = none := by kernel_rfl
instance isl108 : SlN Try.prog 108 := ⟨sl108⟩
@[go_sem] theorem zv108 : zv Try.prog 108 = some (.sc .nilFunc) := by kernel_rfl
instance izv108 : ZvF Try.prog 108 (.sc .nilFunc) := ⟨zv108⟩
@[go_sem] theorem zo108 : zok Try.prog 108 1 := by simp only [zok, zv108]; rfl
instance izo108 : ZoF Try.prog 108 1 := ⟨zo108⟩
@[go_sem] theorem ty109 : tyv Try.prog 109 = some (false, 1) := by kernel_rfl
instance ity109 : TyF Try.prog 109 false 1 := ⟨ty109⟩
@[go_sem] theorem sl109 : slv Try.prog 109 = none := by kernel_rfl
instance isl109 : SlN Try.prog 109 := ⟨sl109⟩
@[go_sem] theorem zv109 : zv Try.prog 109 = some (.sc .nilFunc) := by kernel_rfl
instance izv109 : ZvF Try.prog 109 (.sc .nilFunc) := ⟨zv109⟩
@[go_sem] theorem zo109 : zok Try.prog 109 1 := by simp only [zok, zv109]; rfl
instance izo109 : ZoF Try.prog 109 1 := ⟨zo109⟩
@[go_sem] theorem ty110 : tyv Try.prog 110 = some (false, 1) := by kernel_rfl
instance ity110 : TyF Try.prog 110 false 1 := ⟨ty110⟩
@[go_sem] theorem sl110 : slv Try.prog 110 = none := by kernel_rfl
instance isl110 : SlN Try.prog 110 := ⟨sl110⟩
@[go_sem] theorem zv110 : zv Try.prog 110 = some (.sc .nilFunc) := by kernel_rfl
instance izv110 : ZvF Try.prog 110 (.sc .nilFunc) := ⟨zv110⟩
@[go_sem] theorem zo110 : zok Try.prog 110 1 := by simp only [zok, zv110]; rfl
instance izo110 : ZoF Try.prog 110 1 := ⟨zo110⟩
@[go_sem] theorem ty111 : tyv Try.prog 111 = some (true, 4) := by kernel_rfl
instance ity111 : TyF Try.prog 111 true 4 := ⟨ty111⟩
@[go_sem] theorem sl111 : slv Try.prog 111 = none := by kernel_rfl
instance isl111 : SlN Try.prog 111 := ⟨sl111⟩
@[go_sem] theorem fl111_0 : fldv Try.prog 111 0 = some (0, false, 1) := by kernel_rfl
instance ifl111_0 : FlF Try.prog 111 0 0 false 1 := ⟨fl111_0⟩
@[go_sem] theorem fl111_1 : fldv Try.prog 111 1 = some (1, true, 3) := by kernel_rfl
instance ifl111_1 : FlF Try.prog 111 1 1 true 3 := ⟨fl111_1⟩
@[go_sem] theorem pl111 : places Try.prog 111 = some [(0, 1), (1, 3)] := by kernel_rfl
instance ipl111 : PlF Try.prog 111 [(0, 1), (1, 3)] := ⟨pl111⟩
@[go_sem] theorem zv111 : zv Try.prog 111 = some (.agg [.sc (.slice none 0 0), .sc (.int .i64 0), .sc (.int .i64 0), .sc (.int .i64 0)]) := by kernel_rfl
instance izv111 : ZvF Try.prog 111 (.agg [.sc (.slice none 0 0), .sc (.int .i64 0), .sc (.int .i64 0), .sc (.int .i64 0)]) := ⟨zv111⟩
@[go_sem] theorem zo111 : zok Try.prog 111 4 := by simp only [zok, zv111]; rfl
instance izo111 : ZoF Try.prog 111 4 := ⟨zo111⟩
@[go_sem] theorem ty112 : tyv Try.prog 112 = some (false, 1) := by kernel_rfl
instance ity112 : TyF Try.prog 112 false 1 := ⟨ty112⟩
@[go_sem] theorem sl112 : slv Try.prog 112 = none := by kernel_rfl
instance isl112 : SlN Try.prog 112 := ⟨sl112⟩
@[go_sem] theorem zv112 : zv Try.prog 112 = some (.sc .nilFunc) := by kernel_rfl
instance izv112 : ZvF Try.prog 112 (.sc .nilFunc) := ⟨zv112⟩
@[go_sem] theorem zo112 : zok Try.prog 112 1 := by simp only [zok, zv112]; rfl
instance izo112 : ZoF Try.prog 112 1 := ⟨zo112⟩
@[go_sem] theorem ty113 : tyv Try.prog 113 = some (false, 1) := by kernel_rfl
instance ity113 : TyF Try.prog 113 false 1 := ⟨ty113⟩
@[go_sem] theorem sl113 : slv Try.prog 113 = none := by kernel_rfl
instance isl113 : SlN Try.prog 113 := ⟨sl113⟩
@[go_sem] theorem zv113 : zv Try.prog 113 = some (.sc .nilFunc) := by kernel_rfl
instance izv113 : ZvF Try.prog 113 (.sc .nilFunc) := ⟨zv113⟩
@[go_sem] theorem zo113 : zok Try.prog 113 1 := by simp only [zok, zv113]; rfl
instance izo113 : ZoF Try.prog 113 1 := ⟨zo113⟩
@[go_sem] theorem ty114 : tyv Try.prog 114 = some (false, 1) := by kernel_rfl
instance ity114 : TyF Try.prog 114 false 1 := ⟨ty114⟩
@[go_sem] theorem sl114 : slv Try.prog 114 = some (138, 5, 40) := by kernel_rfl
instance isl114 : SlF Try.prog 114 138 5 40 := ⟨sl114⟩
@[go_sem] theorem zv114 : zv Try.prog 114 = some (.sc (.slice none 0 0)) := by kernel_rfl
instance izv114 : ZvF Try.prog 114 (.sc (.slice none 0 0)) := ⟨zv114⟩
@[go_sem] theorem zo114 : zok Try.prog 114 1 := by simp only [zok, zv114]; rfl
instance izo114 : ZoF Try.prog 114 1 := ⟨zo114⟩
@[go_sem] theorem ty115 : tyv Try.prog 115 = some (true, 9) := by kernel_rfl
instance ity115 : TyF Try.prog 115 true 9 := ⟨ty115⟩
@[go_sem] theorem sl115 : slv Try.prog 115 = none := by kernel_rfl
instance isl115 : SlN Try.prog 115 := ⟨sl115⟩
@[go_sem] theorem fl115_0 : fldv Try.prog 115 0 = some (0, false, 1) := by kernel_rfl
instance ifl115_0 : FlF Try.prog 115 0 0 false 1 := ⟨fl115_0⟩
@[go_sem] theorem fl115_1 : fldv Try.prog 115 1 = some (1, false, 1) := by kernel_rfl
instance ifl115_1 : FlF Try.prog 115 1 1 false 1 := ⟨fl115_1⟩
@[go_sem] theorem fl115_2 : fldv Try.prog 115 2 = some (2, false, 1) := by kernel_rfl
instance ifl115_2 : FlF Try.prog 115 2 2 false 1 := ⟨fl115_2⟩
@[go_sem] theorem fl115_3 : fldv Try.prog 115 3 = some (3, true, 3) := by kernel_rfl
instance ifl115_3 : FlF Try.prog 115 3 3 true 3 := ⟨fl115_3⟩
@[go_sem] theorem fl115_4 : fldv Try.prog 115 4 = some (6, false, 1) := by kernel_rfl
instance ifl115_4 : FlF Try.prog 115 4 6 false 1 := ⟨fl115_4⟩
@[go_sem] theorem fl115_5 : fldv Try.prog 115 5 = some (7, false, 1) := by kernel_rfl
instance ifl115_5 : FlF Try.prog 115 5 7 false 1 := ⟨fl115_5⟩
@[go_sem] theorem fl115_6 : fldv Try.prog 115 6 = some (8, false, 1) := by kernel_rfl
instance ifl115_6 : FlF Try.prog 115 6 8 false 1 := ⟨fl115_6⟩
@[go_sem] theorem pl115 : places Try.prog 115 = some [(0, 1), (1, 1), (2, 1), (3, 3), (6, 1), (7, 1), (8, 1)] := by kernel_rfl
instance ipl115 : PlF Try.prog 115 [(0, 1), (1, 1), (2, 1), (3, 3), (6, 1), (7, 1), (8, 1)] := ⟨pl115⟩
@[go_sem] theorem zv115 : zv Try.prog 115 = some (.agg [.sc (.slice none 0 0), .sc (.slice none 0 0), .sc (.slice none 0 0), .sc (.int .i64 0), .sc (.int .i64 0), .sc (.int .i64 0), .sc (.int .i64 0), .sc (.int .i64 0), .sc (.int .i64 0)]) := by kernel_rfl
instance izv115 : ZvF Try.prog 115 (.agg [.sc (.slice none 0 0), .sc (.slice none 0 0), .sc (.slice none 0 0), .sc (.int .i64 0), .sc (.int .i64 0), .sc (.int .i64 0), .sc (.int .i64 0), .sc (.int .i64 0), .sc (.int .i64 0)]) := ⟨zv115⟩
@[go_sem] theorem zo115 : zok Try.prog 115 9 := by simp only [zok, zv115]; rfl
instance izo115 : ZoF Try.prog 115 9 := ⟨zo115⟩
@[go_sem] theorem ty116 : tyv Try.prog 116 = some (true, 9) := by kernel_rfl
instance ity116 : TyF Try.prog 116 true 9 := ⟨ty116⟩
@[go_sem] theorem sl116 : slv Try.prog 116 = none := by kernel_rfl
instance isl116 : SlN Try.prog 116 := ⟨sl116⟩
@[go_sem] theorem fl116_0 : fldv Try.prog 116 0 = some (0, false, 1) := by kernel_rfl
instance ifl116_0 : FlF Try.prog 116 0 0 false 1 := ⟨fl116_0⟩
@[go_sem] theorem fl116_1 : fldv Try.prog 116 1 = some (1, false, 1) := by kernel_rfl
instance ifl116_1 : FlF Try.prog 116 1 1 false 1 := ⟨fl116_1⟩
@[go_sem] theorem fl116_2 : fldv Try.prog 116 2 = some (2, false, 1) := by kernel_rfl
instance ifl116_2 : FlF Try.prog 116 2 2 false 1 := ⟨fl116_2⟩
@[go_sem] theorem fl116_3 : fldv Try.prog 116 3 = some (3, true, 3) := by kernel_rfl
instance ifl116_3 : FlF Try.prog 116 3 3 true 3 := ⟨fl116_3⟩
@[go_sem] theorem fl116_4 : fldv Try.prog 116 4 = some (6, false, 1) := by kernel_rfl
instance ifl116_4 : FlF Try.prog 116 4 6 false 1 := ⟨fl116_4⟩
@[go_sem] theorem fl116_5 : fldv Try.prog 116 5 = some (7, false, 1) := by kernel_rfl
instance ifl116_5 : FlF Try.prog 116 5 7 false 1 := ⟨fl116_5⟩
@[go_sem] theorem fl116_6 : fldv Try.prog 116 6 = some (8, false, 1) := by kernel_rfl
instance ifl116_6 : FlF Try.prog 116 6 8 false 1 := ⟨fl116_6⟩
@[go_sem] theorem pl116 : places Try.prog 116 = some [(0, 1), (1, 1), (2, 1), (3, 3), (6, 1), (7, 1), (8, 1)] := by kernel_rfl
instance ipl116 : PlF Try.prog 116 [(0, 1), (1, 1), (2, 1), (3, 3), (6, 1), (7, 1), (8, 1)] := ⟨pl116⟩
@[go_sem] theorem zv116 : zv Try.prog 116 = some (.agg [.sc (.slice none 0 0), .sc (.slice none 0 0), .sc (.slice none 0 0), .sc (.int .i64 0), .sc (.int .i64 0), .sc (.int .i64 0), .sc (.int .i64 0), .sc (.int .i64 0), .sc (.int .i64 0)]) := by kernel_rfl
instance izv116 : ZvF Try.prog 116 (.agg [.sc (.slice none 0 0), .sc (.slice none 0 0), .sc (.slice none 0 0), .sc (.int .i64 0), .sc (.int .i64 0), .sc (.int .i64 0), .sc (.int .i64 0), .sc (.int .i64 0), .sc (.int .i64 0)]) := ⟨zv116⟩
@[go_sem] theorem zo116 : zok Try.prog 116 9 := by simp only [zok, zv116]; rfl
instance izo116 : ZoF Try.prog 116 9 := ⟨zo116⟩
@[go_sem] theorem ty117 : tyv Try.prog 117 = some (false, 1) := by kernel_rfl
instance ity117 : TyF Try.prog 117 false 1 := ⟨ty117⟩
@[go_sem] theorem sl117 : slv Try.prog 117 = none := by kernel_rfl
instance isl117 : SlN Try.prog 117 := ⟨sl117⟩
@[go_sem] theorem zv117 : zv Try.prog 117 = some (.sc .nilFunc) := by kernel_rfl
instance izv117 : ZvF Try.prog 117 (.sc .nilFunc) := ⟨zv117⟩
@[go_sem] theorem zo117 : zok Try.prog 117 1 := by simp only [zok, zv117]; rfl
instance izo117 : ZoF Try.prog 117 1 := ⟨zo117⟩
@[go_sem] theorem ty118 : tyv Try.prog 118 = some (false, 1) := by kernel_rfl
instance ity118 : TyF Try.prog 118 false 1 := ⟨ty118⟩
@[go_sem] theorem sl118 : slv Try.prog 118 = none := by kernel_rfl
instance isl118 : SlN Try.prog 118 := ⟨sl118⟩
@[go_sem] theorem zv118 : zv Try.prog 118 = some (.sc .nilFunc) := by kernel_rfl
instance izv118 : ZvF Try.prog 118 (.sc .nilFunc) := ⟨zv118⟩
@[go_sem] theorem zo118 : zok Try.prog 118 1 := by simp only [zok, zv118]; rfl
instance izo118 : ZoF Try.prog 118 1 := ⟨zo118⟩
@[go_sem] theorem ty119 : tyv Try.prog 119 = some (false, 1) := by kernel_rfl
instance ity119 : TyF Try.prog 119 false 1 := ⟨ty119⟩
@[go_sem] theorem sl119 : slv Try.prog 119 = none := by kernel_rfl
instance isl119 : SlN Try.prog 119 := ⟨sl119⟩
@[go_sem] theorem zv119 : zv Try.prog 119 = some (.sc .nilFunc) := by kernel_rfl
instance izv119 : ZvF Try.prog 119 (.sc .nilFunc) := ⟨zv119⟩
@[go_sem] theorem zo119 : zok Try.prog 119 1 := by simp only [zok, zv119]; rfl
instance izo119 : ZoF Try.prog 119 1 := ⟨zo119⟩
@[go_sem] theorem ty120 : tyv Try.prog 120 = some (false, 1) := by kernel_rfl
instance ity120 : TyF Try.prog 120 false 1 := ⟨ty120⟩
@[go_sem] theorem sl120 : slv Try.prog 120 = none := by kernel_rfl
instance isl120 : SlN Try.prog 120 := ⟨sl120⟩
@[go_sem] theorem zv120 : zv Try.prog 120 = some (.sc .nilFunc) := by kernel_rfl
instance izv120 : ZvF Try.prog 120 (.sc .nilFunc) := ⟨zv120⟩
@[go_sem] theorem zo120 : zok Try.prog 120 1 := by simp only [zok, zv120]; rfl
instance izo120 : ZoF Try.prog 120 1 := ⟨zo120⟩
@[go_sem] theorem ty121 : tyv Try.prog 121 = some (false, 1) := by kernel_rfl
instance ity121 : TyF Try.prog 121 false 1 := ⟨ty121⟩
@[go_sem] theorem sl121 : slv Try.prog 121 = none := by kernel_rfl
instance isl121 : SlN Try.prog 121 := ⟨sl121⟩
@[go_sem] theorem zv121 : zv Try.prog 121 = some (.sc .nilFunc) := by kernel_rfl
instance izv121 : ZvF Try.prog 121 (.sc .nilFunc) := ⟨zv121⟩
@[go_sem] theorem zo121 : zok Try.prog 121 1 := by simp only [zok, zv121]; rfl
instance izo121 : ZoF Try.prog 121 1 := ⟨zo121⟩
@[go_sem] theorem ty122 : tyv Try.prog 122 = some (false, 1) := by kernel_rfl
instance ity122 : TyF Try.prog 122 false 1 := ⟨ty122⟩
@[go_sem] theorem un122 : Try.prog.underlying 122 = some (.int .i64) := by kernel_rfl
instance iun122 : UnF Try.prog 122 (.int .i64) := ⟨un122⟩
@[go_sem] theorem sl122 : slv Try.prog 122 = none := by kernel_rfl
instance isl122 : SlN Try.prog 122 := ⟨sl122⟩
@[go_sem] theorem zv122 : zv Try.prog 122 = some (.sc (.int .i64 0)) := by kernel_rfl
instance izv122 : ZvF Try.prog 122 (.sc (.int .i64 0)) := ⟨zv122⟩
@[go_sem] theorem zo122 : zok Try.prog 122 1 := by simp only [zok, zv122]; rfl
instance izo122 : ZoF Try.prog 122 1 := ⟨zo122⟩
@[go_sem] theorem ty124 : tyv Try.prog 124 = some (false, 1) := by kernel_rfl
instance ity124 : TyF Try.prog 124 false 1 := ⟨ty124⟩
@[go_sem] theorem sl124 : slv Try.prog 124 = none := by kernel_rfl
instance isl124 : SlN Try.prog 124 := ⟨sl124⟩
@[go_sem] theorem zv124 : zv Try.prog 124 = some (.sc .nilFunc) := by kernel_rfl
instance izv124 : ZvF Try.prog 124 (.sc .nilFunc) := ⟨zv124⟩
@[go_sem] theorem zo124 : zok Try.prog 124 1 := by simp only [zok, zv124]; rfl
instance izo124 : ZoF Try.prog 124 1 := ⟨zo124⟩
@[go_sem] theorem ty125 : tyv Try.prog 125 = some (false, 1) := by kernel_rfl
instance ity125 : TyF Try.prog 125 false 1 := ⟨ty125⟩
@[go_sem] theorem sl125 : slv Try.prog 125 = none := by kernel_rfl
instance isl125 : SlN Try.prog 125 := ⟨sl125⟩
@[go_sem] theorem zv125 : zv Try.prog 125 = some (.sc .nilFunc) := by kernel_rfl
instance izv125 : ZvF Try.prog 125 (.sc .nilFunc) := ⟨zv125⟩
@[go_sem] theorem zo125 : zok Try.prog 125 1 := by simp only [zok, zv125]; rfl
instance izo125 : ZoF Try.prog 125 1 := ⟨zo125⟩
@[go_sem] theorem ty126 : tyv Try.prog 126 = some (false, 1) := by kernel_rfl
instance ity126 : TyF Try.prog 126 false 1 := ⟨ty126⟩
@[go_sem] theorem sl126 : slv Try.prog 126 = none := by kernel_rfl
instance isl126 : SlN Try.prog 126 := ⟨sl126⟩
@[go_sem] theorem zv126 : zv Try.prog 126 = some (.sc .nilFunc) := by kernel_rfl
instance izv126 : ZvF Try.prog 126 (.sc .nilFunc) := ⟨zv126⟩
@[go_sem] theorem zo126 : zok Try.prog 126 1 := by simp only [zok, zv126]; rfl
instance izo126 : ZoF Try.prog 126 1 := ⟨zo126⟩
@[go_sem] theorem ty127 : tyv Try.prog 127 = some (false, 1) := by kernel_rfl
instance ity127 : TyF Try.prog 127 false 1 := ⟨ty127⟩
@[go_sem] theorem sl127 : slv Try.prog 127 = none := by kernel_rfl
instance isl127 : SlN Try.prog 127 := ⟨sl127⟩
@[go_sem] theorem zv127 : zv Try.prog 127 = some (.sc .nilFunc) := by kernel_rfl
instance izv127 : ZvF Try.prog 127 (.sc .nilFunc) := ⟨zv127⟩
@[go_sem] theorem zo127 : zok Try.prog 127 1 := by simp only [zok, zv127]; rfl
instance izo127 : ZoF Try.prog 127 1 := ⟨zo127⟩
@[go_sem] theorem ty128 : tyv Try.prog 128 = some (false, 1) := by kernel_rfl
instance ity128 : TyF Try.prog 128 false 1 := ⟨ty128⟩
@[go_sem] theorem sl128 : slv Try.prog 128 = none := by kernel_rfl
instance isl128 : SlN Try.prog 128 := ⟨sl128⟩
@[go_sem] theorem zv128 : zv Try.prog 128 = some (.sc .nilFunc) := by kernel_rfl
instance izv128 : ZvF Try.prog 128 (.sc .nilFunc) := ⟨zv128⟩
@[go_sem] theorem zo128 : zok Try.prog 128 1 := by simp only [zok, zv128]; rfl
instance izo128 : ZoF Try.prog 128 1 := ⟨zo128⟩
@[go_sem] theorem ty129 : tyv Try.prog 129 = some (false, 1) := by kernel_rfl
instance ity129 : TyF Try.prog 129 false 1 := ⟨ty129⟩
@[go_sem] theorem un129 : Try.prog.underlying 129 = some (.int .u32) := by kernel_rfl
instance iun129 : UnF Try.prog 129 (.int .u32) := ⟨un129⟩
@[go_sem] theorem sl129 : slv Try.prog 129 = none := by kernel_rfl
instance isl129 : SlN Try.prog 129 := ⟨sl129⟩
@[go_sem] theorem zv129 : zv Try.prog 129 = some (.sc (.int .u32 0)) := by kernel_rfl
instance izv129 : ZvF Try.prog 129 (.sc (.int .u32 0)) := ⟨zv129⟩
@[go_sem] theorem zo129 : zok Try.prog 129 1 := by simp only [zok, zv129]; rfl
instance izo129 : ZoF Try.prog 129 1 := ⟨zo129⟩
@[go_sem] theorem ty130 : tyv Try.prog 130 = some (false, 1) := by kernel_rfl
instance ity130 : TyF Try.prog 130 false 1 := ⟨ty130⟩
@[go_sem] theorem sl130 : slv Try.prog 130 = none := by kernel_rfl
instance isl130 : SlN Try.prog 130 := ⟨sl130⟩
@[go_sem] theorem zv130 : zv Try.prog 130 = some (.sc .nilFunc) := by kernel_rfl
instance izv130 : ZvF Try.prog 130 (.sc .nilFunc) := ⟨zv130⟩
@[go_sem] theorem zo130 : zok Try.prog 130 1 := by simp only [zok, zv130]; rfl
instance izo130 : ZoF Try.prog 130 1 := ⟨zo130⟩
@[go_sem] theorem ty131 : tyv Try.prog 131 = some (false, 1) := by kernel_rfl
instance ity131 : TyF Try.prog 131 false 1 := ⟨ty131⟩
@[go_sem] theorem un131 : Try.prog.underlying 131 = some (.int .u64) := by kernel_rfl
instance iun131 : UnF Try.prog 131 (.int .u64) := ⟨un131⟩
@[go_sem] theorem sl131 : slv Try.prog 131 = none := by kernel_rfl
instance isl131 : SlN Try.prog 131 := ⟨sl131⟩
@[go_sem] theorem zv131 : zv Try.prog 131 = some (.sc (.int .u64 0)) := by kernel_rfl
instance izv131 : ZvF Try.prog 131 (.sc (.int .u64 0)) := ⟨zv131⟩
@[go_sem] theorem zo131 : zok Try.prog 131 1 := by simp only [zok, zv131]; rfl
instance izo131 : ZoF Try.prog 131 1 := ⟨zo131⟩
@[go_sem] theorem ty132 : tyv Try.prog 132 = some (false, 1) := by kernel_rfl
instance ity132 : TyF Try.prog 132 false 1 := ⟨ty132⟩
@[go_sem] theorem sl132 : slv Try.prog 132 = none := by kernel_rfl
instance isl132 : SlN Try.prog 132 := ⟨sl132⟩
@[go_sem] theorem zv132 : zv Try.prog 132 = some (.sc .nilFunc) := by kernel_rfl
instance izv132 : ZvF Try.prog 132 (.sc .nilFunc) := ⟨zv132⟩
@[go_sem] theorem zo132 : zok Try.prog 132 1 := by simp only [zok, zv132]; rfl
instance izo132 : ZoF Try.prog 132 1 := ⟨zo132⟩
@[go_sem] theorem ty133 : tyv Try.prog 133 = some (false, 1) := by kernel_rfl
instance ity133 : TyF Try.prog 133 false 1 := ⟨ty133⟩
@[go_sem] theorem sl133 : slv Try.prog 133 = none := by kernel_rfl
instance isl133 : SlN Try.prog 133 := ⟨sl133⟩
@[go_sem] theorem zv133 : zv Try.prog 133 = some (.sc .nilFunc) := by kernel_rfl
instance izv133 : ZvF Try.prog 133 (.sc .nilFunc) := ⟨zv133⟩
@[go_sem] theorem zo133 : zok Try.prog 133 1 := by simp only [zok, zv133]; rfl
instance izo133 : ZoF Try.prog 133 1 := ⟨zo133⟩
@[go_sem] theorem ty134 : tyv Try.prog 134 = some (false, 1) := by kernel_rfl
instance ity134 : TyF Try.prog 134 false 1 := ⟨ty134⟩
@[go_sem] theorem sl134 : slv Try.prog 134 = none := by kernel_rfl
instance isl134 : SlN Try.prog 134 := ⟨sl134⟩
@[go_sem] theorem zv134 : zv Try.prog 134 = some (.sc .nilFunc) := by kernel_rfl
instance izv134 : ZvF Try.prog 134 (.sc .nilFunc) := ⟨zv134⟩
@[go_sem] theorem zo134 : zok Try.prog 134 1 := by simp only [zok, zv134]; rfl
instance izo134 : ZoF Try.prog 134 1 := ⟨zo134⟩
@[go_sem] theorem ty135 : tyv Try.prog 135 = some (false, 1) := by kernel_rfl
instance ity135 : TyF Try.prog 135 false 1 := ⟨ty135⟩
@[go_sem] theorem sl135 : slv Try.prog 135 = none := by kernel_rfl
instance isl135 : SlN Try.prog 135 := ⟨sl135⟩
@[go_sem] theorem zv135 : zv Try.prog 135 = some (.sc .nilFunc) := by kernel_rfl
instance izv135 : ZvF Try.prog 135 (.sc .nilFunc) := ⟨zv135⟩
@[go_sem] theorem zo135 : zok Try.prog 135 1 := by simp only [zok, zv135]; rfl
instance izo135 : ZoF Try.prog 135 1 := ⟨zo135⟩
@[go_sem] theorem ty136 : tyv Try.prog 136 = some (false, 1) := by kernel_rfl
instance ity136 : TyF Try.prog 136 false 1 := ⟨ty136⟩
@[go_sem] theorem sl136 : slv Try.prog 136 = none := by kernel_rfl
instance isl136 : SlN Try.prog 136 := ⟨sl136⟩
@[go_sem] theorem zv136 : zv Try.prog 136 = some (.sc .nilFunc) := by kernel_rfl
instance izv136 : ZvF Try.prog 136 (.sc .nilFunc) := ⟨zv136⟩
@[go_sem] theorem zo136 : zok Try.prog 136 1 := by simp only [zok, zv136]; rfl
instance izo136 : ZoF Try.prog 136 1 := ⟨zo136⟩
@[go_sem] theorem ty137 : tyv Try.prog 137 = some (true, 5) := by kernel_rfl
instance ity137 : TyF Try.prog 137 true 5 := ⟨ty137⟩
@[go_sem] theorem sl137 : slv Try.prog 137 = none := by kernel_rfl
instance isl137 : SlN Try.prog 137 := ⟨sl137⟩
@[go_sem] theorem fl137_0 : fldv Try.prog 137 0 = some (0, false, 1) := by kernel_rfl
instance ifl137_0 : FlF Try.prog 137 0 0 false 1 := ⟨fl137_0⟩
@[go_sem] theorem fl137_1 : fldv Try.prog 137 1 = some (1, false, 1) := by kernel_rfl
instance ifl137_1 : FlF Try.prog 137 1 1 false 1 := ⟨fl137_1⟩
@[go_sem] theorem fl137_2 : fldv Try.prog 137 2 = some (2, false, 1) := by kernel_rfl
instance ifl137_2 : FlF Try.prog 137 2 2 false 1 := ⟨fl137_2⟩
@[go_sem] theorem fl137_3 : fldv Try.prog 137 3 = some (3, false, 1) := by kernel_rfl
instance ifl137_3 : FlF Try.prog 137 3 3 false 1 := ⟨fl137_3⟩
@[go_sem] theorem fl137_4 : fldv Try.prog 137 4 = some (4, false, 1) := by kernel_rfl
instance ifl137_4 : FlF Try.prog 137 4 4 false 1 := ⟨fl137_4⟩
@[go_sem] theorem pl137 : places Try.prog 137 = some [(0, 1), (1, 1), (2, 1), (3, 1), (4, 1)] := by kernel_rfl
instance ipl137 : PlF Try.prog 137 [(0, 1), (1, 1), (2, 1), (3, 1), (4, 1)] := ⟨pl137⟩
theorem eq137 : eqlT Try.prog 137 [.sc (.int .i64 0), .sc (.int .i64 0), .sc (.int .i64 0), .sc (.int .i64 0), .sc (.int .i64 0)] := eqlT_of (by kernel_rfl) ty137 (by kernel_rfl)
instance ieq137 : EqF Try.prog 137 ([.sc (.int .i64 0), .sc (.int .i64 0), .sc (.int .i64 0), .sc (.int .i64 0), .sc (.int .i64 0)]) := ⟨eq137⟩
@[go_sem] theorem zv137 : zv Try.prog 137 = some (.agg [.sc (.int .i64 0), .sc (.int .i64 0), .sc (.int .i64 0), .sc (.int .i64 0), .sc (.int .i64 0)]) := by kernel_rfl
instance izv137 : ZvF Try.prog 137 (.agg [.sc (.int .i64 0), .sc (.int .i64 0), .sc (.int .i64 0), .sc (.int .i64 0), .sc (.int .i64 0)]) := ⟨zv137⟩
@[go_sem] theorem zo137 : zok Try.prog 137 5 := by simp only [zok, zv137]; rfl
instance izo137 : ZoF Try.prog 137 5 := ⟨zo137⟩
@[go_sem] theorem ty138 : tyv Try.prog 138 = some (true, 5) := by kernel_rfl
instance ity138 : TyF Try.prog 138 true 5 := ⟨ty138⟩
@[go_sem] theorem sl138 : slv Try.prog 138 = none := by kernel_rfl
instance isl138 : SlN Try.prog 138 := ⟨sl138⟩
@[go_sem] theorem fl138_0 : fldv Try.prog 138 0 = some (0, false, 1) := by kernel_rfl
instance ifl138_0 : FlF Try.prog 138 0 0 false 1 := ⟨fl138_0⟩
@[go_sem] theorem fl138_1 : fldv Try.prog 138 1 = some (1, false, 1) := by kernel_rfl
instance ifl138_1 : FlF Try.prog 138 1 1 false 1 := ⟨fl138_1⟩
@[go_sem] theorem fl138_2 : fldv Try.prog 138 2 = some (2, false, 1) := by kernel_rfl
instance ifl138_2 : FlF Try.prog 138 2 2 false 1 := ⟨fl138_2⟩
@[go_sem] theorem fl138_3 : fldv Try.prog 138 3 = some (3, false, 1) := by kernel_rfl
instance ifl138_3 : FlF Try.prog 138 3 3 false 1 := ⟨fl138_3⟩
@[go_sem] theorem fl138_4 : fldv Try.prog 138 4 = some (4, false, 1) := by kernel_rfl
instance ifl138_4 : FlF Try.prog 138 4 4 false 1 := ⟨fl138_4⟩
@[go_sem] theorem pl138 : places Try.prog 138 = some [(0, 1), (1, 1), (2, 1), (3, 1), (4, 1)] := by kernel_rfl
instance ipl138 : PlF Try.prog 138 [(0, 1), (1, 1), (2, 1), (3, 1), (4, 1)] := ⟨pl138⟩
theorem eq138 : eqlT Try.prog 138 [.sc (.int .i64 0), .sc (.int .i64 0), .sc (.int .i64 0), .sc (.int .i64 0), .sc (.int .i64 0)] := eqlT_of (by kernel_rfl) ty138 (by kernel_rfl)
instance ieq138 : EqF Try.prog 138 ([.sc (.int .i64 0), .sc (.int .i64 0), .sc (.int .i64 0), .sc (.int .i64 0), .sc (.int .i64 0)]) := ⟨eq138⟩
@[go_sem] theorem zv138 : zv Try.prog 138 = some (.agg [.sc (.int .i64 0), .sc (.int .i64 0), .sc (.int .i64 0), .sc (.int .i64 0), .sc (.int .i64 0)]) := by kernel_rfl
instance izv138 : ZvF Try.prog 138 (.agg [.sc (.int .i64 0), .sc (.int .i64 0), .sc (.int .i64 0), .sc (.int .i64 0), .sc (.int .i64 0)]) := ⟨zv138⟩
@[go_sem] theorem zo138 : zok Try.prog 138 5 := by simp only [zok, zv138]; rfl
instance izo138 : ZoF Try.prog 138 5 := ⟨zo138⟩
@[go_sem] theorem ty139 : tyv Try.prog 139 = some (false, 1) := by kernel_rfl
instance ity139 : TyF Try.prog 139 false 1 := ⟨ty139⟩
@[go_sem] theorem sl139 : slv Try.prog 139 = none := by kernel_rfl
instance isl139 : SlN Try.prog 139 := ⟨sl139⟩
@[go_sem] theorem zv139 : zv Try.prog 139 = some (.sc .nilFunc) := by kernel_rfl
instance izv139 : ZvF Try.prog 139 (.sc .nilFunc) := ⟨zv139⟩
@[go_sem] theorem zo139 : zok Try.prog 139 1 := by simp only [zok, zv139]; rfl
instance izo139 : ZoF Try.prog 139 1 := ⟨zo139⟩
@[go_sem] theorem ty140 : tyv Try.prog 140 = some (false, 1) := by kernel_rfl
instance ity140 : TyF Try.prog 140 false 1 := ⟨ty140⟩
@[go_sem] theorem sl140 : slv Try.prog 140 = none := by kernel_rfl
instance isl140 : SlN Try.prog 140 := ⟨sl140⟩
@[go_sem] theorem zv140 : zv Try.prog 140 = some (.sc .nilFunc) := by kernel_rfl
instance izv140 : ZvF Try.prog 140 (.sc .nilFunc) := ⟨zv140⟩
@[go_sem] theorem zo140 : zok Try.prog 140 1 := by simp only [zok, zv140]; rfl
instance izo140 : ZoF Try.prog 140 1 := ⟨zo140⟩
@[go_sem] theorem ty141 : tyv Try.prog 141 = some (false, 1) := by kernel_rfl
instance ity141 : TyF Try.prog 141 false 1 := ⟨ty141⟩
@[go_sem] theorem sl141 : slv Try.prog 141 = none := by kernel_rfl
instance isl141 : SlN Try.prog 141 := ⟨sl141⟩
@[go_sem] theorem zv141 : zv Try.prog 141 = some (.sc .nilFunc) := by kernel_rfl
instance izv141 : ZvF Try.prog 141 (.sc .nilFunc) := ⟨zv141⟩
@[go_sem] theorem zo141 : zok Try.prog 141 1 := by simp only [zok, zv141]; rfl
instance izo141 : ZoF Try.prog 141 1 := ⟨zo141⟩
@[go_sem] theorem ty142 : tyv Try.prog 142 = some (false, 1) := by kernel_rfl
instance ity142 : TyF Try.prog 142 false 1 := ⟨ty142⟩
@[go_sem] theorem sl142 : slv Try.prog 142 = none := by kernel_rfl
instance isl142 : SlN Try.prog 142 := ⟨sl142⟩
@[go_sem] theorem zv142 : zv Try.prog 142 = some (.sc .nilFunc) := by kernel_rfl
instance izv142 : ZvF Try.prog 142 (.sc .nilFunc) := ⟨zv142⟩
@[go_sem] theorem zo142 : zok Try.prog 142 1 := by simp only [zok, zv142]; rfl
instance izo142 : ZoF Try.prog 142 1 := ⟨zo142⟩
@[go_sem] theorem ty143 : tyv Try.prog 143 = some (false, 1) := by kernel_rfl
instance ity143 : TyF Try.prog 143 false 1 := ⟨ty143⟩
@[go_sem] theorem sl143 : slv Try.prog 143 = none := by kernel_rfl
instance isl143 : SlN Try.prog 143 := ⟨sl143⟩
@[go_sem] theorem zv143 : zv Try.prog 143 = some (.sc .nilFunc) := by kernel_rfl
instance izv143 : ZvF Try.prog 143 (.sc .nilFunc) := ⟨zv143⟩
@[go_sem] theorem zo143 : zok Try.prog 143 1 := by simp only [zok, zv143]; rfl
instance izo143 : ZoF Try.prog 143 1 := ⟨zo143⟩
@[go_sem] theorem ty144 : tyv Try.prog 144 = some (false, 1) := by kernel_rfl
instance ity144 : TyF Try.prog 144 false 1 := ⟨ty144⟩
@[go_sem] theorem sl144 : slv Try.prog 144 = none := by kernel_rfl
instance isl144 : SlN Try.prog 144 := ⟨sl144⟩
@[go_sem] theorem zv144 : zv Try.prog 144 = some (.sc .nilFunc) := by kernel_rfl
instance izv144 : ZvF Try.prog 144 (.sc .nilFunc) := ⟨zv144⟩
@[go_sem] theorem zo144 : zok Try.prog 144 1 := by simp only [zok, zv144]; rfl
instance izo144 : ZoF Try.prog 144 1 := ⟨zo144⟩
@[go_sem] theorem ty145 : tyv Try.prog 145 = some (false, 1) := by kernel_rfl
instance ity145 : TyF Try.prog 145 false 1 := ⟨ty145⟩
@[go_sem] theorem sl145 : slv Try.prog 145 = none := by kernel_rfl
instance isl145 : SlN Try.prog 145 := ⟨sl145⟩
@[go_sem] theorem zv145 : zv Try.prog 145 = some (.sc .nilFunc) := by kernel_rfl
instance izv145 : ZvF Try.prog 145 (.sc .nilFunc) := ⟨zv145⟩
@[go_sem] theorem zo145 : zok Try.prog 145 1 := by simp only [zok, zv145]; rfl
instance izo145 : ZoF Try.prog 145 1 := ⟨zo145⟩
@[go_sem] theorem ty146 : tyv Try.prog 146 = some (false, 1) := by kernel_rfl
instance ity146 : TyF Try.prog 146 false 1 := ⟨ty146⟩
@[go_sem] theorem un146 : Try.prog.underlying 146 = some (.int .u64) := by kernel_rfl
instance iun146 : UnF Try.prog 146 (.int .u64) := ⟨un146⟩
@[go_sem] theorem sl146 : slv Try.prog 146 = none := by kernel_rfl
instance isl146 : SlN Try.prog 146 := ⟨sl146⟩
@[go_sem] theorem zv146 : zv Try.prog 146 = some (.sc (.int .u64 0)) := by kernel_rfl
instance izv146 : ZvF Try.prog 146 (.sc (.int .u64 0)) := ⟨zv146⟩
@[go_sem] theorem zo146 : zok Try.prog 146 1 := by simp only [zok, zv146]; rfl
instance izo146 : ZoF Try.prog 146 1 := ⟨zo146⟩
@[go_sem] theorem ty147 : tyv Try.prog 147 = some (false, 1) := by kernel_rfl
instance ity147 : TyF Try.prog 147 false 1 := ⟨ty147⟩
@[go_sem] theorem sl147 : slv Try.prog 147 = none := by kernel_rfl
instance isl147 : SlN Try.prog 147 := ⟨sl147⟩
@[go_sem] theorem zv147 : zv Try.prog 147 = some (.sc .nilFunc) := by kernel_rfl
instance izv147 : ZvF Try.prog 147 (.sc .nilFunc) := ⟨zv147⟩
@[go_sem] theorem zo147 : zok Try.prog 147 1 := by simp only [zok, zv147]; rfl
instance izo147 : ZoF Try.prog 147 1 := ⟨zo147⟩
@[go_sem] theorem ty148 : tyv Try.prog 148 = some (false, 1) := by kernel_rfl
instance ity148 : TyF Try.prog 148 false 1 := ⟨ty148⟩
@[go_sem] theorem sl148 : slv Try.prog 148 = none := by kernel_rfl
instance isl148 : SlN Try.prog 148 := ⟨sl148⟩
@[go_sem] theorem zv148 : zv Try.prog 148 = some (.sc .nilFunc) := by kernel_rfl
instance izv148 : ZvF Try.prog 148 (.sc .nilFunc) := ⟨zv148⟩
@[go_sem] theorem zo148 : zok Try.prog 148 1 := by simp only [zok, zv148]; rfl
instance izo148 : ZoF Try.prog 148 1 := ⟨zo148⟩
@[go_sem] theorem ty149 : tyv Try.prog 149 = some (false, 1) := by kernel_rfl
instance ity149 : TyF Try.prog 149 false 1 := ⟨ty149⟩
@[go_sem] theorem sl149 : slv Try.prog 149 = none := by kernel_rfl
instance isl149 : SlN Try.prog 149 := ⟨sl149⟩
@[go_sem] theorem zv149 : zv Try.prog 149 = some (.sc .nilFunc) := by kernel_rfl
instance izv149 : ZvF Try.prog 149 (.sc .nilFunc) := ⟨zv149⟩
@[go_sem] theorem zo149 : zok Try.prog 149 1 := by simp only [zok, zv149]; rfl
instance izo149 : ZoF Try.prog 149 1 := ⟨zo149⟩
@[go_sem] theorem ty150 : tyv Try.prog 150 = some (false, 1) := by kernel_rfl
instance ity150 : TyF Try.prog 150 false 1 := ⟨ty150⟩
@[go_sem] theorem sl150 : slv Try.prog 150 = none := by kernel_rfl
instance isl150 : SlN Try.prog 150 := ⟨sl150⟩
@[go_sem] theorem zv150 : zv Try.prog 150 = some (.sc (.pointer none)) := by kernel_rfl
instance izv150 : ZvF Try.prog 150 (.sc (.pointer none)) := ⟨zv150⟩
@[go_sem] theorem zo150 : zok Try.prog 150 1 := by simp only [zok, zv150]; rfl
instance izo150 : ZoF Try.prog 150 1 := ⟨zo150⟩
@[go_sem] theorem ty151 : tyv Try.prog 151 = some (false, 1) := by kernel_rfl
instance ity151 : TyF Try.prog 151 false 1 := ⟨ty151⟩
@[go_sem] theorem sl151 : slv Try.prog 151 = none := by kernel_rfl
instance isl151 : SlN Try.prog 151 := ⟨sl151⟩
@[go_sem] theorem zv151 : zv Try.prog 151 = some (.sc .nilFunc) := by kernel_rfl
instance izv151 : ZvF Try.prog 151 (.sc .nilFunc) := ⟨zv151⟩
@[go_sem] theorem zo151 : zok Try.prog 151 1 := by simp only [zok, zv151]; rfl
instance izo151 : ZoF Try.prog 151 1 := ⟨zo151⟩
@[go_sem] theorem ty152 : tyv Try.prog 152 = some (false, 1) := by kernel_rfl
instance ity152 : TyF Try.prog 152 false 1 := ⟨ty152⟩
@[go_sem] theorem sl152 : slv Try.prog 152 = none := by kernel_rfl
instance isl152 : SlN Try.prog 152 := ⟨sl152⟩
@[go_sem] theorem zv152 : zv Try.prog 152 = some (.sc .nilFunc) := by kernel_rfl
instance izv152 : ZvF Try.prog 152 (.sc .nilFunc) := ⟨zv152⟩
@[go_sem] theorem zo152 : zok Try.prog 152 1 := by simp only [zok, zv152]; rfl
instance izo152 : ZoF Try.prog 152 1 := ⟨zo152⟩
@[go_sem] theorem ty153 : tyv Try.prog 153 = some (false, 1) := by kernel_rfl
instance ity153 : TyF Try.prog 153 false 1 := ⟨ty153⟩
@[go_sem] theorem sl153 : slv Try.prog 153 = none := by kernel_rfl
instance isl153 : SlN Try.prog 153 := ⟨sl153⟩
@[go_sem] theorem zv153 : zv Try.prog 153 = some (.sc .nilFunc) := by kernel_rfl
instance izv153 : ZvF Try.prog 153 (.sc .nilFunc) := ⟨zv153⟩
@[go_sem] theorem zo153 : zok Try.prog 153 1 := by simp only [zok, zv153]; rfl
instance izo153 : ZoF Try.prog 153 1 := ⟨zo153⟩
@[go_sem] theorem ty154 : tyv Try.prog 154 = some (false, 1) := by kernel_rfl
instance ity154 : TyF Try.prog 154 false 1 := ⟨ty154⟩
@[go_sem] theorem sl154 : slv Try.prog 154 = none := by kernel_rfl
instance isl154 : SlN Try.prog 154 := ⟨sl154⟩
@[go_sem] theorem zv154 : zv Try.prog 154 = some (.sc .nilFunc) := by kernel_rfl
instance izv154 : ZvF Try.prog 154 (.sc .nilFunc) := ⟨zv154⟩
@[go_sem] theorem zo154 : zok Try.prog 154 1 := by simp only [zok, zv154]; rfl
instance izo154 : ZoF Try.prog 154 1 := ⟨zo154⟩
@[go_sem] theorem ty155 : tyv Try.prog 155 = some (false, 1) := by kernel_rfl
instance ity155 : TyF Try.prog 155 false 1 := ⟨ty155⟩
@[go_sem] theorem sl155 : slv Try.prog 155 = none := by kernel_rfl
instance isl155 : SlN Try.prog 155 := ⟨sl155⟩
@[go_sem] theorem zv155 : zv Try.prog 155 = some (.sc .nilFunc) := by kernel_rfl
instance izv155 : ZvF Try.prog 155 (.sc .nilFunc) := ⟨zv155⟩
@[go_sem] theorem zo155 : zok Try.prog 155 1 := by simp only [zok, zv155]; rfl
instance izo155 : ZoF Try.prog 155 1 := ⟨zo155⟩
@[go_sem] theorem ty156 : tyv Try.prog 156 = some (false, 1) := by kernel_rfl
instance ity156 : TyF Try.prog 156 false 1 := ⟨ty156⟩
@[go_sem] theorem sl156 : slv Try.prog 156 = none := by kernel_rfl
instance isl156 : SlN Try.prog 156 := ⟨sl156⟩
@[go_sem] theorem zv156 : zv Try.prog 156 = some (.sc .nilFunc) := by kernel_rfl
instance izv156 : ZvF Try.prog 156 (.sc .nilFunc) := ⟨zv156⟩
@[go_sem] theorem zo156 : zok Try.prog 156 1 := by simp only [zok, zv156]; rfl
instance izo156 : ZoF Try.prog 156 1 := ⟨zo156⟩
@[go_sem] theorem ty157 : tyv Try.prog 157 = some (false, 1) := by kernel_rfl
instance ity157 : TyF Try.prog 157 false 1 := ⟨ty157⟩
@[go_sem] theorem sl157 : slv Try.prog 157 = none := by kernel_rfl
instance isl157 : SlN Try.prog 157 := ⟨sl157⟩
@[go_sem] theorem zv157 : zv Try.prog 157 = some (.sc .nilFunc) := by kernel_rfl
instance izv157 : ZvF Try.prog 157 (.sc .nilFunc) := ⟨zv157⟩
@[go_sem] theorem zo157 : zok Try.prog 157 1 := by simp only [zok, zv157]; rfl
instance izo157 : ZoF Try.prog 157 1 := ⟨zo157⟩
@[go_sem] theorem ty158 : tyv Try.prog 158 = some (false, 1) := by kernel_rfl
instance ity158 : TyF Try.prog 158 false 1 := ⟨ty158⟩
@[go_sem] theorem sl158 : slv Try.prog 158 = none := by kernel_rfl
instance isl158 : SlN Try.prog 158 := ⟨sl158⟩
@[go_sem] theorem zv158 : zv Try.prog 158 = some (.sc .nilFunc) := by kernel_rfl
instance izv158 : ZvF Try.prog 158 (.sc .nilFunc) := ⟨zv158⟩
@[go_sem] theorem zo158 : zok Try.prog 158 1 := by simp only [zok, zv158]; rfl
instance izo158 : ZoF Try.prog 158 1 := ⟨zo158⟩
@[go_sem] theorem ty159 : tyv Try.prog 159 = some (false, 1) := by kernel_rfl
instance ity159 : TyF Try.prog 159 false 1 := ⟨ty159⟩
@[go_sem] theorem mp159 : mpv Try.prog 159 = some ((.int .i64), 138) := by kernel_rfl
instance imp159 : MpF Try.prog 159 ((.int .i64)) 138 := ⟨mp159⟩
@[go_sem] theorem sl159 : slv Try.prog 159 = none := by kernel_rfl
instance isl159 : SlN Try.prog 159 := ⟨sl159⟩
@[go_sem] theorem zv159 : zv Try.prog 159 = some (.sc (.map none)) := by kernel_rfl
instance izv159 : ZvF Try.prog 159 (.sc (.map none)) := ⟨zv159⟩
@[go_sem] theorem zo159 : zok Try.prog 159 1 := by simp only [zok, zv159]; rfl
instance izo159 : ZoF Try.prog 159 1 := ⟨zo159⟩
@[go_sem] theorem ty161 : tyv Try.prog 161 = some (false, 1) := by kernel_rfl
instance ity161 : TyF Try.prog 161 false 1 := ⟨ty161⟩
@[go_sem] theorem sl161 : slv Try.prog 161 = none := by kernel_rfl
instance isl161 : SlN Try.prog 161 := ⟨sl161⟩
@[go_sem] theorem zv161 : zv Try.prog 161 = some (.sc (.pointer none)) := by kernel_rfl
instance izv161 : ZvF Try.prog 161 (.sc (.pointer none)) := ⟨zv161⟩
@[go_sem] theorem zo161 : zok Try.prog 161 1 := by simp only [zok, zv161]; rfl
instance izo161 : ZoF Try.prog 161 1 := ⟨zo161⟩
@[go_sem] theorem ty163 : tyv Try.prog 163 = some (false, 1) := by kernel_rfl
instance ity163 : TyF Try.prog 163 false 1 := ⟨ty163⟩
@[go_sem] theorem sl163 : slv Try.prog 163 = none := by kernel_rfl
instance isl163 : SlN Try.prog 163 := ⟨sl163⟩
@[go_sem] theorem zv163 : zv Try.prog 163 = some (.sc .nilFunc) := by kernel_rfl
instance izv163 : ZvF Try.prog 163 (.sc .nilFunc) := ⟨zv163⟩
@[go_sem] theorem zo163 : zok Try.prog 163 1 := by simp only [zok, zv163]; rfl
instance izo163 : ZoF Try.prog 163 1 := ⟨zo163⟩
@[go_sem] theorem ty164 : tyv Try.prog 164 = some (false, 1) := by kernel_rfl
instance ity164 : TyF Try.prog 164 false 1 := ⟨ty164⟩
@[go_sem] theorem sl164 : slv Try.prog 164 = none := by kernel_rfl
instance isl164 : SlN Try.prog 164 := ⟨sl164⟩
@[go_sem] theorem zv164 : zv Try.prog 164 = some (.sc .nilFunc) := by kernel_rfl
instance izv164 : ZvF Try.prog 164 (.sc .nilFunc) := ⟨zv164⟩
@[go_sem] theorem zo164 : zok Try.prog 164 1 := by simp only [zok, zv164]; rfl
instance izo164 : ZoF Try.prog 164 1 := ⟨zo164⟩
@[go_sem] theorem ty165 : tyv Try.prog 165 = some (false, 1) := by kernel_rfl
instance ity165 : TyF Try.prog 165 false 1 := ⟨ty165⟩
@[go_sem] theorem sl165 : slv Try.prog 165 = none := by kernel_rfl
instance isl165 : SlN Try.prog 165 := ⟨sl165⟩
@[go_sem] theorem zv165 : zv Try.prog 165 = some (.sc .nilFunc) := by kernel_rfl
instance izv165 : ZvF Try.prog 165 (.sc .nilFunc) := ⟨zv165⟩
@[go_sem] theorem zo165 : zok Try.prog 165 1 := by simp only [zok, zv165]; rfl
instance izo165 : ZoF Try.prog 165 1 := ⟨zo165⟩
@[go_sem] theorem ty166 : tyv Try.prog 166 = some (false, 1) := by kernel_rfl
instance ity166 : TyF Try.prog 166 false 1 := ⟨ty166⟩
@[go_sem] theorem sl166 : slv Try.prog 166 = none := by kernel_rfl
instance isl166 : SlN Try.prog 166 := ⟨sl166⟩
@[go_sem] theorem zv166 : zv Try.prog 166 = some (.sc .nilFunc) := by kernel_rfl
instance izv166 : ZvF Try.prog 166 (.sc .nilFunc) := ⟨zv166⟩
@[go_sem] theorem zo166 : zok Try.prog 166 1 := by simp only [zok, zv166]; rfl
instance izo166 : ZoF Try.prog 166 1 := ⟨zo166⟩
@[go_sem] theorem ty167 : tyv Try.prog 167 = some (false, 1) := by kernel_rfl
instance ity167 : TyF Try.prog 167 false 1 := ⟨ty167⟩
@[go_sem] theorem sl167 : slv Try.prog 167 = none := by kernel_rfl
instance isl167 : SlN Try.prog 167 := ⟨sl167⟩
@[go_sem] theorem zv167 : zv Try.prog 167 = some (.sc .nilFunc) := by kernel_rfl
instance izv167 : ZvF Try.prog 167 (.sc .nilFunc) := ⟨zv167⟩
@[go_sem] theorem zo167 : zok Try.prog 167 1 := by simp only [zok, zv167]; rfl
instance izo167 : ZoF Try.prog 167 1 := ⟨zo167⟩
@[go_sem] theorem ty168 : tyv Try.prog 168 = some (false, 1) := by kernel_rfl
instance ity168 : TyF Try.prog 168 false 1 := ⟨ty168⟩
@[go_sem] theorem sl168 : slv Try.prog 168 = none := by kernel_rfl
instance isl168 : SlN Try.prog 168 := ⟨sl168⟩
@[go_sem] theorem zv168 : zv Try.prog 168 = some (.sc .nilFunc) := by kernel_rfl
instance izv168 : ZvF Try.prog 168 (.sc .nilFunc) := ⟨zv168⟩
@[go_sem] theorem zo168 : zok Try.prog 168 1 := by simp only [zok, zv168]; rfl
instance izo168 : ZoF Try.prog 168 1 := ⟨zo168⟩
@[go_sem] theorem ty169 : tyv Try.prog 169 = some (false, 1) := by kernel_rfl
instance ity169 : TyF Try.prog 169 false 1 := ⟨ty169⟩
@[go_sem] theorem sl169 : slv Try.prog 169 = none := by kernel_rfl
instance isl169 : SlN Try.prog 169 := ⟨sl169⟩
@[go_sem] theorem zv169 : zv Try.prog 169 = some (.sc .nilFunc) := by kernel_rfl
instance izv169 : ZvF Try.prog 169 (.sc .nilFunc) := ⟨zv169⟩
@[go_sem] theorem zo169 : zok Try.prog 169 1 := by simp only [zok, zv169]; rfl
instance izo169 : ZoF Try.prog 169 1 := ⟨zo169⟩
@[go_sem] theorem ty170 : tyv Try.prog 170 = some (false, 1) := by kernel_rfl
instance ity170 : TyF Try.prog 170 false 1 := ⟨ty170⟩
@[go_sem] theorem sl170 : slv Try.prog 170 = none := by kernel_rfl
instance isl170 : SlN Try.prog 170 := ⟨sl170⟩
@[go_sem] theorem zv170 : zv Try.prog 170 = some (.sc .nilFunc) := by kernel_rfl
instance izv170 : ZvF Try.prog 170 (.sc .nilFunc) := ⟨zv170⟩
@[go_sem] theorem zo170 : zok Try.prog 170 1 := by simp only [zok, zv170]; rfl
instance izo170 : ZoF Try.prog 170 1 := ⟨zo170⟩
@[go_sem] theorem ty171 : tyv Try.prog 171 = some (false, 1) := by kernel_rfl
instance ity171 : TyF Try.prog 171 false 1 := ⟨ty171⟩
@[go_sem] theorem sl171 : slv Try.prog 171 = none := by kernel_rfl
instance isl171 : SlN Try.prog 171 := ⟨sl171⟩
@[go_sem] theorem zv171 : zv Try.prog 171 = some (.sc .nilFunc) := by kernel_rfl
instance izv171 : ZvF Try.prog 171 (.sc .nilFunc) := ⟨zv171⟩
@[go_sem] theorem zo171 : zok Try.prog 171 1 := by simp only [zok, zv171]; rfl
instance izo171 : ZoF Try.prog 171 1 := ⟨zo171⟩
@[go_sem] theorem ty172 : tyv Try.prog 172 = some (false, 1) := by kernel_rfl
instance ity172 : TyF Try.prog 172 false 1 := ⟨ty172⟩
@[go_sem] theorem sl172 : slv Try.prog 172 = none := by kernel_rfl
instance isl172 : SlN Try.prog 172 := ⟨sl172⟩
@[go_sem] theorem zv172 : zv Try.prog 172 = some (.sc .nilFunc) := by kernel_rfl
instance izv172 : ZvF Try.prog 172 (.sc .nilFunc) := ⟨zv172⟩
@[go_sem] theorem zo172 : zok Try.prog 172 1 := by simp only [zok, zv172]; rfl
instance izo172 : ZoF Try.prog 172 1 := ⟨zo172⟩
@[go_sem] theorem ty173 : tyv Try.prog 173 = some (false, 1) := by kernel_rfl
instance ity173 : TyF Try.prog 173 false 1 := ⟨ty173⟩
@[go_sem] theorem sl173 : slv Try.prog 173 = none := by kernel_rfl
instance isl173 : SlN Try.prog 173 := ⟨sl173⟩
@[go_sem] theorem zv173 : zv Try.prog 173 = some (.sc .nilFunc) := by kernel_rfl
instance izv173 : ZvF Try.prog 173 (.sc .nilFunc) := ⟨zv173⟩
@[go_sem] theorem zo173 : zok Try.prog 173 1 := by simp only [zok, zv173]; rfl
instance izo173 : ZoF Try.prog 173 1 := ⟨zo173⟩
@[go_sem] theorem ty174 : tyv Try.prog 174 = some (false, 1) := by kernel_rfl
instance ity174 : TyF Try.prog 174 false 1 := ⟨ty174⟩
@[go_sem] theorem sl174 : slv Try.prog 174 = none := by kernel_rfl
instance isl174 : SlN Try.prog 174 := ⟨sl174⟩
@[go_sem] theorem zv174 : zv Try.prog 174 = some (.sc .nilFunc) := by kernel_rfl
instance izv174 : ZvF Try.prog 174 (.sc .nilFunc) := ⟨zv174⟩
@[go_sem] theorem zo174 : zok Try.prog 174 1 := by simp only [zok, zv174]; rfl
instance izo174 : ZoF Try.prog 174 1 := ⟨zo174⟩
@[go_sem] theorem ty175 : tyv Try.prog 175 = some (false, 1) := by kernel_rfl
instance ity175 : TyF Try.prog 175 false 1 := ⟨ty175⟩
@[go_sem] theorem sl175 : slv Try.prog 175 = none := by kernel_rfl
instance isl175 : SlN Try.prog 175 := ⟨sl175⟩
@[go_sem] theorem zv175 : zv Try.prog 175 = some (.sc .nilFunc) := by kernel_rfl
instance izv175 : ZvF Try.prog 175 (.sc .nilFunc) := ⟨zv175⟩
@[go_sem] theorem zo175 : zok Try.prog 175 1 := by simp only [zok, zv175]; rfl
instance izo175 : ZoF Try.prog 175 1 := ⟨zo175⟩
@[go_sem] theorem ty176 : tyv Try.prog 176 = some (false, 1) := by kernel_rfl
instance ity176 : TyF Try.prog 176 false 1 := ⟨ty176⟩
@[go_sem] theorem sl176 : slv Try.prog 176 = none := by kernel_rfl
instance isl176 : SlN Try.prog 176 := ⟨sl176⟩
@[go_sem] theorem zv176 : zv Try.prog 176 = some (.sc .nilFunc) := by kernel_rfl
instance izv176 : ZvF Try.prog 176 (.sc .nilFunc) := ⟨zv176⟩
@[go_sem] theorem zo176 : zok Try.prog 176 1 := by simp only [zok, zv176]; rfl
instance izo176 : ZoF Try.prog 176 1 := ⟨zo176⟩
@[go_sem] theorem ty177 : tyv Try.prog 177 = some (true, 4) := by kernel_rfl
instance ity177 : TyF Try.prog 177 true 4 := ⟨ty177⟩
@[go_sem] theorem sl177 : slv Try.prog 177 = none := by kernel_rfl
instance isl177 : SlN Try.prog 177 := ⟨sl177⟩
@[go_sem] theorem fl177_0 : fldv Try.prog 177 0 = some (0, false, 1) := by kernel_rfl
instance ifl177_0 : FlF Try.prog 177 0 0 false 1 := ⟨fl177_0⟩
@[go_sem] theorem fl177_1 : fldv Try.prog 177 1 = some (1, false, 1) := by kernel_rfl
instance ifl177_1 : FlF Try.prog 177 1 1 false 1 := ⟨fl177_1⟩
@[go_sem] theorem fl177_2 : fldv Try.prog 177 2 = some (2, false, 1) := by kernel_rfl
instance ifl177_2 : FlF Try.prog 177 2 2 false 1 := ⟨fl177_2⟩
@[go_sem] theorem fl177_3 : fldv Try.prog 177 3 = some (3, false, 1) := by kernel_rfl
instance ifl177_3 : FlF Try.prog 177 3 3 false 1 := ⟨fl177_3⟩
@[go_sem] theorem pl177 : places Try.prog 177 = some [(0, 1), (1, 1), (2, 1), (3, 1)] := by kernel_rfl
instance ipl177 : PlF Try.prog 177 [(0, 1), (1, 1), (2, 1), (3, 1)] := ⟨pl177⟩
@[go_sem] theorem zv177 : zv Try.prog 177 = some (.agg [.sc (.pointer none), .sc (.pointer none), .sc (.pointer none), .sc (.string ByteArray.empty)]) := by kernel_rfl
instance izv177 : ZvF Try.prog 177 (.agg [.sc (.pointer none), .sc (.pointer none), .sc (.pointer none), .sc (.string ByteArray.empty)]) := ⟨zv177⟩
@[go_sem] theorem zo177 : zok Try.prog 177 4 := by simp only [zok, zv177]; rfl
instance izo177 : ZoF Try.prog 177 4 := ⟨zo177⟩
@[go_sem] theorem ty179 : tyv Try.prog 179 = some (true, 0) := by kernel_rfl
instance ity179 : TyF Try.prog 179 true 0 := ⟨ty179⟩
@[go_sem] theorem sl179 : slv Try.prog 179 = none := by kernel_rfl
instance isl179 : SlN Try.prog 179 := ⟨sl179⟩
@[go_sem] theorem ar179 : arv Try.prog 179 = some (0, false, 1) := by kernel_rfl
instance iar179 : ArF Try.prog 179 0 false 1 := ⟨ar179⟩
@[go_sem] theorem zv179 : zv Try.prog 179 = some (.agg []) := by kernel_rfl
instance izv179 : ZvF Try.prog 179 (.agg []) := ⟨zv179⟩
@[go_sem] theorem ty180 : tyv Try.prog 180 = some (true, 0) := by kernel_rfl
instance ity180 : TyF Try.prog 180 true 0 := ⟨ty180⟩
@[go_sem] theorem sl180 : slv Try.prog 180 = none := by kernel_rfl
instance isl180 : SlN Try.prog 180 := ⟨sl180⟩
@[go_sem] theorem pl180 : places Try.prog 180 = some [(0, 0)] := by kernel_rfl
instance ipl180 : PlF Try.prog 180 [(0, 0)] := ⟨pl180⟩
@[go_sem] theorem zv180 : zv Try.prog 180 = some (.agg []) := by kernel_rfl
instance izv180 : ZvF Try.prog 180 (.agg []) := ⟨zv180⟩
@[go_sem] theorem ty182 : tyv Try.prog 182 = some (false, 1) := by kernel_rfl
instance ity182 : TyF Try.prog 182 false 1 := ⟨ty182⟩
@[go_sem] theorem sl182 : slv Try.prog 182 = none := by kernel_rfl
instance isl182 : SlN Try.prog 182 := ⟨sl182⟩
@[go_sem] theorem zv182 : zv Try.prog 182 = some (.sc .nilFunc) := by kernel_rfl
instance izv182 : ZvF Try.prog 182 (.sc .nilFunc) := ⟨zv182⟩
@[go_sem] theorem zo182 : zok Try.prog 182 1 := by simp only [zok, zv182]; rfl
instance izo182 : ZoF Try.prog 182 1 := ⟨zo182⟩
@[go_sem] theorem ty185 : tyv Try.prog 185 = some (false, 1) := by kernel_rfl
instance ity185 : TyF Try.prog 185 false 1 := ⟨ty185⟩
@[go_sem] theorem sl185 : slv Try.prog 185 = none := by kernel_rfl
instance isl185 : SlN Try.prog 185 := ⟨sl185⟩
@[go_sem] theorem zv185 : zv Try.prog 185 = some (.sc .nilFunc) := by kernel_rfl
instance izv185 : ZvF Try.prog 185 (.sc .nilFunc) := ⟨zv185⟩
@[go_sem] theorem zo185 : zok Try.prog 185 1 := by simp only [zok, zv185]; rfl
instance izo185 : ZoF Try.prog 185 1 := ⟨zo185⟩
@[go_sem] theorem ty186 : tyv Try.prog 186 = some (false, 1) := by kernel_rfl
instance ity186 : TyF Try.prog 186 false 1 := ⟨ty186⟩
@[go_sem] theorem sl186 : slv Try.prog 186 = none := by kernel_rfl
instance isl186 : SlN Try.prog 186 := ⟨sl186⟩
@[go_sem] theorem zv186 : zv Try.prog 186 = some (.sc (.pointer none)) := by kernel_rfl
instance izv186 : ZvF Try.prog 186 (.sc (.pointer none)) := ⟨zv186⟩
@[go_sem] theorem zo186 : zok Try.prog 186 1 := by simp only [zok, zv186]; rfl
instance izo186 : ZoF Try.prog 186 1 := ⟨zo186⟩
@[go_sem] theorem ty189 : tyv Try.prog 189 = some (true, 11) := by kernel_rfl
instance ity189 : TyF Try.prog 189 true 11 := ⟨ty189⟩
@[go_sem] theorem sl189 : slv Try.prog 189 = none := by kernel_rfl
instance isl189 : SlN Try.prog 189 := ⟨sl189⟩
@[go_sem] theorem fl189_0 : fldv Try.prog 189 0 = some (0, false, 1) := by kernel_rfl
instance ifl189_0 : FlF Try.prog 189 0 0 false 1 := ⟨fl189_0⟩
@[go_sem] theorem fl189_1 : fldv Try.prog 189 1 = some (1, false, 1) := by kernel_rfl
instance ifl189_1 : FlF Try.prog 189 1 1 false 1 := ⟨fl189_1⟩
@[go_sem] theorem fl189_2 : fldv Try.prog 189 2 = some (2, false, 1) := by kernel_rfl
instance ifl189_2 : FlF Try.prog 189 2 2 false 1 := ⟨fl189_2⟩
@[go_sem] theorem fl189_3 : fldv Try.prog 189 3 = some (3, false, 1) := by kernel_rfl
instance ifl189_3 : FlF Try.prog 189 3 3 false 1 := ⟨fl189_3⟩
@[go_sem] theorem fl189_4 : fldv Try.prog 189 4 = some (4, false, 1) := by kernel_rfl
instance ifl189_4 : FlF Try.prog 189 4 4 false 1 := ⟨fl189_4⟩
@[go_sem] theorem fl189_5 : fldv Try.prog 189 5 = some (5, false, 1) := by kernel_rfl
instance ifl189_5 : FlF Try.prog 189 5 5 false 1 := ⟨fl189_5⟩
@[go_sem] theorem fl189_6 : fldv Try.prog 189 6 = some (6, false, 1) := by kernel_rfl
instance ifl189_6 : FlF Try.prog 189 6 6 false 1 := ⟨fl189_6⟩
@[go_sem] theorem fl189_7 : fldv Try.prog 189 7 = some (7, false, 1) := by kernel_rfl
instance ifl189_7 : FlF Try.prog 189 7 7 false 1 := ⟨fl189_7⟩
@[go_sem] theorem fl189_8 : fldv Try.prog 189 8 = some (8, false, 1) := by kernel_rfl
instance ifl189_8 : FlF Try.prog 189 8 8 false 1 := ⟨fl189_8⟩
@[go_sem] theorem fl189_9 : fldv Try.prog 189 9 = some (9, false, 1) := by kernel_rfl
instance ifl189_9 : FlF Try.prog 189 9 9 false 1 := ⟨fl189_9⟩
@[go_sem] theorem fl189_10 : fldv Try.prog 189 10 = some (10, false, 1) := by kernel_rfl
instance ifl189_10 : FlF Try.prog 189 10 10 false 1 := ⟨fl189_10⟩
@[go_sem] theorem pl189 : places Try.prog 189 = some [(0, 1), (1, 1), (2, 1), (3, 1), (4, 1), (5, 1), (6, 1), (7, 1), (8, 1), (9, 1), (10, 1)] := by kernel_rfl
instance ipl189 : PlF Try.prog 189 [(0, 1), (1, 1), (2, 1), (3, 1), (4, 1), (5, 1), (6, 1), (7, 1), (8, 1), (9, 1), (10, 1)] := ⟨pl189⟩
@[go_sem] theorem zv189 : zv Try.prog 189 = some (.agg [.sc (.int .u64 0), .sc (.int .u64 0), .sc (.int .u32 0), .sc (.int .u8 0), .sc (.int .u8 0), .sc (.int .u8 0), .sc (.int .u8 0), .sc .nilFunc, .sc (.pointer none), .sc (.int .i32 0), .sc (.int .i32 0)]) := by kernel_rfl
instance izv189 : ZvF Try.prog 189 (.agg [.sc (.int .u64 0), .sc (.int .u64 0), .sc (.int .u32 0), .sc (.int .u8 0), .sc (.int .u8 0), .sc (.int .u8 0), .sc (.int .u8 0), .sc .nilFunc, .sc (.pointer none), .sc (.int .i32 0), .sc (.int .i32 0)]) := ⟨zv189⟩
@[go_sem] theorem zo189 : zok Try.prog 189 11 := by simp only [zok, zv189]; rfl
instance izo189 : ZoF Try.prog 189 11 := ⟨zo189⟩
theorem hb3 : hasBody Try.prog 3 := ⟨Try.f3, _, Try.func3, rfl, by decide +kernel⟩
instance ihb3 : HbF Try.prog 3 := ⟨hb3⟩
theorem hb4 : hasBody Try.prog 4 := ⟨Try.f4, _, Try.func4, rfl, by decide +kernel⟩
instance ihb4 : HbF Try.prog 4 := ⟨hb4⟩
theorem hb5 : hasBody Try.prog 5 := ⟨Try.f5, _, Try.func5, rfl, by decide +kernel⟩
instance ihb5 : HbF Try.prog 5 := ⟨hb5⟩
theorem hb6 : hasBody Try.prog 6 := ⟨Try.f6, _, Try.func6, rfl, by decide +kernel⟩
instance ihb6 : HbF Try.prog 6 := ⟨hb6⟩
theorem hb7 : hasBody Try.prog 7 := ⟨Try.f7, _, Try.func7, rfl, by decide +kernel⟩
instance ihb7 : HbF Try.prog 7 := ⟨hb7⟩
theorem hb8 : hasBody Try.prog 8 := ⟨Try.f8, _, Try.func8, rfl, by decide +kernel⟩
instance ihb8 : HbF Try.prog 8 := ⟨hb8⟩
theorem hb9 : hasBody Try.prog 9 := ⟨Try.f9, _, Try.func9, rfl, by decide +kernel⟩
instance ihb9 : HbF Try.prog 9 := ⟨hb9⟩
theorem hb10 : hasBody Try.prog 10 := ⟨Try.f10, _, Try.func10, rfl, by decide +kernel⟩
instance ihb10 : HbF Try.prog 10 := ⟨hb10⟩
theorem hb11 : hasBody Try.prog 11 := ⟨Try.f11, _, Try.func11, rfl, by decide +kernel⟩
instance ihb11 : HbF Try.prog 11 := ⟨hb11⟩
theorem hb12 : hasBody Try.prog 12 := ⟨Try.f12, _, Try.func12, rfl, by decide +kernel⟩
instance ihb12 : HbF Try.prog 12 := ⟨hb12⟩
theorem hb13 : hasBody Try.prog 13 := ⟨Try.f13, _, Try.func13, rfl, by decide +kernel⟩
instance ihb13 : HbF Try.prog 13 := ⟨hb13⟩
theorem hb14 : hasBody Try.prog 14 := ⟨Try.f14, _, Try.func14, rfl, by decide +kernel⟩
instance ihb14 : HbF Try.prog 14 := ⟨hb14⟩
theorem hb15 : hasBody Try.prog 15 := ⟨Try.f15, _, Try.func15, rfl, by decide +kernel⟩
instance ihb15 : HbF Try.prog 15 := ⟨hb15⟩
theorem hb16 : hasBody Try.prog 16 := ⟨Try.f16, _, Try.func16, rfl, by decide +kernel⟩
instance ihb16 : HbF Try.prog 16 := ⟨hb16⟩
theorem hb17 : hasBody Try.prog 17 := ⟨Try.f17, _, Try.func17, rfl, by decide +kernel⟩
instance ihb17 : HbF Try.prog 17 := ⟨hb17⟩
theorem hb18 : hasBody Try.prog 18 := ⟨Try.f18, _, Try.func18, rfl, by decide +kernel⟩
instance ihb18 : HbF Try.prog 18 := ⟨hb18⟩
theorem hb19 : hasBody Try.prog 19 := ⟨Try.f19, _, Try.func19, rfl, by decide +kernel⟩
instance ihb19 : HbF Try.prog 19 := ⟨hb19⟩
theorem hb20 : hasBody Try.prog 20 := ⟨Try.f20, _, Try.func20, rfl, by decide +kernel⟩
instance ihb20 : HbF Try.prog 20 := ⟨hb20⟩
theorem hb21 : hasBody Try.prog 21 := ⟨Try.f21, _, Try.func21, rfl, by decide +kernel⟩
instance ihb21 : HbF Try.prog 21 := ⟨hb21⟩
theorem hb22 : hasBody Try.prog 22 := ⟨Try.f22, _, Try.func22, rfl, by decide +kernel⟩
instance ihb22 : HbF Try.prog 22 := ⟨hb22⟩
theorem hb23 : hasBody Try.prog 23 := ⟨Try.f23, _, Try.func23, rfl, by decide +kernel⟩
instance ihb23 : HbF Try.prog 23 := ⟨hb23⟩
theorem hb24 : hasBody Try.prog 24 := ⟨Try.f24, _, Try.func24, rfl, by decide +kernel⟩
instance ihb24 : HbF Try.prog 24 := ⟨hb24⟩
theorem hb25 : hasBody Try.prog 25 := ⟨Try.f25, _, Try.func25, rfl, by decide +kernel⟩
instance ihb25 : HbF Try.prog 25 := ⟨hb25⟩
theorem hb26 : hasBody Try.prog 26 := ⟨Try.f26, _, Try.func26, rfl, by decide +kernel⟩
instance ihb26 : HbF Try.prog 26 := ⟨hb26⟩
theorem hb27 : hasBody Try.prog 27 := ⟨Try.f27, _, Try.func27, rfl, by decide +kernel⟩
instance ihb27 : HbF Try.prog 27 := ⟨hb27⟩
theorem hb28 : hasBody Try.prog 28 := ⟨Try.f28, _, Try.func28, rfl, by decide +kernel⟩
instance ihb28 : HbF Try.prog 28 := ⟨hb28⟩
theorem hb29 : hasBody Try.prog 29 := ⟨Try.f29, _, Try.func29, rfl, by decide +kernel⟩
instance ihb29 : HbF Try.prog 29 := ⟨hb29⟩
theorem hb30 : hasBody Try.prog 30 := ⟨Try.f30, _, Try.func30, rfl, by decide +kernel⟩
instance ihb30 : HbF Try.prog 30 := ⟨hb30⟩
theorem hb31 : hasBody Try.prog 31 := ⟨Try.f31, _, Try.func31, rfl, by decide +kernel⟩
instance ihb31 : HbF Try.prog 31 := ⟨hb31⟩
theorem hb32 : hasBody Try.prog 32 := ⟨Try.f32, _, Try.func32, rfl, by decide +kernel⟩
instance ihb32 : HbF Try.prog 32 := ⟨hb32⟩
theorem hb33 : hasBody Try.prog 33 := ⟨Try.f33, _, Try.func33, rfl, by decide +kernel⟩
instance ihb33 : HbF Try.prog 33 := ⟨hb33⟩
theorem hb34 : hasBody Try.prog 34 := ⟨Try.f34, _, Try.func34, rfl, by decide +kernel⟩
instance ihb34 : HbF Try.prog 34 := ⟨hb34⟩
theorem hb35 : hasBody Try.prog 35 := ⟨Try.f35, _, Try.func35, rfl, by decide +kernel⟩
instance ihb35 : HbF Try.prog 35 := ⟨hb35⟩
theorem hb36 : hasBody Try.prog 36 := ⟨Try.f36, _, Try.func36, rfl, by decide +kernel⟩
instance ihb36 : HbF Try.prog 36 := ⟨hb36⟩
theorem hb37 : hasBody Try.prog 37 := ⟨Try.f37, _, Try.func37, rfl, by decide +kernel⟩
instance ihb37 : HbF Try.prog 37 := ⟨hb37⟩
theorem hb38 : hasBody Try.prog 38 := ⟨Try.f38, _, Try.func38, rfl, by decide +kernel⟩
instance ihb38 : HbF Try.prog 38 := ⟨hb38⟩
theorem hb39 : hasBody Try.prog 39 := ⟨Try.f39, _, Try.func39, rfl, by decide +kernel⟩
instance ihb39 : HbF Try.prog 39 := ⟨hb39⟩
theorem hb40 : hasBody Try.prog 40 := ⟨Try.f40, _, Try.func40, rfl, by decide +kernel⟩
instance ihb40 : HbF Try.prog 40 := ⟨hb40⟩
theorem hb41 : hasBody Try.prog 41 := ⟨Try.f41, _, Try.func41, rfl, by decide +kernel⟩
instance ihb41 : HbF Try.prog 41 := ⟨hb41⟩
theorem hb42 : hasBody Try.prog 42 := ⟨Try.f42, _, Try.func42, rfl, by decide +kernel⟩
instance ihb42 : HbF Try.prog 42 := ⟨hb42⟩
theorem hb43 : hasBody Try.prog 43 := ⟨Try.f43, _, Try.func43, rfl, by decide +kernel⟩
instance ihb43 : HbF Try.prog 43 := ⟨hb43⟩
theorem hb44 : hasBody Try.prog 44 := ⟨Try.f44, _, Try.func44, rfl, by decide +kernel⟩
instance ihb44 : HbF Try.prog 44 := ⟨hb44⟩
theorem hb45 : hasBody Try.prog 45 := ⟨Try.f45, _, Try.func45, rfl, by decide +kernel⟩
instance ihb45 : HbF Try.prog 45 := ⟨hb45⟩
theorem hb46 : hasBody Try.prog 46 := ⟨Try.f46, _, Try.func46, rfl, by decide +kernel⟩
instance ihb46 : HbF Try.prog 46 := ⟨hb46⟩
theorem hb47 : hasBody Try.prog 47 := ⟨Try.f47, _, Try.func47, rfl, by decide +kernel⟩
instance ihb47 : HbF Try.prog 47 := ⟨hb47⟩
theorem hb48 : hasBody Try.prog 48 := ⟨Try.f48, _, Try.func48, rfl, by decide +kernel⟩
instance ihb48 : HbF Try.prog 48 := ⟨hb48⟩
theorem hb49 : hasBody Try.prog 49 := ⟨Try.f49, _, Try.func49, rfl, by decide +kernel⟩
instance ihb49 : HbF Try.prog 49 := ⟨hb49⟩
theorem hb50 : hasBody Try.prog 50 := ⟨Try.f50, _, Try.func50, rfl, by decide +kernel⟩
instance ihb50 : HbF Try.prog 50 := ⟨hb50⟩
theorem hb51 : hasBody Try.prog 51 := ⟨Try.f51, _, Try.func51, rfl, by decide +kernel⟩
instance ihb51 : HbF Try.prog 51 := ⟨hb51⟩
theorem hb52 : hasBody Try.prog 52 := ⟨Try.f52, _, Try.func52, rfl, by decide +kernel⟩
instance ihb52 : HbF Try.prog 52 := ⟨hb52⟩
theorem hb53 : hasBody Try.prog 53 := ⟨Try.f53, _, Try.func53, rfl, by decide +kernel⟩
instance ihb53 : HbF Try.prog 53 := ⟨hb53⟩
theorem hb54 : hasBody Try.prog 54 := ⟨Try.f54, _, Try.func54, rfl, by decide +kernel⟩
instance ihb54 : HbF Try.prog 54 := ⟨hb54⟩
theorem hb55 : hasBody Try.prog 55 := ⟨Try.f55, _, Try.func55, rfl, by decide +kernel⟩
instance ihb55 : HbF Try.prog 55 := ⟨hb55⟩
theorem hb56 : hasBody Try.prog 56 := ⟨Try.f56, _, Try.func56, rfl, by decide +kernel⟩
instance ihb56 : HbF Try.prog 56 := ⟨hb56⟩
theorem hb57 : hasBody Try.prog 57 := ⟨Try.f57, _, Try.func57, rfl, by decide +kernel⟩
instance ihb57 : HbF Try.prog 57 := ⟨hb57⟩
theorem hb58 : hasBody Try.prog 58 := ⟨Try.f58, _, Try.func58, rfl, by decide +kernel⟩
instance ihb58 : HbF Try.prog 58 := ⟨hb58⟩
theorem hb59 : hasBody Try.prog 59 := ⟨Try.f59, _, Try.func59, rfl, by decide +kernel⟩
instance ihb59 : HbF Try.prog 59 := ⟨hb59⟩
theorem hb60 : hasBody Try.prog 60 := ⟨Try.f60, _, Try.func60, rfl, by decide +kernel⟩
instance ihb60 : HbF Try.prog 60 := ⟨hb60⟩
theorem hb61 : hasBody Try.prog 61 := ⟨Try.f61, _, Try.func61, rfl, by decide +kernel⟩
instance ihb61 : HbF Try.prog 61 := ⟨hb61⟩
theorem hb62 : hasBody Try.prog 62 := ⟨Try.f62, _, Try.func62, rfl, by decide +kernel⟩
instance ihb62 : HbF Try.prog 62 := ⟨hb62⟩
theorem hb63 : hasBody Try.prog 63 := ⟨Try.f63, _, Try.func63, rfl, by decide +kernel⟩
instance ihb63 : HbF Try.prog 63 := ⟨hb63⟩
theorem hb64 : hasBody Try.prog 64 := ⟨Try.f64, _, Try.func64, rfl, by decide +kernel⟩
instance ihb64 : HbF Try.prog 64 := ⟨hb64⟩
theorem hb65 : hasBody Try.prog 65 := ⟨Try.f65, _, Try.func65, rfl, by decide +kernel⟩
instance ihb65 : HbF Try.prog 65 := ⟨hb65⟩
theorem hb66 : hasBody Try.prog 66 := ⟨Try.f66, _, Try.func66, rfl, by decide +kernel⟩
instance ihb66 : HbF Try.prog 66 := ⟨hb66⟩
theorem hb67 : hasBody Try.prog 67 := ⟨Try.f67, _, Try.func67, rfl, by decide +kernel⟩
instance ihb67 : HbF Try.prog 67 := ⟨hb67⟩
theorem hb68 : hasBody Try.prog 68 := ⟨Try.f68, _, Try.func68, rfl, by decide +kernel⟩
instance ihb68 : HbF Try.prog 68 := ⟨hb68⟩
theorem hb69 : hasBody Try.prog 69 := ⟨Try.f69, _, Try.func69, rfl, by decide +kernel⟩
instance ihb69 : HbF Try.prog 69 := ⟨hb69⟩
theorem hb70 : hasBody Try.prog 70 := ⟨Try.f70, _, Try.func70, rfl, by decide +kernel⟩
instance ihb70 : HbF Try.prog 70 := ⟨hb70⟩
theorem hb71 : hasBody Try.prog 71 := ⟨Try.f71, _, Try.func71, rfl, by decide +kernel⟩
instance ihb71 : HbF Try.prog 71 := ⟨hb71⟩
theorem hb72 : hasBody Try.prog 72 := ⟨Try.f72, _, Try.func72, rfl, by decide +kernel⟩
instance ihb72 : HbF Try.prog 72 := ⟨hb72⟩
theorem hb73 : hasBody Try.prog 73 := ⟨Try.f73, _, Try.func73, rfl, by decide +kernel⟩
instance ihb73 : HbF Try.prog 73 := ⟨hb73⟩
theorem hb74 : hasBody Try.prog 74 := ⟨Try.f74, _, Try.func74, rfl, by decide +kernel⟩
instance ihb74 : HbF Try.prog 74 := ⟨hb74⟩
theorem hb75 : hasBody Try.prog 75 := ⟨Try.f75, _, Try.func75, rfl, by decide +kernel⟩
instance ihb75 : HbF Try.prog 75 := ⟨hb75⟩
theorem hb76 : hasBody Try.prog 76 := ⟨Try.f76, _, Try.func76, rfl, by decide +kernel⟩
instance ihb76 : HbF Try.prog 76 := ⟨hb76⟩
theorem hb77 : hasBody Try.prog 77 := ⟨Try.f77, _, Try.func77, rfl, by decide +kernel⟩
instance ihb77 : HbF Try.prog 77 := ⟨hb77⟩
theorem hb78 : hasBody Try.prog 78 := ⟨Try.f78, _, Try.func78, rfl, by decide +kernel⟩
instance ihb78 : HbF Try.prog 78 := ⟨hb78⟩
theorem hb79 : hasBody Try.prog 79 := ⟨Try.f79, _, Try.func79, rfl, by decide +kernel⟩
instance ihb79 : HbF Try.prog 79 := ⟨hb79⟩
theorem hb80 : hasBody Try.prog 80 := ⟨Try.f80, _, Try.func80, rfl, by decide +kernel⟩
instance ihb80 : HbF Try.prog 80 := ⟨hb80⟩
theorem hb81 : hasBody Try.prog 81 := ⟨Try.f81, _, Try.func81, rfl, by decide +kernel⟩
instance ihb81 : HbF Try.prog 81 := ⟨hb81⟩
theorem hb82 : hasBody Try.prog 82 := ⟨Try.f82, _, Try.func82, rfl, by decide +kernel⟩
instance ihb82 : HbF Try.prog 82 := ⟨hb82⟩
theorem hb83 : hasBody Try.prog 83 := ⟨Try.f83, _, Try.func83, rfl, by decide +kernel⟩
instance ihb83 : HbF Try.prog 83 := ⟨hb83⟩
theorem hb84 : hasBody Try.prog 84 := ⟨Try.f84, _, Try.func84, rfl, by decide +kernel⟩
instance ihb84 : HbF Try.prog 84 := ⟨hb84⟩
theorem hb85 : hasBody Try.prog 85 := ⟨Try.f85, _, Try.func85, rfl, by decide +kernel⟩
instance ihb85 : HbF Try.prog 85 := ⟨hb85⟩
theorem hb86 : hasBody Try.prog 86 := ⟨Try.f86, _, Try.func86, rfl, by decide +kernel⟩
instance ihb86 : HbF Try.prog 86 := ⟨hb86⟩
theorem hb87 : hasBody Try.prog 87 := ⟨Try.f87, _, Try.func87, rfl, by decide +kernel⟩
instance ihb87 : HbF Try.prog 87 := ⟨hb87⟩
theorem hb88 : hasBody Try.prog 88 := ⟨Try.f88, _, Try.func88, rfl, by decide +kernel⟩
instance ihb88 : HbF Try.prog 88 := ⟨hb88⟩
theorem hb89 : hasBody Try.prog 89 := ⟨Try.f89, _, Try.func89, rfl, by decide +kernel⟩
instance ihb89 : HbF Try.prog 89 := ⟨hb89⟩
theorem hb90 : hasBody Try.prog 90 := ⟨Try.f90, _, Try.func90, rfl, by decide +kernel⟩
instance ihb90 : HbF Try.prog 90 := ⟨hb90⟩
theorem hb91 : hasBody Try.prog 91 := ⟨Try.f91, _, Try.func91, rfl, by decide +kernel⟩
instance ihb91 : HbF Try.prog 91 := ⟨hb91⟩
theorem hb92 : hasBody Try.prog 92 := ⟨Try.f92, _, Try.func92, rfl, by decide +kernel⟩
instance ihb92 : HbF Try.prog 92 := ⟨hb92⟩
theorem hb93 : hasBody Try.prog 93 := ⟨Try.f93, _, Try.func93, rfl, by decide +kernel⟩
instance ihb93 : HbF Try.prog 93 := ⟨hb93⟩
theorem hb94 : hasBody Try.prog 94 := ⟨Try.f94, _, Try.func94, rfl, by decide +kernel⟩
instance ihb94 : HbF Try.prog 94 := ⟨hb94⟩
theorem hb95 : hasBody Try.prog 95 := ⟨Try.f95, _, Try.func95, rfl, by decide +kernel⟩
instance ihb95 : HbF Try.prog 95 := ⟨hb95⟩
theorem hb96 : hasBody Try.prog 96 := ⟨Try.f96, _, Try.func96, rfl, by decide +kernel⟩
instance ihb96 : HbF Try.prog 96 := ⟨hb96⟩
theorem hb97 : hasBody Try.prog 97 := ⟨Try.f97, _, Try.func97, rfl, by decide +kernel⟩
instance ihb97 : HbF Try.prog 97 := ⟨hb97⟩
theorem hb98 : hasBody Try.prog 98 := ⟨Try.f98, _, Try.func98, rfl, by decide +kernel⟩
instance ihb98 : HbF Try.prog 98 := ⟨hb98⟩
theorem hb99 : hasBody Try.prog 99 := ⟨Try.f99, _, Try.func99, rfl, by decide +kernel⟩
instance ihb99 : HbF Try.prog 99 := ⟨hb99⟩
theorem hb100 : hasBody Try.prog 100 := ⟨Try.f100, _, Try.func100, rfl, by decide +kernel⟩
instance ihb100 : HbF Try.prog 100 := ⟨hb100⟩
theorem hb101 : hasBody Try.prog 101 := ⟨Try.f101, _, Try.func101, rfl, by decide +kernel⟩
instance ihb101 : HbF Try.prog 101 := ⟨hb101⟩
theorem hb102 : hasBody Try.prog 102 := ⟨Try.f102, _, Try.func102, rfl, by decide +kernel⟩
instance ihb102 : HbF Try.prog 102 := ⟨hb102⟩
theorem hb103 : hasBody Try.prog 103 := ⟨Try.f103, _, Try.func103, rfl, by decide +kernel⟩
instance ihb103 : HbF Try.prog 103 := ⟨hb103⟩
theorem hb104 : hasBody Try.prog 104 := ⟨Try.f104, _, Try.func104, rfl, by decide +kernel⟩
instance ihb104 : HbF Try.prog 104 := ⟨hb104⟩
theorem hb105 : hasBody Try.prog 105 := ⟨Try.f105, _, Try.func105, rfl, by decide +kernel⟩
instance ihb105 : HbF Try.prog 105 := ⟨hb105⟩
theorem hb106 : hasBody Try.prog 106 := ⟨Try.f106, _, Try.func106, rfl, by decide +kernel⟩
instance ihb106 : HbF Try.prog 106 := ⟨hb106⟩
theorem hb107 : hasBody Try.prog 107 := ⟨Try.f107, _, Try.func107, rfl, by decide +kernel⟩
instance ihb107 : HbF Try.prog 107 := ⟨hb107⟩
theorem hb108 : hasBody Try.prog 108 := ⟨Try.f108, _, Try.func108, rfl, by decide +kernel⟩
instance ihb108 : HbF Try.prog 108 := ⟨hb108⟩
theorem hb109 : hasBody Try.prog 109 := ⟨Try.f109, _, Try.func109, rfl, by decide +kernel⟩
instance ihb109 : HbF Try.prog 109 := ⟨hb109⟩
theorem hb110 : hasBody Try.prog 110 := ⟨Try.f110, _, Try.func110, rfl, by decide +kernel⟩
instance ihb110 : HbF Try.prog 110 := ⟨hb110⟩
theorem hb111 : hasBody Try.prog 111 := ⟨Try.f111, _, Try.func111, rfl, by decide +kernel⟩
instance ihb111 : HbF Try.prog 111 := ⟨hb111⟩
theorem hb113 : hasBody Try.prog 113 := ⟨Try.f113, _, Try.func113, rfl, by decide +kernel⟩
instance ihb113 : HbF Try.prog 113 := ⟨hb113⟩
theorem hb114 : hasBody Try.prog 114 := ⟨Try.f114, _, Try.func114, rfl, by decide +kernel⟩
instance ihb114 : HbF Try.prog 114 := ⟨hb114⟩
theorem hb115 : hasBody Try.prog 115 := ⟨Try.f115, _, Try.func115, rfl, by decide +kernel⟩
instance ihb115 : HbF Try.prog 115 := ⟨hb115⟩
theorem hb116 : hasBody Try.prog 116 := ⟨Try.f116, _, Try.func116, rfl, by decide +kernel⟩
instance ihb116 : HbF Try.prog 116 := ⟨hb116⟩
theorem hb117 : hasBody Try.prog 117 := ⟨Try.f117, _, Try.func117, rfl, by decide +kernel⟩
instance ihb117 : HbF Try.prog 117 := ⟨hb117⟩
theorem hb118 : hasBody Try.prog 118 := ⟨Try.f118, _, Try.func118, rfl, by decide +kernel⟩
instance ihb118 : HbF Try.prog 118 := ⟨hb118⟩
theorem hb119 : hasBody Try.prog 119 := ⟨Try.f119, _, Try.func119, rfl, by decide +kernel⟩
instance ihb119 : HbF Try.prog 119 := ⟨hb119⟩
theorem hb120 : hasBody Try.prog 120 := ⟨Try.f120, _, Try.func120, rfl, by decide +kernel⟩
instance ihb120 : HbF Try.prog 120 := ⟨hb120⟩
theorem hb122 : hasBody Try.prog 122 := ⟨Try.f122, _, Try.func122, rfl, by decide +kernel⟩
instance ihb122 : HbF Try.prog 122 := ⟨hb122⟩
theorem hb123 : hasBody Try.prog 123 := ⟨Try.f123, _, Try.func123, rfl, by decide +kernel⟩
instance ihb123 : HbF Try.prog 123 := ⟨hb123⟩
theorem hb124 : hasBody Try.prog 124 := ⟨Try.f124, _, Try.func124, rfl, by decide +kernel⟩
instance ihb124 : HbF Try.prog 124 := ⟨hb124⟩
theorem hb125 : hasBody Try.prog 125 := ⟨Try.f125, _, Try.func125, rfl, by decide +kernel⟩
instance ihb125 : HbF Try.prog 125 := ⟨hb125⟩
theorem hb126 : hasBody Try.prog 126 := ⟨Try.f126, _, Try.func126, rfl, by decide +kernel⟩
instance ihb126 : HbF Try.prog 126 := ⟨hb126⟩
theorem hb127 : hasBody Try.prog 127 := ⟨Try.f127, _, Try.func127, rfl, by decide +kernel⟩
instance ihb127 : HbF Try.prog 127 := ⟨hb127⟩
theorem hb128 : hasBody Try.prog 128 := ⟨Try.f128, _, Try.func128, rfl, by decide +kernel⟩
instance ihb128 : HbF Try.prog 128 := ⟨hb128⟩
theorem hb129 : hasBody Try.prog 129 := ⟨Try.f129, _, Try.func129, rfl, by decide +kernel⟩
instance ihb129 : HbF Try.prog 129 := ⟨hb129⟩
theorem hb130 : hasBody Try.prog 130 := ⟨Try.f130, _, Try.func130, rfl, by decide +kernel⟩
instance ihb130 : HbF Try.prog 130 := ⟨hb130⟩
theorem hb131 : hasBody Try.prog 131 := ⟨Try.f131, _, Try.func131, rfl, by decide +kernel⟩
instance ihb131 : HbF Try.prog 131 := ⟨hb131⟩
theorem hb132 : hasBody Try.prog 132 := ⟨Try.f132, _, Try.func132, rfl, by decide +kernel⟩
instance ihb132 : HbF Try.prog 132 := ⟨hb132⟩
theorem hb133 : hasBody Try.prog 133 := ⟨Try.f133, _, Try.func133, rfl, by decide +kernel⟩
instance ihb133 : HbF Try.prog 133 := ⟨hb133⟩
theorem hb134 : hasBody Try.prog 134 := ⟨Try.f134, _, Try.func134, rfl, by decide +kernel⟩
instance ihb134 : HbF Try.prog 134 := ⟨hb134⟩
theorem hb135 : hasBody Try.prog 135 := ⟨Try.f135, _, Try.func135, rfl, by decide +kernel⟩
instance ihb135 : HbF Try.prog 135 := ⟨hb135⟩
theorem hb136 : hasBody Try.prog 136 := ⟨Try.f136, _, Try.func136, rfl, by decide +kernel⟩
instance ihb136 : HbF Try.prog 136 := ⟨hb136⟩
theorem hb137 : hasBody Try.prog 137 := ⟨Try.f137, _, Try.func137, rfl, by decide +kernel⟩
instance ihb137 : HbF Try.prog 137 := ⟨hb137⟩
theorem hb138 : hasBody Try.prog 138 := ⟨Try.f138, _, Try.func138, rfl, by decide +kernel⟩
instance ihb138 : HbF Try.prog 138 := ⟨hb138⟩
theorem hb139 : hasBody Try.prog 139 := ⟨Try.f139, _, Try.func139, rfl, by decide +kernel⟩
instance ihb139 : HbF Try.prog 139 := ⟨hb139⟩
theorem hb140 : hasBody Try.prog 140 := ⟨Try.f140, _, Try.func140, rfl, by decide +kernel⟩
instance ihb140 : HbF Try.prog 140 := ⟨hb140⟩
theorem hb141 : hasBody Try.prog 141 := ⟨Try.f141, _, Try.func141, rfl, by decide +kernel⟩
instance ihb141 : HbF Try.prog 141 := ⟨hb141⟩
theorem hb143 : hasBody Try.prog 143 := ⟨Try.f143, _, Try.func143, rfl, by decide +kernel⟩
instance ihb143 : HbF Try.prog 143 := ⟨hb143⟩
theorem hb145 : hasBody Try.prog 145 := ⟨Try.f145, _, Try.func145, rfl, by decide +kernel⟩
instance ihb145 : HbF Try.prog 145 := ⟨hb145⟩
theorem hb146 : hasBody Try.prog 146 := ⟨Try.f146, _, Try.func146, rfl, by decide +kernel⟩
instance ihb146 : HbF Try.prog 146 := ⟨hb146⟩
theorem hb147 : hasBody Try.prog 147 := ⟨Try.f147, _, Try.func147, rfl, by decide +kernel⟩
instance ihb147 : HbF Try.prog 147 := ⟨hb147⟩
theorem hb148 : hasBody Try.prog 148 := ⟨Try.f148, _, Try.func148, rfl, by decide +kernel⟩
instance ihb148 : HbF Try.prog 148 := ⟨hb148⟩
theorem hb149 : hasBody Try.prog 149 := ⟨Try.f149, _, Try.func149, rfl, by decide +kernel⟩
instance ihb149 : HbF Try.prog 149 := ⟨hb149⟩
end Go.Proofs
