/- Facts about the types and functions of this seat, for the abstract machine (written by gentypes.py). -/
import Derived.Test.YtmhnmookgbmmbaaGreatMe
import Derived.Test.YtmhnmookgbmmbaaGreatProg
import Derived.KernelRfl
set_option maxRecDepth 8000
namespace Go.Proofs
open Go.AM
theorem mixed : Tryz.prog.follows .mixedOrders = true := by kernel_rfl
@[go_sem] theorem ty1 : tyv Tryz.prog 1 = some (false, 1) := by kernel_rfl
instance ity1 : TyF Tryz.prog 1 false 1 := ⟨ty1⟩
@[go_sem] theorem sl1 : slv Tryz.prog 1 = none := by kernel_rfl
instance isl1 : SlN Tryz.prog 1 := ⟨sl1⟩
@[go_sem] theorem zv1 : zv Tryz.prog 1 = some (.sc .nilFunc) := by kernel_rfl
instance izv1 : ZvF Tryz.prog 1 (.sc .nilFunc) := ⟨zv1⟩
@[go_sem] theorem zo1 : zok Tryz.prog 1 1 := by simp only [zok, zv1]; rfl
instance izo1 : ZoF Tryz.prog 1 1 := ⟨zo1⟩
@[go_sem] theorem ty2 : tyv Tryz.prog 2 = some (false, 1) := by kernel_rfl
instance ity2 : TyF Tryz.prog 2 false 1 := ⟨ty2⟩
@[go_sem] theorem un2 : Tryz.prog.underlying 2 = some (.int .i64) := by kernel_rfl
instance iun2 : UnF Tryz.prog 2 (.int .i64) := ⟨un2⟩
@[go_sem] theorem sl2 : slv Tryz.prog 2 = none := by kernel_rfl
instance isl2 : SlN Tryz.prog 2 := ⟨sl2⟩
@[go_sem] theorem zv2 : zv Tryz.prog 2 = some (.sc (.int .i64 0)) := by kernel_rfl
instance izv2 : ZvF Tryz.prog 2 (.sc (.int .i64 0)) := ⟨zv2⟩
@[go_sem] theorem zo2 : zok Tryz.prog 2 1 := by simp only [zok, zv2]; rfl
instance izo2 : ZoF Tryz.prog 2 1 := ⟨zo2⟩
@[go_sem] theorem ty3 : tyv Tryz.prog 3 = some (false, 1) := by kernel_rfl
instance ity3 : TyF Tryz.prog 3 false 1 := ⟨ty3⟩
@[go_sem] theorem un3 : Tryz.prog.underlying 3 = some (.int .i64) := by kernel_rfl
instance iun3 : UnF Tryz.prog 3 (.int .i64) := ⟨un3⟩
@[go_sem] theorem sl3 : slv Tryz.prog 3 = none := by kernel_rfl
instance isl3 : SlN Tryz.prog 3 := ⟨sl3⟩
@[go_sem] theorem zv3 : zv Tryz.prog 3 = some (.sc (.int .i64 0)) := by kernel_rfl
instance izv3 : ZvF Tryz.prog 3 (.sc (.int .i64 0)) := ⟨zv3⟩
@[go_sem] theorem zo3 : zok Tryz.prog 3 1 := by simp only [zok, zv3]; rfl
instance izo3 : ZoF Tryz.prog 3 1 := ⟨zo3⟩
@[go_sem] theorem ty4 : tyv Tryz.prog 4 = some (false, 1) := by kernel_rfl
instance ity4 : TyF Tryz.prog 4 false 1 := ⟨ty4⟩
@[go_sem] theorem un4 : Tryz.prog.underlying 4 = some .bool := by kernel_rfl
instance iun4 : UnF Tryz.prog 4 .bool := ⟨un4⟩
@[go_sem] theorem sl4 : slv Tryz.prog 4 = none := by kernel_rfl
instance isl4 : SlN Tryz.prog 4 := ⟨sl4⟩
@[go_sem] theorem zv4 : zv Tryz.prog 4 = some (.sc (.bool false)) := by kernel_rfl
instance izv4 : ZvF Tryz.prog 4 (.sc (.bool false)) := ⟨zv4⟩
@[go_sem] theorem zo4 : zok Tryz.prog 4 1 := by simp only [zok, zv4]; rfl
instance izo4 : ZoF Tryz.prog 4 1 := ⟨zo4⟩
@[go_sem] theorem ty5 : tyv Tryz.prog 5 = some (false, 1) := by kernel_rfl
instance ity5 : TyF Tryz.prog 5 false 1 := ⟨ty5⟩
@[go_sem] theorem un5 : Tryz.prog.underlying 5 = some (.int .u8) := by kernel_rfl
instance iun5 : UnF Tryz.prog 5 (.int .u8) := ⟨un5⟩
@[go_sem] theorem sl5 : slv Tryz.prog 5 = none := by kernel_rfl
instance isl5 : SlN Tryz.prog 5 := ⟨sl5⟩
@[go_sem] theorem zv5 : zv Tryz.prog 5 = some (.sc (.int .u8 0)) := by kernel_rfl
instance izv5 : ZvF Tryz.prog 5 (.sc (.int .u8 0)) := ⟨zv5⟩
@[go_sem] theorem zo5 : zok Tryz.prog 5 1 := by simp only [zok, zv5]; rfl
instance izo5 : ZoF Tryz.prog 5 1 := ⟨zo5⟩
@[go_sem] theorem ty7 : tyv Tryz.prog 7 = some (true, 4) := by kernel_rfl
instance ity7 : TyF Tryz.prog 7 true 4 := ⟨ty7⟩
@[go_sem] theorem sl7 : slv Tryz.prog 7 = none := by kernel_rfl
instance isl7 : SlN Tryz.prog 7 := ⟨sl7⟩
@[go_sem] theorem fl7_0 : fldv Tryz.prog 7 0 = some (0, false, 1) := by kernel_rfl
instance ifl7_0 : FlF Tryz.prog 7 0 0 false 1 := ⟨fl7_0⟩
@[go_sem] theorem fl7_1 : fldv Tryz.prog 7 1 = some (1, false, 1) := by kernel_rfl
instance ifl7_1 : FlF Tryz.prog 7 1 1 false 1 := ⟨fl7_1⟩
@[go_sem] theorem fl7_2 : fldv Tryz.prog 7 2 = some (2, false, 1) := by kernel_rfl
instance ifl7_2 : FlF Tryz.prog 7 2 2 false 1 := ⟨fl7_2⟩
@[go_sem] theorem fl7_3 : fldv Tryz.prog 7 3 = some (3, false, 1) := by kernel_rfl
instance ifl7_3 : FlF Tryz.prog 7 3 3 false 1 := ⟨fl7_3⟩
@[go_sem] theorem pl7 : places Tryz.prog 7 = some [(0, 1), (1, 1), (2, 1), (3, 1)] := by kernel_rfl
instance ipl7 : PlF Tryz.prog 7 [(0, 1), (1, 1), (2, 1), (3, 1)] := ⟨pl7⟩
@[go_sem] theorem zv7 : zv Tryz.prog 7 = some (.agg [.sc (.int .i64 0), .sc (.int .i64 0), .sc (.bool false), .sc (.int .u8 0)]) := by kernel_rfl
instance izv7 : ZvF Tryz.prog 7 (.agg [.sc (.int .i64 0), .sc (.int .i64 0), .sc (.bool false), .sc (.int .u8 0)]) := ⟨zv7⟩
@[go_sem] theorem zo7 : zok Tryz.prog 7 4 := by simp only [zok, zv7]; rfl
instance izo7 : ZoF Tryz.prog 7 4 := ⟨zo7⟩
@[go_sem] theorem ty9 : tyv Tryz.prog 9 = some (false, 1) := by kernel_rfl
instance ity9 : TyF Tryz.prog 9 false 1 := ⟨ty9⟩
@[go_sem] theorem un9 : Tryz.prog.underlying 9 = some .string := by kernel_rfl
instance iun9 : UnF Tryz.prog 9 .string := ⟨un9⟩
@[go_sem] theorem sl9 : slv Tryz.prog 9 = none := by kernel_rfl
instance isl9 : SlN Tryz.prog 9 := ⟨sl9⟩
@[go_sem] theorem ar9 : arv Tryz.prog 9 = none := by kernel_rfl
@[go_sem] theorem zv9 : zv Tryz.prog 9 = some (.sc (.string ByteArray.empty)) := by kernel_rfl
instance izv9 : ZvF Tryz.prog 9 (.sc (.string ByteArray.empty)) := ⟨zv9⟩
@[go_sem] theorem zo9 : zok Tryz.prog 9 1 := by simp only [zok, zv9]; rfl
instance izo9 : ZoF Tryz.prog 9 1 := ⟨zo9⟩
@[go_sem] theorem ty12 : tyv Tryz.prog 12 = some (false, 1) := by kernel_rfl
instance ity12 : TyF Tryz.prog 12 false 1 := ⟨ty12⟩
@[go_sem] theorem un12 : Tryz.prog.underlying 12 = some (.int .u64) := by kernel_rfl
instance iun12 : UnF Tryz.prog 12 (.int .u64) := ⟨un12⟩
@[go_sem] theorem sl12 : slv Tryz.prog 12 = none := by kernel_rfl
instance isl12 : SlN Tryz.prog 12 := ⟨sl12⟩
@[go_sem] theorem zv12 : zv Tryz.prog 12 = some (.sc (.int .u64 0)) := by kernel_rfl
instance izv12 : ZvF Tryz.prog 12 (.sc (.int .u64 0)) := ⟨zv12⟩
@[go_sem] theorem zo12 : zok Tryz.prog 12 1 := by simp only [zok, zv12]; rfl
instance izo12 : ZoF Tryz.prog 12 1 := ⟨zo12⟩
@[go_sem] theorem ty13 : tyv Tryz.prog 13 = some (true, 2) := by kernel_rfl
instance ity13 : TyF Tryz.prog 13 true 2 := ⟨ty13⟩
@[go_sem] theorem sl13 : slv Tryz.prog 13 = none := by kernel_rfl
instance isl13 : SlN Tryz.prog 13 := ⟨sl13⟩
@[go_sem] theorem fl13_0 : fldv Tryz.prog 13 0 = some (0, false, 1) := by kernel_rfl
instance ifl13_0 : FlF Tryz.prog 13 0 0 false 1 := ⟨fl13_0⟩
@[go_sem] theorem fl13_1 : fldv Tryz.prog 13 1 = some (1, false, 1) := by kernel_rfl
instance ifl13_1 : FlF Tryz.prog 13 1 1 false 1 := ⟨fl13_1⟩
@[go_sem] theorem pl13 : places Tryz.prog 13 = some [(0, 1), (1, 1)] := by kernel_rfl
instance ipl13 : PlF Tryz.prog 13 [(0, 1), (1, 1)] := ⟨pl13⟩
@[go_sem] theorem zv13 : zv Tryz.prog 13 = some (.agg [.sc (.string ByteArray.empty), .sc (.int .u64 0)]) := by kernel_rfl
instance izv13 : ZvF Tryz.prog 13 (.agg [.sc (.string ByteArray.empty), .sc (.int .u64 0)]) := ⟨zv13⟩
@[go_sem] theorem zo13 : zok Tryz.prog 13 2 := by simp only [zok, zv13]; rfl
instance izo13 : ZoF Tryz.prog 13 2 := ⟨zo13⟩
@[go_sem] theorem ty15 : tyv Tryz.prog 15 = some (false, 1) := by kernel_rfl
instance ity15 : TyF Tryz.prog 15 false 1 := ⟨ty15⟩
@[go_sem] theorem sl15 : slv Tryz.prog 15 = none := by kernel_rfl
instance isl15 : SlN Tryz.prog 15 := ⟨sl15⟩
@[go_sem] theorem zv15 : zv Tryz.prog 15 = some (.sc (.pointer none)) := by kernel_rfl
instance izv15 : ZvF Tryz.prog 15 (.sc (.pointer none)) := ⟨zv15⟩
@[go_sem] theorem zo15 : zok Tryz.prog 15 1 := by simp only [zok, zv15]; rfl
instance izo15 : ZoF Tryz.prog 15 1 := ⟨zo15⟩
@[go_sem] theorem ty16 : tyv Tryz.prog 16 = some (false, 1) := by kernel_rfl
instance ity16 : TyF Tryz.prog 16 false 1 := ⟨ty16⟩
@[go_sem] theorem sl16 : slv Tryz.prog 16 = none := by kernel_rfl
instance isl16 : SlN Tryz.prog 16 := ⟨sl16⟩
@[go_sem] theorem zv16 : zv Tryz.prog 16 = some (.sc (.pointer none)) := by kernel_rfl
instance izv16 : ZvF Tryz.prog 16 (.sc (.pointer none)) := ⟨zv16⟩
@[go_sem] theorem zo16 : zok Tryz.prog 16 1 := by simp only [zok, zv16]; rfl
instance izo16 : ZoF Tryz.prog 16 1 := ⟨zo16⟩
@[go_sem] theorem ty17 : tyv Tryz.prog 17 = some (false, 1) := by kernel_rfl
instance ity17 : TyF Tryz.prog 17 false 1 := ⟨ty17⟩
@[go_sem] theorem sl17 : slv Tryz.prog 17 = none := by kernel_rfl
instance isl17 : SlN Tryz.prog 17 := ⟨sl17⟩
@[go_sem] theorem zv17 : zv Tryz.prog 17 = some (.sc (.pointer none)) := by kernel_rfl
instance izv17 : ZvF Tryz.prog 17 (.sc (.pointer none)) := ⟨zv17⟩
@[go_sem] theorem zo17 : zok Tryz.prog 17 1 := by simp only [zok, zv17]; rfl
instance izo17 : ZoF Tryz.prog 17 1 := ⟨zo17⟩
@[go_sem] theorem ty18 : tyv Tryz.prog 18 = some (true, 1) := by kernel_rfl
instance ity18 : TyF Tryz.prog 18 true 1 := ⟨ty18⟩
@[go_sem] theorem sl18 : slv Tryz.prog 18 = none := by kernel_rfl
instance isl18 : SlN Tryz.prog 18 := ⟨sl18⟩
@[go_sem] theorem fl18_0 : fldv Tryz.prog 18 0 = some (0, false, 1) := by kernel_rfl
instance ifl18_0 : FlF Tryz.prog 18 0 0 false 1 := ⟨fl18_0⟩
@[go_sem] theorem pl18 : places Tryz.prog 18 = some [(0, 1)] := by kernel_rfl
instance ipl18 : PlF Tryz.prog 18 [(0, 1)] := ⟨pl18⟩
@[go_sem] theorem zv18 : zv Tryz.prog 18 = some (.agg [.sc (.pointer none)]) := by kernel_rfl
instance izv18 : ZvF Tryz.prog 18 (.agg [.sc (.pointer none)]) := ⟨zv18⟩
@[go_sem] theorem zo18 : zok Tryz.prog 18 1 := by simp only [zok, zv18]; rfl
instance izo18 : ZoF Tryz.prog 18 1 := ⟨zo18⟩
@[go_sem] theorem ty21 : tyv Tryz.prog 21 = some (false, 1) := by kernel_rfl
instance ity21 : TyF Tryz.prog 21 false 1 := ⟨ty21⟩
@[go_sem] theorem un21 : Tryz.prog.underlying 21 = some (.int .i32) := by kernel_rfl
instance iun21 : UnF Tryz.prog 21 (.int .i32) := ⟨un21⟩
@[go_sem] theorem sl21 : slv Tryz.prog 21 = none := by kernel_rfl
instance isl21 : SlN Tryz.prog 21 := ⟨sl21⟩
@[go_sem] theorem zv21 : zv Tryz.prog 21 = some (.sc (.int .i32 0)) := by kernel_rfl
instance izv21 : ZvF Tryz.prog 21 (.sc (.int .i32 0)) := ⟨zv21⟩
@[go_sem] theorem zo21 : zok Tryz.prog 21 1 := by simp only [zok, zv21]; rfl
instance izo21 : ZoF Tryz.prog 21 1 := ⟨zo21⟩
@[go_sem] theorem ty22 : tyv Tryz.prog 22 = some (false, 1) := by kernel_rfl
instance ity22 : TyF Tryz.prog 22 false 1 := ⟨ty22⟩
@[go_sem] theorem sl22 : slv Tryz.prog 22 = some (63, 3, 40) := by kernel_rfl
instance isl22 : SlF Tryz.prog 22 63 3 40 := ⟨sl22⟩
@[go_sem] theorem zv22 : zv Tryz.prog 22 = some (.sc (.slice none 0 0)) := by kernel_rfl
instance izv22 : ZvF Tryz.prog 22 (.sc (.slice none 0 0)) := ⟨zv22⟩
@[go_sem] theorem zo22 : zok Tryz.prog 22 1 := by simp only [zok, zv22]; rfl
instance izo22 : ZoF Tryz.prog 22 1 := ⟨zo22⟩
@[go_sem] theorem ty23 : tyv Tryz.prog 23 = some (false, 1) := by kernel_rfl
instance ity23 : TyF Tryz.prog 23 false 1 := ⟨ty23⟩
@[go_sem] theorem sl23 : slv Tryz.prog 23 = some (63, 3, 40) := by kernel_rfl
instance isl23 : SlF Tryz.prog 23 63 3 40 := ⟨sl23⟩
@[go_sem] theorem zv23 : zv Tryz.prog 23 = some (.sc (.slice none 0 0)) := by kernel_rfl
instance izv23 : ZvF Tryz.prog 23 (.sc (.slice none 0 0)) := ⟨zv23⟩
@[go_sem] theorem zo23 : zok Tryz.prog 23 1 := by simp only [zok, zv23]; rfl
instance izo23 : ZoF Tryz.prog 23 1 := ⟨zo23⟩
@[go_sem] theorem ty24 : tyv Tryz.prog 24 = some (false, 1) := by kernel_rfl
instance ity24 : TyF Tryz.prog 24 false 1 := ⟨ty24⟩
@[go_sem] theorem sl24 : slv Tryz.prog 24 = none := by kernel_rfl
instance isl24 : SlN Tryz.prog 24 := ⟨sl24⟩
@[go_sem] theorem zv24 : zv Tryz.prog 24 = some (.sc .nilFunc) := by kernel_rfl
instance izv24 : ZvF Tryz.prog 24 (.sc .nilFunc) := ⟨zv24⟩
@[go_sem] theorem zo24 : zok Tryz.prog 24 1 := by simp only [zok, zv24]; rfl
instance izo24 : ZoF Tryz.prog 24 1 := ⟨zo24⟩
@[go_sem] theorem ty25 : tyv Tryz.prog 25 = some (false, 1) := by kernel_rfl
instance ity25 : TyF Tryz.prog 25 false 1 := ⟨ty25⟩
@[go_sem] theorem sl25 : slv Tryz.prog 25 = some (23, 1, 24) := by kernel_rfl
instance isl25 : SlF Tryz.prog 25 23 1 24 := ⟨sl25⟩
@[go_sem] theorem zv25 : zv Tryz.prog 25 = some (.sc (.slice none 0 0)) := by kernel_rfl
instance izv25 : ZvF Tryz.prog 25 (.sc (.slice none 0 0)) := ⟨zv25⟩
@[go_sem] theorem zo25 : zok Tryz.prog 25 1 := by simp only [zok, zv25]; rfl
instance izo25 : ZoF Tryz.prog 25 1 := ⟨zo25⟩
@[go_sem] theorem ty26 : tyv Tryz.prog 26 = some (false, 1) := by kernel_rfl
instance ity26 : TyF Tryz.prog 26 false 1 := ⟨ty26⟩
@[go_sem] theorem sl26 : slv Tryz.prog 26 = none := by kernel_rfl
instance isl26 : SlN Tryz.prog 26 := ⟨sl26⟩
@[go_sem] theorem zv26 : zv Tryz.prog 26 = some (.sc .nilFunc) := by kernel_rfl
instance izv26 : ZvF Tryz.prog 26 (.sc .nilFunc) := ⟨zv26⟩
@[go_sem] theorem zo26 : zok Tryz.prog 26 1 := by simp only [zok, zv26]; rfl
instance izo26 : ZoF Tryz.prog 26 1 := ⟨zo26⟩
@[go_sem] theorem ty27 : tyv Tryz.prog 27 = some (false, 1) := by kernel_rfl
instance ity27 : TyF Tryz.prog 27 false 1 := ⟨ty27⟩
@[go_sem] theorem sl27 : slv Tryz.prog 27 = none := by kernel_rfl
instance isl27 : SlN Tryz.prog 27 := ⟨sl27⟩
@[go_sem] theorem zv27 : zv Tryz.prog 27 = some (.sc .nilFunc) := by kernel_rfl
instance izv27 : ZvF Tryz.prog 27 (.sc .nilFunc) := ⟨zv27⟩
@[go_sem] theorem zo27 : zok Tryz.prog 27 1 := by simp only [zok, zv27]; rfl
instance izo27 : ZoF Tryz.prog 27 1 := ⟨zo27⟩
@[go_sem] theorem ty28 : tyv Tryz.prog 28 = some (false, 1) := by kernel_rfl
instance ity28 : TyF Tryz.prog 28 false 1 := ⟨ty28⟩
@[go_sem] theorem sl28 : slv Tryz.prog 28 = none := by kernel_rfl
instance isl28 : SlN Tryz.prog 28 := ⟨sl28⟩
@[go_sem] theorem zv28 : zv Tryz.prog 28 = some (.sc .nilFunc) := by kernel_rfl
instance izv28 : ZvF Tryz.prog 28 (.sc .nilFunc) := ⟨zv28⟩
@[go_sem] theorem zo28 : zok Tryz.prog 28 1 := by simp only [zok, zv28]; rfl
instance izo28 : ZoF Tryz.prog 28 1 := ⟨zo28⟩
@[go_sem] theorem ty29 : tyv Tryz.prog 29 = some (false, 1) := by kernel_rfl
instance ity29 : TyF Tryz.prog 29 false 1 := ⟨ty29⟩
@[go_sem] theorem sl29 : slv Tryz.prog 29 = none := by kernel_rfl
instance isl29 : SlN Tryz.prog 29 := ⟨sl29⟩
@[go_sem] theorem zv29 : zv Tryz.prog 29 = some (.sc .nilFunc) := by kernel_rfl
instance izv29 : ZvF Tryz.prog 29 (.sc .nilFunc) := ⟨zv29⟩
@[go_sem] theorem zo29 : zok Tryz.prog 29 1 := by simp only [zok, zv29]; rfl
instance izo29 : ZoF Tryz.prog 29 1 := ⟨zo29⟩
@[go_sem] theorem ty30 : tyv Tryz.prog 30 = some (false, 1) := by kernel_rfl
instance ity30 : TyF Tryz.prog 30 false 1 := ⟨ty30⟩
@[go_sem] theorem sl30 : slv Tryz.prog 30 = none := by kernel_rfl
instance isl30 : SlN Tryz.prog 30 := ⟨sl30⟩
@[go_sem] theorem zv30 : zv Tryz.prog 30 = some (.sc .nilFunc) := by kernel_rfl
instance izv30 : ZvF Tryz.prog 30 (.sc .nilFunc) := ⟨zv30⟩
@[go_sem] theorem zo30 : zok Tryz.prog 30 1 := by simp only [zok, zv30]; rfl
instance izo30 : ZoF Tryz.prog 30 1 := ⟨zo30⟩
@[go_sem] theorem ty31 : tyv Tryz.prog 31 = some (false, 1) := by kernel_rfl
instance ity31 : TyF Tryz.prog 31 false 1 := ⟨ty31⟩
@[go_sem] theorem sl31 : slv Tryz.prog 31 = some (56, 2, 16) := by kernel_rfl
instance isl31 : SlF Tryz.prog 31 56 2 16 := ⟨sl31⟩
@[go_sem] theorem zv31 : zv Tryz.prog 31 = some (.sc (.slice none 0 0)) := by kernel_rfl
instance izv31 : ZvF Tryz.prog 31 (.sc (.slice none 0 0)) := ⟨zv31⟩
@[go_sem] theorem zo31 : zok Tryz.prog 31 1 := by simp only [zok, zv31]; rfl
instance izo31 : ZoF Tryz.prog 31 1 := ⟨zo31⟩
@[go_sem] theorem ty32 : tyv Tryz.prog 32 = some (true, 3) := by kernel_rfl
instance ity32 : TyF Tryz.prog 32 true 3 := ⟨ty32⟩
@[go_sem] theorem sl32 : slv Tryz.prog 32 = none := by kernel_rfl
instance isl32 : SlN Tryz.prog 32 := ⟨sl32⟩
@[go_sem] theorem fl32_0 : fldv Tryz.prog 32 0 = some (0, false, 1) := by kernel_rfl
instance ifl32_0 : FlF Tryz.prog 32 0 0 false 1 := ⟨fl32_0⟩
@[go_sem] theorem fl32_1 : fldv Tryz.prog 32 1 = some (1, false, 1) := by kernel_rfl
instance ifl32_1 : FlF Tryz.prog 32 1 1 false 1 := ⟨fl32_1⟩
@[go_sem] theorem fl32_2 : fldv Tryz.prog 32 2 = some (2, false, 1) := by kernel_rfl
instance ifl32_2 : FlF Tryz.prog 32 2 2 false 1 := ⟨fl32_2⟩
@[go_sem] theorem pl32 : places Tryz.prog 32 = some [(0, 1), (1, 1), (2, 1)] := by kernel_rfl
instance ipl32 : PlF Tryz.prog 32 [(0, 1), (1, 1), (2, 1)] := ⟨pl32⟩
theorem eq32 : eqlT Tryz.prog 32 [.sc (.int .i64 0), .sc (.int .i64 0), .sc (.int .i64 0)] := eqlT_of (by kernel_rfl) ty32 (by kernel_rfl)
instance ieq32 : EqF Tryz.prog 32 ([.sc (.int .i64 0), .sc (.int .i64 0), .sc (.int .i64 0)]) := ⟨eq32⟩
@[go_sem] theorem zv32 : zv Tryz.prog 32 = some (.agg [.sc (.int .i64 0), .sc (.int .i64 0), .sc (.int .i64 0)]) := by kernel_rfl
instance izv32 : ZvF Tryz.prog 32 (.agg [.sc (.int .i64 0), .sc (.int .i64 0), .sc (.int .i64 0)]) := ⟨zv32⟩
@[go_sem] theorem zo32 : zok Tryz.prog 32 3 := by simp only [zok, zv32]; rfl
instance izo32 : ZoF Tryz.prog 32 3 := ⟨zo32⟩
@[go_sem] theorem ty33 : tyv Tryz.prog 33 = some (true, 3) := by kernel_rfl
instance ity33 : TyF Tryz.prog 33 true 3 := ⟨ty33⟩
@[go_sem] theorem sl33 : slv Tryz.prog 33 = none := by kernel_rfl
instance isl33 : SlN Tryz.prog 33 := ⟨sl33⟩
@[go_sem] theorem fl33_0 : fldv Tryz.prog 33 0 = some (0, false, 1) := by kernel_rfl
instance ifl33_0 : FlF Tryz.prog 33 0 0 false 1 := ⟨fl33_0⟩
@[go_sem] theorem fl33_1 : fldv Tryz.prog 33 1 = some (1, false, 1) := by kernel_rfl
instance ifl33_1 : FlF Tryz.prog 33 1 1 false 1 := ⟨fl33_1⟩
@[go_sem] theorem fl33_2 : fldv Tryz.prog 33 2 = some (2, false, 1) := by kernel_rfl
instance ifl33_2 : FlF Tryz.prog 33 2 2 false 1 := ⟨fl33_2⟩
@[go_sem] theorem pl33 : places Tryz.prog 33 = some [(0, 1), (1, 1), (2, 1)] := by kernel_rfl
instance ipl33 : PlF Tryz.prog 33 [(0, 1), (1, 1), (2, 1)] := ⟨pl33⟩
theorem eq33 : eqlT Tryz.prog 33 [.sc (.int .i64 0), .sc (.int .i64 0), .sc (.int .i64 0)] := eqlT_of (by kernel_rfl) ty33 (by kernel_rfl)
instance ieq33 : EqF Tryz.prog 33 ([.sc (.int .i64 0), .sc (.int .i64 0), .sc (.int .i64 0)]) := ⟨eq33⟩
@[go_sem] theorem zv33 : zv Tryz.prog 33 = some (.agg [.sc (.int .i64 0), .sc (.int .i64 0), .sc (.int .i64 0)]) := by kernel_rfl
instance izv33 : ZvF Tryz.prog 33 (.agg [.sc (.int .i64 0), .sc (.int .i64 0), .sc (.int .i64 0)]) := ⟨zv33⟩
@[go_sem] theorem zo33 : zok Tryz.prog 33 3 := by simp only [zok, zv33]; rfl
instance izo33 : ZoF Tryz.prog 33 3 := ⟨zo33⟩
@[go_sem] theorem ty34 : tyv Tryz.prog 34 = some (true, 4) := by kernel_rfl
instance ity34 : TyF Tryz.prog 34 true 4 := ⟨ty34⟩
@[go_sem] theorem sl34 : slv Tryz.prog 34 = none := by kernel_rfl
instance isl34 : SlN Tryz.prog 34 := ⟨sl34⟩
@[go_sem] theorem fl34_0 : fldv Tryz.prog 34 0 = some (0, false, 1) := by kernel_rfl
instance ifl34_0 : FlF Tryz.prog 34 0 0 false 1 := ⟨fl34_0⟩
@[go_sem] theorem fl34_1 : fldv Tryz.prog 34 1 = some (1, true, 3) := by kernel_rfl
instance ifl34_1 : FlF Tryz.prog 34 1 1 true 3 := ⟨fl34_1⟩
@[go_sem] theorem pl34 : places Tryz.prog 34 = some [(0, 1), (1, 3)] := by kernel_rfl
instance ipl34 : PlF Tryz.prog 34 [(0, 1), (1, 3)] := ⟨pl34⟩
@[go_sem] theorem zv34 : zv Tryz.prog 34 = some (.agg [.sc (.slice none 0 0), .sc (.int .i64 0), .sc (.int .i64 0), .sc (.int .i64 0)]) := by kernel_rfl
instance izv34 : ZvF Tryz.prog 34 (.agg [.sc (.slice none 0 0), .sc (.int .i64 0), .sc (.int .i64 0), .sc (.int .i64 0)]) := ⟨zv34⟩
@[go_sem] theorem zo34 : zok Tryz.prog 34 4 := by simp only [zok, zv34]; rfl
instance izo34 : ZoF Tryz.prog 34 4 := ⟨zo34⟩
@[go_sem] theorem ty35 : tyv Tryz.prog 35 = some (true, 4) := by kernel_rfl
instance ity35 : TyF Tryz.prog 35 true 4 := ⟨ty35⟩
@[go_sem] theorem sl35 : slv Tryz.prog 35 = none := by kernel_rfl
instance isl35 : SlN Tryz.prog 35 := ⟨sl35⟩
@[go_sem] theorem fl35_0 : fldv Tryz.prog 35 0 = some (0, false, 1) := by kernel_rfl
instance ifl35_0 : FlF Tryz.prog 35 0 0 false 1 := ⟨fl35_0⟩
@[go_sem] theorem fl35_1 : fldv Tryz.prog 35 1 = some (1, true, 3) := by kernel_rfl
instance ifl35_1 : FlF Tryz.prog 35 1 1 true 3 := ⟨fl35_1⟩
@[go_sem] theorem pl35 : places Tryz.prog 35 = some [(0, 1), (1, 3)] := by kernel_rfl
instance ipl35 : PlF Tryz.prog 35 [(0, 1), (1, 3)] := ⟨pl35⟩
@[go_sem] theorem zv35 : zv Tryz.prog 35 = some (.agg [.sc (.slice none 0 0), .sc (.int .i64 0), .sc (.int .i64 0), .sc (.int .i64 0)]) := by kernel_rfl
instance izv35 : ZvF Tryz.prog 35 (.agg [.sc (.slice none 0 0), .sc (.int .i64 0), .sc (.int .i64 0), .sc (.int .i64 0)]) := ⟨zv35⟩
@[go_sem] theorem zo35 : zok Tryz.prog 35 4 := by simp only [zok, zv35]; rfl
instance izo35 : ZoF Tryz.prog 35 4 := ⟨zo35⟩
@[go_sem] theorem ty36 : tyv Tryz.prog 36 = some (false, 1) := by kernel_rfl
instance ity36 : TyF Tryz.prog 36 false 1 := ⟨ty36⟩
@[go_sem] theorem un36 : Tryz.prog.underlying 36 = some (.int .i64) := by kernel_rfl
instance iun36 : UnF Tryz.prog 36 (.int .i64) := ⟨un36⟩
@[go_sem] theorem sl36 : slv Tryz.prog 36 = none := by kernel_rfl
instance isl36 : SlN Tryz.prog 36 := ⟨sl36⟩
@[go_sem] theorem zv36 : zv Tryz.prog 36 = some (.sc (.int .i64 0)) := by kernel_rfl
instance izv36 : ZvF Tryz.prog 36 (.sc (.int .i64 0)) := ⟨zv36⟩
@[go_sem] theorem zo36 : zok Tryz.prog 36 1 := by simp only [zok, zv36]; rfl
instance izo36 : ZoF Tryz.prog 36 1 := ⟨zo36⟩
@[go_sem] theorem ty37 : tyv Tryz.prog 37 = some (false, 1) := by kernel_rfl
instance ity37 : TyF Tryz.prog 37 false 1 := ⟨ty37⟩
@[go_sem] theorem sl37 : slv Tryz.prog 37 = none := by kernel_rfl
instance isl37 : SlN Tryz.prog 37 := ⟨sl37⟩
@[go_sem] theorem zv37 : zv Tryz.prog 37 = some (.sc .nilFunc) := by kernel_rfl
instance izv37 : ZvF Tryz.prog 37 (.sc .nilFunc) := ⟨zv37⟩
@[go_sem] theorem zo37 : zok Tryz.prog 37 1 := by simp only [zok, zv37]; rfl
instance izo37 : ZoF Tryz.prog 37 1 := ⟨zo37⟩
@[go_sem] theorem ty38 : tyv Tryz.prog 38 = some (false, 1) := by kernel_rfl
instance ity38 : TyF Tryz.prog 38 false 1 := ⟨ty38⟩
@[go_sem] theorem sl38 : slv Tryz.prog 38 = some (41, 4, 48) := by kernel_rfl
instance isl38 : SlF Tryz.prog 38 41 4 48 := ⟨sl38⟩
@[go_sem] theorem zv38 : zv Tryz.prog 38 = some (.sc (.slice none 0 0)) := by kernel_rfl
instance izv38 : ZvF Tryz.prog 38 (.sc (.slice none 0 0)) := ⟨zv38⟩
@[go_sem] theorem zo38 : zok Tryz.prog 38 1 := by simp only [zok, zv38]; rfl
instance izo38 : ZoF Tryz.prog 38 1 := ⟨zo38⟩
@[go_sem] theorem ty39 : tyv Tryz.prog 39 = some (false, 1) := by kernel_rfl
instance ity39 : TyF Tryz.prog 39 false 1 := ⟨ty39⟩
@[go_sem] theorem sl39 : slv Tryz.prog 39 = none := by kernel_rfl
instance isl39 : SlN Tryz.prog 39 := ⟨sl39⟩
@[go_sem] theorem zv39 : zv Tryz.prog 39 = some (.sc .nilFunc) := by kernel_rfl
instance izv39 : ZvF Tryz.prog 39 (.sc .nilFunc) := ⟨zv39⟩
@[go_sem] theorem zo39 : zok Tryz.prog 39 1 := by simp only [zok, zv39]; rfl
instance izo39 : ZoF Tryz.prog 39 1 := ⟨zo39⟩
@[go_sem] theorem ty40 : tyv Tryz.prog 40 = some (false, 1) := by kernel_rfl
instance ity40 : TyF Tryz.prog 40 false 1 := ⟨ty40⟩
@[go_sem] theorem sl40 : slv Tryz.prog 40 = none := by kernel_rfl
instance isl40 : SlN Tryz.prog 40 := ⟨sl40⟩
@[go_sem] theorem zv40 : zv Tryz.prog 40 = some (.sc .nilFunc) := by kernel_rfl
instance izv40 : ZvF Tryz.prog 40 (.sc .nilFunc) := ⟨zv40⟩
@[go_sem] theorem zo40 : zok Tryz.prog 40 1 := by simp only [zok, zv40]; rfl
instance izo40 : ZoF Tryz.prog 40 1 := ⟨zo40⟩
@[go_sem] theorem ty41 : tyv Tryz.prog 41 = some (true, 4) := by kernel_rfl
instance ity41 : TyF Tryz.prog 41 true 4 := ⟨ty41⟩
@[go_sem] theorem sl41 : slv Tryz.prog 41 = none := by kernel_rfl
instance isl41 : SlN Tryz.prog 41 := ⟨sl41⟩
@[go_sem] theorem fl41_0 : fldv Tryz.prog 41 0 = some (0, false, 1) := by kernel_rfl
instance ifl41_0 : FlF Tryz.prog 41 0 0 false 1 := ⟨fl41_0⟩
@[go_sem] theorem fl41_1 : fldv Tryz.prog 41 1 = some (1, true, 3) := by kernel_rfl
instance ifl41_1 : FlF Tryz.prog 41 1 1 true 3 := ⟨fl41_1⟩
@[go_sem] theorem pl41 : places Tryz.prog 41 = some [(0, 1), (1, 3)] := by kernel_rfl
instance ipl41 : PlF Tryz.prog 41 [(0, 1), (1, 3)] := ⟨pl41⟩
@[go_sem] theorem zv41 : zv Tryz.prog 41 = some (.agg [.sc (.slice none 0 0), .sc (.int .i64 0), .sc (.int .i64 0), .sc (.int .i64 0)]) := by kernel_rfl
instance izv41 : ZvF Tryz.prog 41 (.agg [.sc (.slice none 0 0), .sc (.int .i64 0), .sc (.int .i64 0), .sc (.int .i64 0)]) := ⟨zv41⟩
@[go_sem] theorem zo41 : zok Tryz.prog 41 4 := by simp only [zok, zv41]; rfl
instance izo41 : ZoF Tryz.prog 41 4 := ⟨zo41⟩
@[go_sem] theorem ty42 : tyv Tryz.prog 42 = some (false, 1) := by kernel_rfl
instance ity42 : TyF Tryz.prog 42 false 1 := ⟨ty42⟩
@[go_sem] theorem sl42 : slv Tryz.prog 42 = none := by kernel_rfl
instance isl42 : SlN Tryz.prog 42 := ⟨sl42⟩
@[go_sem] theorem zv42 : zv Tryz.prog 42 = some (.sc .nilFunc) := by kernel_rfl
instance izv42 : ZvF Tryz.prog 42 (.sc .nilFunc) := ⟨zv42⟩
@[go_sem] theorem zo42 : zok Tryz.prog 42 1 := by simp only [zok, zv42]; rfl
instance izo42 : ZoF Tryz.prog 42 1 := ⟨zo42⟩
@[go_sem] theorem ty43 : tyv Tryz.prog 43 = some (false, 1) := by kernel_rfl
instance ity43 : TyF Tryz.prog 43 false 1 := ⟨ty43⟩
@[go_sem] theorem sl43 : slv Tryz.prog 43 = none := by kernel_rfl
instance isl43 : SlN Tryz.prog 43 := ⟨sl43⟩
@[go_sem] theorem zv43 : zv Tryz.prog 43 = some (.sc .nilFunc) := by kernel_rfl
instance izv43 : ZvF Tryz.prog 43 (.sc .nilFunc) := ⟨zv43⟩
@[go_sem] theorem zo43 : zok Tryz.prog 43 1 := by simp only [zok, zv43]; rfl
instance izo43 : ZoF Tryz.prog 43 1 := ⟨zo43⟩
@[go_sem] theorem ty44 : tyv Tryz.prog 44 = some (false, 1) := by kernel_rfl
instance ity44 : TyF Tryz.prog 44 false 1 := ⟨ty44⟩
@[go_sem] theorem sl44 : slv Tryz.prog 44 = some (3, 1, 8) := by kernel_rfl
instance isl44 : SlF Tryz.prog 44 3 1 8 := ⟨sl44⟩
@[go_sem] theorem zv44 : zv Tryz.prog 44 = some (.sc (.slice none 0 0)) := by kernel_rfl
instance izv44 : ZvF Tryz.prog 44 (.sc (.slice none 0 0)) := ⟨zv44⟩
@[go_sem] theorem zo44 : zok Tryz.prog 44 1 := by simp only [zok, zv44]; rfl
instance izo44 : ZoF Tryz.prog 44 1 := ⟨zo44⟩
@[go_sem] theorem ty45 : tyv Tryz.prog 45 = some (false, 1) := by kernel_rfl
instance ity45 : TyF Tryz.prog 45 false 1 := ⟨ty45⟩
@[go_sem] theorem sl45 : slv Tryz.prog 45 = none := by kernel_rfl
instance isl45 : SlN Tryz.prog 45 := ⟨sl45⟩
@[go_sem] theorem zv45 : zv Tryz.prog 45 = some (.sc .nilFunc) := by kernel_rfl
instance izv45 : ZvF Tryz.prog 45 (.sc .nilFunc) := ⟨zv45⟩
@[go_sem] theorem zo45 : zok Tryz.prog 45 1 := by simp only [zok, zv45]; rfl
instance izo45 : ZoF Tryz.prog 45 1 := ⟨zo45⟩
@[go_sem] theorem ty46 : tyv Tryz.prog 46 = some (false, 1) := by kernel_rfl
instance ity46 : TyF Tryz.prog 46 false 1 := ⟨ty46⟩
@[go_sem] theorem sl46 : slv Tryz.prog 46 = none := by kernel_rfl
instance isl46 : SlN Tryz.prog 46 := ⟨sl46⟩
@[go_sem] theorem zv46 : zv Tryz.prog 46 = some (.sc .nilFunc) := by kernel_rfl
instance izv46 : ZvF Tryz.prog 46 (.sc .nilFunc) := ⟨zv46⟩
@[go_sem] theorem zo46 : zok Tryz.prog 46 1 := by simp only [zok, zv46]; rfl
instance izo46 : ZoF Tryz.prog 46 1 := ⟨zo46⟩
@[go_sem] theorem ty47 : tyv Tryz.prog 47 = some (false, 1) := by kernel_rfl
instance ity47 : TyF Tryz.prog 47 false 1 := ⟨ty47⟩
@[go_sem] theorem sl47 : slv Tryz.prog 47 = none := by kernel_rfl
instance isl47 : SlN Tryz.prog 47 := ⟨sl47⟩
@[go_sem] theorem zv47 : zv Tryz.prog 47 = some (.sc .nilFunc) := by kernel_rfl
instance izv47 : ZvF Tryz.prog 47 (.sc .nilFunc) := ⟨zv47⟩
@[go_sem] theorem zo47 : zok Tryz.prog 47 1 := by simp only [zok, zv47]; rfl
instance izo47 : ZoF Tryz.prog 47 1 := ⟨zo47⟩
@[go_sem] theorem ty48 : tyv Tryz.prog 48 = some (false, 1) := by kernel_rfl
instance ity48 : TyF Tryz.prog 48 false 1 := ⟨ty48⟩
@[go_sem] theorem sl48 : slv Tryz.prog 48 = none := by kernel_rfl
instance isl48 : SlN Tryz.prog 48 := ⟨sl48⟩
@[go_sem] theorem zv48 : zv Tryz.prog 48 = some (.sc .nilFunc) := by kernel_rfl
instance izv48 : ZvF Tryz.prog 48 (.sc .nilFunc) := ⟨zv48⟩
@[go_sem] theorem zo48 : zok Tryz.prog 48 1 := by simp only [zok, zv48]; rfl
instance izo48 : ZoF Tryz.prog 48 1 := ⟨zo48⟩
@[go_sem] theorem ty49 : tyv Tryz.prog 49 = some (false, 1) := by kernel_rfl
instance ity49 : TyF Tryz.prog 49 false 1 := ⟨ty49⟩
@[go_sem] theorem sl49 : slv Tryz.prog 49 = none := by kernel_rfl
instance isl49 : SlN Tryz.prog 49 := ⟨sl49⟩
@[go_sem] theorem zv49 : zv Tryz.prog 49 = some (.sc .nilFunc) := by kernel_rfl
instance izv49 : ZvF Tryz.prog 49 (.sc .nilFunc) := ⟨zv49⟩
@[go_sem] theorem zo49 : zok Tryz.prog 49 1 := by simp only [zok, zv49]; rfl
instance izo49 : ZoF Tryz.prog 49 1 := ⟨zo49⟩
@[go_sem] theorem ty50 : tyv Tryz.prog 50 = some (false, 1) := by kernel_rfl
instance ity50 : TyF Tryz.prog 50 false 1 := ⟨ty50⟩
@[go_sem] theorem sl50 : slv Tryz.prog 50 = none := by kernel_rfl
instance isl50 : SlN Tryz.prog 50 := ⟨sl50⟩
@[go_sem] theorem zv50 : zv Tryz.prog 50 = some (.sc .nilFunc) := by kernel_rfl
instance izv50 : ZvF Tryz.prog 50 (.sc .nilFunc) := ⟨zv50⟩
@[go_sem] theorem zo50 : zok Tryz.prog 50 1 := by simp only [zok, zv50]; rfl
instance izo50 : ZoF Tryz.prog 50 1 := ⟨zo50⟩
@[go_sem] theorem ty51 : tyv Tryz.prog 51 = some (false, 1) := by kernel_rfl
instance ity51 : TyF Tryz.prog 51 false 1 := ⟨ty51⟩
@[go_sem] theorem sl51 : slv Tryz.prog 51 = none := by kernel_rfl
instance isl51 : SlN Tryz.prog 51 := ⟨sl51⟩
@[go_sem] theorem zv51 : zv Tryz.prog 51 = some (.sc .nilFunc) := by kernel_rfl
instance izv51 : ZvF Tryz.prog 51 (.sc .nilFunc) := ⟨zv51⟩
@[go_sem] theorem zo51 : zok Tryz.prog 51 1 := by simp only [zok, zv51]; rfl
instance izo51 : ZoF Tryz.prog 51 1 := ⟨zo51⟩
@[go_sem] theorem ty52 : tyv Tryz.prog 52 = some (false, 1) := by kernel_rfl
instance ity52 : TyF Tryz.prog 52 false 1 := ⟨ty52⟩
@[go_sem] theorem sl52 : slv Tryz.prog 52 = none := by kernel_rfl
instance isl52 : SlN Tryz.prog 52 := ⟨sl52⟩
@[go_sem] theorem zv52 : zv Tryz.prog 52 = some (.sc .nilFunc) := by kernel_rfl
instance izv52 : ZvF Tryz.prog 52 (.sc .nilFunc) := ⟨zv52⟩
@[go_sem] theorem zo52 : zok Tryz.prog 52 1 := by simp only [zok, zv52]; rfl
instance izo52 : ZoF Tryz.prog 52 1 := ⟨zo52⟩
@[go_sem] theorem ty53 : tyv Tryz.prog 53 = some (false, 1) := by kernel_rfl
instance ity53 : TyF Tryz.prog 53 false 1 := ⟨ty53⟩
@[go_sem] theorem sl53 : slv Tryz.prog 53 = none := by kernel_rfl
instance isl53 : SlN Tryz.prog 53 := ⟨sl53⟩
@[go_sem] theorem zv53 : zv Tryz.prog 53 = some (.sc .nilFunc) := by kernel_rfl
instance izv53 : ZvF Tryz.prog 53 (.sc .nilFunc) := ⟨zv53⟩
@[go_sem] theorem zo53 : zok Tryz.prog 53 1 := by simp only [zok, zv53]; rfl
instance izo53 : ZoF Tryz.prog 53 1 := ⟨zo53⟩
@[go_sem] theorem ty54 : tyv Tryz.prog 54 = some (false, 1) := by kernel_rfl
instance ity54 : TyF Tryz.prog 54 false 1 := ⟨ty54⟩
@[go_sem] theorem sl54 : slv Tryz.prog 54 = none := by kernel_rfl
instance isl54 : SlN Tryz.prog 54 := ⟨sl54⟩
@[go_sem] theorem zv54 : zv Tryz.prog 54 = some (.sc .nilFunc) := by kernel_rfl
instance izv54 : ZvF Tryz.prog 54 (.sc .nilFunc) := ⟨zv54⟩
@[go_sem] theorem zo54 : zok Tryz.prog 54 1 := by simp only [zok, zv54]; rfl
instance izo54 : ZoF Tryz.prog 54 1 := ⟨zo54⟩
@[go_sem] theorem ty55 : tyv Tryz.prog 55 = some (true, 2) := by kernel_rfl
instance ity55 : TyF Tryz.prog 55 true 2 := ⟨ty55⟩
@[go_sem] theorem sl55 : slv Tryz.prog 55 = none := by kernel_rfl
instance isl55 : SlN Tryz.prog 55 := ⟨sl55⟩
@[go_sem] theorem fl55_0 : fldv Tryz.prog 55 0 = some (0, false, 1) := by kernel_rfl
instance ifl55_0 : FlF Tryz.prog 55 0 0 false 1 := ⟨fl55_0⟩
@[go_sem] theorem fl55_1 : fldv Tryz.prog 55 1 = some (1, false, 1) := by kernel_rfl
instance ifl55_1 : FlF Tryz.prog 55 1 1 false 1 := ⟨fl55_1⟩
@[go_sem] theorem pl55 : places Tryz.prog 55 = some [(0, 1), (1, 1)] := by kernel_rfl
instance ipl55 : PlF Tryz.prog 55 [(0, 1), (1, 1)] := ⟨pl55⟩
theorem eq55 : eqlT Tryz.prog 55 [.sc (.int .i64 0), .sc (.int .i64 0)] := eqlT_of (by kernel_rfl) ty55 (by kernel_rfl)
instance ieq55 : EqF Tryz.prog 55 ([.sc (.int .i64 0), .sc (.int .i64 0)]) := ⟨eq55⟩
@[go_sem] theorem zv55 : zv Tryz.prog 55 = some (.agg [.sc (.int .i64 0), .sc (.int .i64 0)]) := by kernel_rfl
instance izv55 : ZvF Tryz.prog 55 (.agg [.sc (.int .i64 0), .sc (.int .i64 0)]) := ⟨zv55⟩
@[go_sem] theorem zo55 : zok Tryz.prog 55 2 := by simp only [zok, zv55]; rfl
instance izo55 : ZoF Tryz.prog 55 2 := ⟨zo55⟩
@[go_sem] theorem ty56 : tyv Tryz.prog 56 = some (true, 2) := by kernel_rfl
instance ity56 : TyF Tryz.prog 56 true 2 := ⟨ty56⟩
@[go_sem] theorem sl56 : slv Tryz.prog 56 = none := by kernel_rfl
instance isl56 : SlN Tryz.prog 56 := ⟨sl56⟩
@[go_sem] theorem fl56_0 : fldv Tryz.prog 56 0 = some (0, false, 1) := by kernel_rfl
instance ifl56_0 : FlF Tryz.prog 56 0 0 false 1 := ⟨fl56_0⟩
@[go_sem] theorem fl56_1 : fldv Tryz.prog 56 1 = some (1, false, 1) := by kernel_rfl
instance ifl56_1 : FlF Tryz.prog 56 1 1 false 1 := ⟨fl56_1⟩
@[go_sem] theorem pl56 : places Tryz.prog 56 = some [(0, 1), (1, 1)] := by kernel_rfl
instance ipl56 : PlF Tryz.prog 56 [(0, 1), (1, 1)] := ⟨pl56⟩
theorem eq56 : eqlT Tryz.prog 56 [.sc (.int .i64 0), .sc (.int .i64 0)] := eqlT_of (by kernel_rfl) ty56 (by kernel_rfl)
instance ieq56 : EqF Tryz.prog 56 ([.sc (.int .i64 0), .sc (.int .i64 0)]) := ⟨eq56⟩
@[go_sem] theorem zv56 : zv Tryz.prog 56 = some (.agg [.sc (.int .i64 0), .sc (.int .i64 0)]) := by kernel_rfl
instance izv56 : ZvF Tryz.prog 56 (.agg [.sc (.int .i64 0), .sc (.int .i64 0)]) := ⟨zv56⟩
@[go_sem] theorem zo56 : zok Tryz.prog 56 2 := by simp only [zok, zv56]; rfl
instance izo56 : ZoF Tryz.prog 56 2 := ⟨zo56⟩
@[go_sem] theorem ty57 : tyv Tryz.prog 57 = some (false, 1) := by kernel_rfl
instance ity57 : TyF Tryz.prog 57 false 1 := ⟨ty57⟩
@[go_sem] theorem sl57 : slv Tryz.prog 57 = none := by kernel_rfl
instance isl57 : SlN Tryz.prog 57 := ⟨sl57⟩
@[go_sem] theorem zv57 : zv Tryz.prog 57 = some (.sc .nilFunc) := by kernel_rfl
instance izv57 : ZvF Tryz.prog 57 (.sc .nilFunc) := ⟨zv57⟩
@[go_sem] theorem zo57 : zok Tryz.prog 57 1 := by simp only [zok, zv57]; rfl
instance izo57 : ZoF Tryz.prog 57 1 := ⟨zo57⟩
@[go_sem] theorem ty58 : tyv Tryz.prog 58 = some (false, 1) := by kernel_rfl
instance ity58 : TyF Tryz.prog 58 false 1 := ⟨ty58⟩
@[go_sem] theorem sl58 : slv Tryz.prog 58 = none := by kernel_rfl
instance isl58 : SlN Tryz.prog 58 := ⟨sl58⟩
@[go_sem] theorem zv58 : zv Tryz.prog 58 = some (.sc .nilFunc) := by kernel_rfl
instance izv58 : ZvF Tryz.prog 58 (.sc .nilFunc) := ⟨zv58⟩
@[go_sem] theorem zo58 : zok Tryz.prog 58 1 := by simp only [zok, zv58]; rfl
instance izo58 : ZoF Tryz.prog 58 1 := ⟨zo58⟩
@[go_sem] theorem ty59 : tyv Tryz.prog 59 = some (true, 7) := by kernel_rfl
instance ity59 : TyF Tryz.prog 59 true 7 := ⟨ty59⟩
@[go_sem] theorem sl59 : slv Tryz.prog 59 = none := by kernel_rfl
instance isl59 : SlN Tryz.prog 59 := ⟨sl59⟩
@[go_sem] theorem fl59_0 : fldv Tryz.prog 59 0 = some (0, false, 1) := by kernel_rfl
instance ifl59_0 : FlF Tryz.prog 59 0 0 false 1 := ⟨fl59_0⟩
@[go_sem] theorem fl59_1 : fldv Tryz.prog 59 1 = some (1, false, 1) := by kernel_rfl
instance ifl59_1 : FlF Tryz.prog 59 1 1 false 1 := ⟨fl59_1⟩
@[go_sem] theorem fl59_2 : fldv Tryz.prog 59 2 = some (2, false, 1) := by kernel_rfl
instance ifl59_2 : FlF Tryz.prog 59 2 2 false 1 := ⟨fl59_2⟩
@[go_sem] theorem fl59_3 : fldv Tryz.prog 59 3 = some (3, false, 1) := by kernel_rfl
instance ifl59_3 : FlF Tryz.prog 59 3 3 false 1 := ⟨fl59_3⟩
@[go_sem] theorem fl59_4 : fldv Tryz.prog 59 4 = some (4, true, 3) := by kernel_rfl
instance ifl59_4 : FlF Tryz.prog 59 4 4 true 3 := ⟨fl59_4⟩
@[go_sem] theorem pl59 : places Tryz.prog 59 = some [(0, 1), (1, 1), (2, 1), (3, 1), (4, 3)] := by kernel_rfl
instance ipl59 : PlF Tryz.prog 59 [(0, 1), (1, 1), (2, 1), (3, 1), (4, 3)] := ⟨pl59⟩
theorem eq59 : eqlT Tryz.prog 59 [.sc (.int .i64 0), .sc (.int .i64 0), .sc (.int .i64 0), .sc (.int .i64 0), .sc (.int .i64 0), .sc (.int .i64 0), .sc (.int .i64 0)] := eqlT_of (by kernel_rfl) ty59 (by kernel_rfl)
instance ieq59 : EqF Tryz.prog 59 ([.sc (.int .i64 0), .sc (.int .i64 0), .sc (.int .i64 0), .sc (.int .i64 0), .sc (.int .i64 0), .sc (.int .i64 0), .sc (.int .i64 0)]) := ⟨eq59⟩
@[go_sem] theorem zv59 : zv Tryz.prog 59 = some (.agg [.sc (.int .i64 0), .sc (.int .i64 0), .sc (.int .i64 0), .sc (.int .i64 0), .sc (.int .i64 0), .sc (.int .i64 0), .sc (.int .i64 0)]) := by kernel_rfl
instance izv59 : ZvF Tryz.prog 59 (.agg [.sc (.int .i64 0), .sc (.int .i64 0), .sc (.int .i64 0), .sc (.int .i64 0), .sc (.int .i64 0), .sc (.int .i64 0), .sc (.int .i64 0)]) := ⟨zv59⟩
@[go_sem] theorem zo59 : zok Tryz.prog 59 7 := by simp only [zok, zv59]; rfl
instance izo59 : ZoF Tryz.prog 59 7 := ⟨zo59⟩
@[go_sem] theorem ty60 : tyv Tryz.prog 60 = some (true, 7) := by kernel_rfl
instance ity60 : TyF Tryz.prog 60 true 7 := ⟨ty60⟩
@[go_sem] theorem sl60 : slv Tryz.prog 60 = none := by kernel_rfl
instance isl60 : SlN Tryz.prog 60 := ⟨sl60⟩
@[go_sem] theorem fl60_0 : fldv Tryz.prog 60 0 = some (0, false, 1) := by kernel_rfl
instance ifl60_0 : FlF Tryz.prog 60 0 0 false 1 := ⟨fl60_0⟩
@[go_sem] theorem fl60_1 : fldv Tryz.prog 60 1 = some (1, false, 1) := by kernel_rfl
instance ifl60_1 : FlF Tryz.prog 60 1 1 false 1 := ⟨fl60_1⟩
@[go_sem] theorem fl60_2 : fldv Tryz.prog 60 2 = some (2, false, 1) := by kernel_rfl
instance ifl60_2 : FlF Tryz.prog 60 2 2 false 1 := ⟨fl60_2⟩
@[go_sem] theorem fl60_3 : fldv Tryz.prog 60 3 = some (3, false, 1) := by kernel_rfl
instance ifl60_3 : FlF Tryz.prog 60 3 3 false 1 := ⟨fl60_3⟩
@[go_sem] theorem fl60_4 : fldv Tryz.prog 60 4 = some (4, true, 3) := by kernel_rfl
instance ifl60_4 : FlF Tryz.prog 60 4 4 true 3 := ⟨fl60_4⟩
@[go_sem] theorem pl60 : places Tryz.prog 60 = some [(0, 1), (1, 1), (2, 1), (3, 1), (4, 3)] := by kernel_rfl
instance ipl60 : PlF Tryz.prog 60 [(0, 1), (1, 1), (2, 1), (3, 1), (4, 3)] := ⟨pl60⟩
theorem eq60 : eqlT Tryz.prog 60 [.sc (.int .i64 0), .sc (.int .i64 0), .sc (.int .i64 0), .sc (.int .i64 0), .sc (.int .i64 0), .sc (.int .i64 0), .sc (.int .i64 0)] := eqlT_of (by kernel_rfl) ty60 (by kernel_rfl)
instance ieq60 : EqF Tryz.prog 60 ([.sc (.int .i64 0), .sc (.int .i64 0), .sc (.int .i64 0), .sc (.int .i64 0), .sc (.int .i64 0), .sc (.int .i64 0), .sc (.int .i64 0)]) := ⟨eq60⟩
@[go_sem] theorem zv60 : zv Tryz.prog 60 = some (.agg [.sc (.int .i64 0), .sc (.int .i64 0), .sc (.int .i64 0), .sc (.int .i64 0), .sc (.int .i64 0), .sc (.int .i64 0), .sc (.int .i64 0)]) := by kernel_rfl
instance izv60 : ZvF Tryz.prog 60 (.agg [.sc (.int .i64 0), .sc (.int .i64 0), .sc (.int .i64 0), .sc (.int .i64 0), .sc (.int .i64 0), .sc (.int .i64 0), .sc (.int .i64 0)]) := ⟨zv60⟩
@[go_sem] theorem zo60 : zok Tryz.prog 60 7 := by simp only [zok, zv60]; rfl
instance izo60 : ZoF Tryz.prog 60 7 := ⟨zo60⟩
@[go_sem] theorem ty61 : tyv Tryz.prog 61 = some (false, 1) := by kernel_rfl
instance ity61 : TyF Tryz.prog 61 false 1 := ⟨ty61⟩
@[go_sem] theorem sl61 : slv Tryz.prog 61 = some (60, 7, 56) := by kernel_rfl
instance isl61 : SlF Tryz.prog 61 60 7 56 := ⟨sl61⟩
@[go_sem] theorem zv61 : zv Tryz.prog 61 = some (.sc (.slice none 0 0)) := by kernel_rfl
instance izv61 : ZvF Tryz.prog 61 (.sc (.slice none 0 0)) := ⟨zv61⟩
@[go_sem] theorem zo61 : zok Tryz.prog 61 1 := by simp only [zok, zv61]; rfl
instance izo61 : ZoF Tryz.prog 61 1 := ⟨zo61⟩
@[go_sem] theorem ty62 : tyv Tryz.prog 62 = some (true, 3) := by kernel_rfl
instance ity62 : TyF Tryz.prog 62 true 3 := ⟨ty62⟩
@[go_sem] theorem sl62 : slv Tryz.prog 62 = none := by kernel_rfl
instance isl62 : SlN Tryz.prog 62 := ⟨sl62⟩
@[go_sem] theorem fl62_0 : fldv Tryz.prog 62 0 = some (0, false, 1) := by kernel_rfl
instance ifl62_0 : FlF Tryz.prog 62 0 0 false 1 := ⟨fl62_0⟩
@[go_sem] theorem fl62_1 : fldv Tryz.prog 62 1 = some (1, false, 1) := by kernel_rfl
instance ifl62_1 : FlF Tryz.prog 62 1 1 false 1 := ⟨fl62_1⟩
@[go_sem] theorem fl62_2 : fldv Tryz.prog 62 2 = some (2, false, 1) := by kernel_rfl
instance ifl62_2 : FlF Tryz.prog 62 2 2 false 1 := ⟨fl62_2⟩
@[go_sem] theorem pl62 : places Tryz.prog 62 = some [(0, 1), (1, 1), (2, 1)] := by kernel_rfl
instance ipl62 : PlF Tryz.prog 62 [(0, 1), (1, 1), (2, 1)] := ⟨pl62⟩
@[go_sem] theorem zv62 : zv Tryz.prog 62 = some (.agg [.sc (.int .i64 0), .sc (.int .i64 0), .sc (.slice none 0 0)]) := by kernel_rfl
instance izv62 : ZvF Tryz.prog 62 (.agg [.sc (.int .i64 0), .sc (.int .i64 0), .sc (.slice none 0 0)]) := ⟨zv62⟩
@[go_sem] theorem zo62 : zok Tryz.prog 62 3 := by simp only [zok, zv62]; rfl
instance izo62 : ZoF Tryz.prog 62 3 := ⟨zo62⟩
@[go_sem] theorem ty63 : tyv Tryz.prog 63 = some (true, 3) := by kernel_rfl
instance ity63 : TyF Tryz.prog 63 true 3 := ⟨ty63⟩
@[go_sem] theorem sl63 : slv Tryz.prog 63 = none := by kernel_rfl
instance isl63 : SlN Tryz.prog 63 := ⟨sl63⟩
@[go_sem] theorem fl63_0 : fldv Tryz.prog 63 0 = some (0, false, 1) := by kernel_rfl
instance ifl63_0 : FlF Tryz.prog 63 0 0 false 1 := ⟨fl63_0⟩
@[go_sem] theorem fl63_1 : fldv Tryz.prog 63 1 = some (1, false, 1) := by kernel_rfl
instance ifl63_1 : FlF Tryz.prog 63 1 1 false 1 := ⟨fl63_1⟩
@[go_sem] theorem fl63_2 : fldv Tryz.prog 63 2 = some (2, false, 1) := by kernel_rfl
instance ifl63_2 : FlF Tryz.prog 63 2 2 false 1 := ⟨fl63_2⟩
@[go_sem] theorem pl63 : places Tryz.prog 63 = some [(0, 1), (1, 1), (2, 1)] := by kernel_rfl
instance ipl63 : PlF Tryz.prog 63 [(0, 1), (1, 1), (2, 1)] := ⟨pl63⟩
@[go_sem] theorem zv63 : zv Tryz.prog 63 = some (.agg [.sc (.int .i64 0), .sc (.int .i64 0), .sc (.slice none 0 0)]) := by kernel_rfl
instance izv63 : ZvF Tryz.prog 63 (.agg [.sc (.int .i64 0), .sc (.int .i64 0), .sc (.slice none 0 0)]) := ⟨zv63⟩
@[go_sem] theorem zo63 : zok Tryz.prog 63 3 := by simp only [zok, zv63]; rfl
instance izo63 : ZoF Tryz.prog 63 3 := ⟨zo63⟩
@[go_sem] theorem ty64 : tyv Tryz.prog 64 = some (false, 1) := by kernel_rfl
instance ity64 : TyF Tryz.prog 64 false 1 := ⟨ty64⟩
@[go_sem] theorem sl64 : slv Tryz.prog 64 = none := by kernel_rfl
instance isl64 : SlN Tryz.prog 64 := ⟨sl64⟩
@[go_sem] theorem zv64 : zv Tryz.prog 64 = some (.sc .nilFunc) := by kernel_rfl
instance izv64 : ZvF Tryz.prog 64 (.sc .nilFunc) := ⟨zv64⟩
@[go_sem] theorem zo64 : zok Tryz.prog 64 1 := by simp only [zok, zv64]; rfl
instance izo64 : ZoF Tryz.prog 64 1 := ⟨zo64⟩
@[go_sem] theorem ty65 : tyv Tryz.prog 65 = some (false, 1) := by kernel_rfl
instance ity65 : TyF Tryz.prog 65 false 1 := ⟨ty65⟩
@[go_sem] theorem sl65 : slv Tryz.prog 65 = some (73, 2, 16) := by kernel_rfl
instance isl65 : SlF Tryz.prog 65 73 2 16 := ⟨sl65⟩
@[go_sem] theorem zv65 : zv Tryz.prog 65 = some (.sc (.slice none 0 0)) := by kernel_rfl
instance izv65 : ZvF Tryz.prog 65 (.sc (.slice none 0 0)) := ⟨zv65⟩
@[go_sem] theorem zo65 : zok Tryz.prog 65 1 := by simp only [zok, zv65]; rfl
instance izo65 : ZoF Tryz.prog 65 1 := ⟨zo65⟩
@[go_sem] theorem ty66 : tyv Tryz.prog 66 = some (false, 1) := by kernel_rfl
instance ity66 : TyF Tryz.prog 66 false 1 := ⟨ty66⟩
@[go_sem] theorem sl66 : slv Tryz.prog 66 = some (73, 2, 16) := by kernel_rfl
instance isl66 : SlF Tryz.prog 66 73 2 16 := ⟨sl66⟩
@[go_sem] theorem zv66 : zv Tryz.prog 66 = some (.sc (.slice none 0 0)) := by kernel_rfl
instance izv66 : ZvF Tryz.prog 66 (.sc (.slice none 0 0)) := ⟨zv66⟩
@[go_sem] theorem zo66 : zok Tryz.prog 66 1 := by simp only [zok, zv66]; rfl
instance izo66 : ZoF Tryz.prog 66 1 := ⟨zo66⟩
@[go_sem] theorem ty67 : tyv Tryz.prog 67 = some (false, 1) := by kernel_rfl
instance ity67 : TyF Tryz.prog 67 false 1 := ⟨ty67⟩
@[go_sem] theorem sl67 : slv Tryz.prog 67 = none := by kernel_rfl
instance isl67 : SlN Tryz.prog 67 := ⟨sl67⟩
@[go_sem] theorem zv67 : zv Tryz.prog 67 = some (.sc .nilFunc) := by kernel_rfl
instance izv67 : ZvF Tryz.prog 67 (.sc .nilFunc) := ⟨zv67⟩
@[go_sem] theorem zo67 : zok Tryz.prog 67 1 := by simp only [zok, zv67]; rfl
instance izo67 : ZoF Tryz.prog 67 1 := ⟨zo67⟩
@[go_sem] theorem ty68 : tyv Tryz.prog 68 = some (false, 1) := by kernel_rfl
instance ity68 : TyF Tryz.prog 68 false 1 := ⟨ty68⟩
@[go_sem] theorem sl68 : slv Tryz.prog 68 = none := by kernel_rfl
instance isl68 : SlN Tryz.prog 68 := ⟨sl68⟩
@[go_sem] theorem zv68 : zv Tryz.prog 68 = some (.sc .nilFunc) := by kernel_rfl
instance izv68 : ZvF Tryz.prog 68 (.sc .nilFunc) := ⟨zv68⟩
@[go_sem] theorem zo68 : zok Tryz.prog 68 1 := by simp only [zok, zv68]; rfl
instance izo68 : ZoF Tryz.prog 68 1 := ⟨zo68⟩
@[go_sem] theorem ty69 : tyv Tryz.prog 69 = some (false, 1) := by kernel_rfl
instance ity69 : TyF Tryz.prog 69 false 1 := ⟨ty69⟩
@[go_sem] theorem sl69 : slv Tryz.prog 69 = some (66, 1, 24) := by kernel_rfl
instance isl69 : SlF Tryz.prog 69 66 1 24 := ⟨sl69⟩
@[go_sem] theorem zv69 : zv Tryz.prog 69 = some (.sc (.slice none 0 0)) := by kernel_rfl
instance izv69 : ZvF Tryz.prog 69 (.sc (.slice none 0 0)) := ⟨zv69⟩
@[go_sem] theorem zo69 : zok Tryz.prog 69 1 := by simp only [zok, zv69]; rfl
instance izo69 : ZoF Tryz.prog 69 1 := ⟨zo69⟩
@[go_sem] theorem ty70 : tyv Tryz.prog 70 = some (false, 1) := by kernel_rfl
instance ity70 : TyF Tryz.prog 70 false 1 := ⟨ty70⟩
@[go_sem] theorem sl70 : slv Tryz.prog 70 = none := by kernel_rfl
instance isl70 : SlN Tryz.prog 70 := ⟨sl70⟩
@[go_sem] theorem zv70 : zv Tryz.prog 70 = some (.sc .nilFunc) := by kernel_rfl
instance izv70 : ZvF Tryz.prog 70 (.sc .nilFunc) := ⟨zv70⟩
@[go_sem] theorem zo70 : zok Tryz.prog 70 1 := by simp only [zok, zv70]; rfl
instance izo70 : ZoF Tryz.prog 70 1 := ⟨zo70⟩
@[go_sem] theorem ty71 : tyv Tryz.prog 71 = some (false, 1) := by kernel_rfl
instance ity71 : TyF Tryz.prog 71 false 1 := ⟨ty71⟩
@[go_sem] theorem sl71 : slv Tryz.prog 71 = none := by kernel_rfl
instance isl71 : SlN Tryz.prog 71 := ⟨sl71⟩
@[go_sem] theorem zv71 : zv Tryz.prog 71 = some (.sc .nilFunc) := by kernel_rfl
instance izv71 : ZvF Tryz.prog 71 (.sc .nilFunc) := ⟨zv71⟩
@[go_sem] theorem zo71 : zok Tryz.prog 71 1 := by simp only [zok, zv71]; rfl
instance izo71 : ZoF Tryz.prog 71 1 := ⟨zo71⟩
@[go_sem] theorem ty72 : tyv Tryz.prog 72 = some (true, 2) := by kernel_rfl
instance ity72 : TyF Tryz.prog 72 true 2 := ⟨ty72⟩
@[go_sem] theorem sl72 : slv Tryz.prog 72 = none := by kernel_rfl
instance isl72 : SlN Tryz.prog 72 := ⟨sl72⟩
@[go_sem] theorem fl72_0 : fldv Tryz.prog 72 0 = some (0, false, 1) := by kernel_rfl
instance ifl72_0 : FlF Tryz.prog 72 0 0 false 1 := ⟨fl72_0⟩
@[go_sem] theorem fl72_1 : fldv Tryz.prog 72 1 = some (1, false, 1) := by kernel_rfl
instance ifl72_1 : FlF Tryz.prog 72 1 1 false 1 := ⟨fl72_1⟩
@[go_sem] theorem pl72 : places Tryz.prog 72 = some [(0, 1), (1, 1)] := by kernel_rfl
instance ipl72 : PlF Tryz.prog 72 [(0, 1), (1, 1)] := ⟨pl72⟩
theorem eq72 : eqlT Tryz.prog 72 [.sc (.int .i64 0), .sc (.int .i64 0)] := eqlT_of (by kernel_rfl) ty72 (by kernel_rfl)
instance ieq72 : EqF Tryz.prog 72 ([.sc (.int .i64 0), .sc (.int .i64 0)]) := ⟨eq72⟩
@[go_sem] theorem zv72 : zv Tryz.prog 72 = some (.agg [.sc (.int .i64 0), .sc (.int .i64 0)]) := by kernel_rfl
instance izv72 : ZvF Tryz.prog 72 (.agg [.sc (.int .i64 0), .sc (.int .i64 0)]) := ⟨zv72⟩
@[go_sem] theorem zo72 : zok Tryz.prog 72 2 := by simp only [zok, zv72]; rfl
instance izo72 : ZoF Tryz.prog 72 2 := ⟨zo72⟩
@[go_sem] theorem ty73 : tyv Tryz.prog 73 = some (true, 2) := by kernel_rfl
instance ity73 : TyF Tryz.prog 73 true 2 := ⟨ty73⟩
@[go_sem] theorem sl73 : slv Tryz.prog 73 = none := by kernel_rfl
instance isl73 : SlN Tryz.prog 73 := ⟨sl73⟩
@[go_sem] theorem fl73_0 : fldv Tryz.prog 73 0 = some (0, false, 1) := by kernel_rfl
instance ifl73_0 : FlF Tryz.prog 73 0 0 false 1 := ⟨fl73_0⟩
@[go_sem] theorem fl73_1 : fldv Tryz.prog 73 1 = some (1, false, 1) := by kernel_rfl
instance ifl73_1 : FlF Tryz.prog 73 1 1 false 1 := ⟨fl73_1⟩
@[go_sem] theorem pl73 : places Tryz.prog 73 = some [(0, 1), (1, 1)] := by kernel_rfl
instance ipl73 : PlF Tryz.prog 73 [(0, 1), (1, 1)] := ⟨pl73⟩
theorem eq73 : eqlT Tryz.prog 73 [.sc (.int .i64 0), .sc (.int .i64 0)] := eqlT_of (by kernel_rfl) ty73 (by kernel_rfl)
instance ieq73 : EqF Tryz.prog 73 ([.sc (.int .i64 0), .sc (.int .i64 0)]) := ⟨eq73⟩
@[go_sem] theorem zv73 : zv Tryz.prog 73 = some (.agg [.sc (.int .i64 0), .sc (.int .i64 0)]) := by kernel_rfl
instance izv73 : ZvF Tryz.prog 73 (.agg [.sc (.int .i64 0), .sc (.int .i64 0)]) := ⟨zv73⟩
@[go_sem] theorem zo73 : zok Tryz.prog 73 2 := by simp only [zok, zv73]; rfl
instance izo73 : ZoF Tryz.prog 73 2 := ⟨zo73⟩
@[go_sem] theorem ty74 : tyv Tryz.prog 74 = some (false, 1) := by kernel_rfl
instance ity74 : TyF Tryz.prog 74 false 1 := ⟨ty74⟩
@[go_sem] theorem sl74 : slv Tryz.prog 74 = none := by kernel_rfl
instance isl74 : SlN Tryz.prog 74 := ⟨sl74⟩
@[go_sem] theorem zv74 : zv Tryz.prog 74 = some (.sc .nilFunc) := by kernel_rfl
instance izv74 : ZvF Tryz.prog 74 (.sc .nilFunc) := ⟨zv74⟩
@[go_sem] theorem zo74 : zok Tryz.prog 74 1 := by simp only [zok, zv74]; rfl
instance izo74 : ZoF Tryz.prog 74 1 := ⟨zo74⟩
@[go_sem] theorem ty75 : tyv Tryz.prog 75 = some (false, 1) := by kernel_rfl
instance ity75 : TyF Tryz.prog 75 false 1 := ⟨ty75⟩
@[go_sem] theorem sl75 : slv Tryz.prog 75 = none := by kernel_rfl
instance isl75 : SlN Tryz.prog 75 := ⟨sl75⟩
@[go_sem] theorem zv75 : zv Tryz.prog 75 = some (.sc .nilFunc) := by kernel_rfl
instance izv75 : ZvF Tryz.prog 75 (.sc .nilFunc) := ⟨zv75⟩
@[go_sem] theorem zo75 : zok Tryz.prog 75 1 := by simp only [zok, zv75]; rfl
instance izo75 : ZoF Tryz.prog 75 1 := ⟨zo75⟩
@[go_sem] theorem ty76 : tyv Tryz.prog 76 = some (false, 1) := by kernel_rfl
instance ity76 : TyF Tryz.prog 76 false 1 := ⟨ty76⟩
@[go_sem] theorem sl76 : slv Tryz.prog 76 = none := by kernel_rfl
instance isl76 : SlN Tryz.prog 76 := ⟨sl76⟩
@[go_sem] theorem zv76 : zv Tryz.prog 76 = some (.sc .nilFunc) := by kernel_rfl
instance izv76 : ZvF Tryz.prog 76 (.sc .nilFunc) := ⟨zv76⟩
@[go_sem] theorem zo76 : zok Tryz.prog 76 1 := by simp only [zok, zv76]; rfl
instance izo76 : ZoF Tryz.prog 76 1 := ⟨zo76⟩
@[go_sem] theorem ty77 : tyv Tryz.prog 77 = some (false, 1) := by kernel_rfl
instance ity77 : TyF Tryz.prog 77 false 1 := ⟨ty77⟩
@[go_sem] theorem sl77 : slv Tryz.prog 77 = some (99, 5, 40) := by kernel_rfl
instance isl77 : SlF Tryz.prog 77 99 5 40 := ⟨sl77⟩
@[go_sem] theorem zv77 : zv Tryz.prog 77 = some (.sc (.slice none 0 0)) := by kernel_rfl
instance izv77 : ZvF Tryz.prog 77 (.sc (.slice none 0 0)) := ⟨zv77⟩
@[go_sem] theorem zo77 : zok Tryz.prog 77 1 := by simp only [zok, zv77]; rfl
instance izo77 : ZoF Tryz.prog 77 1 := ⟨zo77⟩
@[go_sem] theorem ty78 : tyv Tryz.prog 78 = some (true, 9) := by kernel_rfl
instance ity78 : TyF Tryz.prog 78 true 9 := ⟨ty78⟩
@[go_sem] theorem sl78 : slv Tryz.prog 78 = none := by kernel_rfl
instance isl78 : SlN Tryz.prog 78 := ⟨sl78⟩
@[go_sem] theorem fl78_0 : fldv Tryz.prog 78 0 = some (0, false, 1) := by kernel_rfl
instance ifl78_0 : FlF Tryz.prog 78 0 0 false 1 := ⟨fl78_0⟩
@[go_sem] theorem fl78_1 : fldv Tryz.prog 78 1 = some (1, false, 1) := by kernel_rfl
instance ifl78_1 : FlF Tryz.prog 78 1 1 false 1 := ⟨fl78_1⟩
@[go_sem] theorem fl78_2 : fldv Tryz.prog 78 2 = some (2, false, 1) := by kernel_rfl
instance ifl78_2 : FlF Tryz.prog 78 2 2 false 1 := ⟨fl78_2⟩
@[go_sem] theorem fl78_3 : fldv Tryz.prog 78 3 = some (3, true, 3) := by kernel_rfl
instance ifl78_3 : FlF Tryz.prog 78 3 3 true 3 := ⟨fl78_3⟩
@[go_sem] theorem fl78_4 : fldv Tryz.prog 78 4 = some (6, false, 1) := by kernel_rfl
instance ifl78_4 : FlF Tryz.prog 78 4 6 false 1 := ⟨fl78_4⟩
@[go_sem] theorem fl78_5 : fldv Tryz.prog 78 5 = some (7, false, 1) := by kernel_rfl
instance ifl78_5 : FlF Tryz.prog 78 5 7 false 1 := ⟨fl78_5⟩
@[go_sem] theorem fl78_6 : fldv Tryz.prog 78 6 = some (8, false, 1) := by kernel_rfl
instance ifl78_6 : FlF Tryz.prog 78 6 8 false 1 := ⟨fl78_6⟩
@[go_sem] theorem pl78 : places Tryz.prog 78 = some [(0, 1), (1, 1), (2, 1), (3, 3), (6, 1), (7, 1), (8, 1)] := by kernel_rfl
instance ipl78 : PlF Tryz.prog 78 [(0, 1), (1, 1), (2, 1), (3, 3), (6, 1), (7, 1), (8, 1)] := ⟨pl78⟩
@[go_sem] theorem zv78 : zv Tryz.prog 78 = some (.agg [.sc (.slice none 0 0), .sc (.slice none 0 0), .sc (.slice none 0 0), .sc (.int .i64 0), .sc (.int .i64 0), .sc (.int .i64 0), .sc (.int .i64 0), .sc (.int .i64 0), .sc (.int .i64 0)]) := by kernel_rfl
instance izv78 : ZvF Tryz.prog 78 (.agg [.sc (.slice none 0 0), .sc (.slice none 0 0), .sc (.slice none 0 0), .sc (.int .i64 0), .sc (.int .i64 0), .sc (.int .i64 0), .sc (.int .i64 0), .sc (.int .i64 0), .sc (.int .i64 0)]) := ⟨zv78⟩
@[go_sem] theorem zo78 : zok Tryz.prog 78 9 := by simp only [zok, zv78]; rfl
instance izo78 : ZoF Tryz.prog 78 9 := ⟨zo78⟩
@[go_sem] theorem ty79 : tyv Tryz.prog 79 = some (true, 9) := by kernel_rfl
instance ity79 : TyF Tryz.prog 79 true 9 := ⟨ty79⟩
@[go_sem] theorem sl79 : slv Tryz.prog 79 = none := by kernel_rfl
instance isl79 : SlN Tryz.prog 79 := ⟨sl79⟩
@[go_sem] theorem fl79_0 : fldv Tryz.prog 79 0 = some (0, false, 1) := by kernel_rfl
instance ifl79_0 : FlF Tryz.prog 79 0 0 false 1 := ⟨fl79_0⟩
@[go_sem] theorem fl79_1 : fldv Tryz.prog 79 1 = some (1, false, 1) := by kernel_rfl
instance ifl79_1 : FlF Tryz.prog 79 1 1 false 1 := ⟨fl79_1⟩
@[go_sem] theorem fl79_2 : fldv Tryz.prog 79 2 = some (2, false, 1) := by kernel_rfl
instance ifl79_2 : FlF Tryz.prog 79 2 2 false 1 := ⟨fl79_2⟩
@[go_sem] theorem fl79_3 : fldv Tryz.prog 79 3 = some (3, true, 3) := by kernel_rfl
instance ifl79_3 : FlF Tryz.prog 79 3 3 true 3 := ⟨fl79_3⟩
@[go_sem] theorem fl79_4 : fldv Tryz.prog 79 4 = some (6, false, 1) := by kernel_rfl
instance ifl79_4 : FlF Tryz.prog 79 4 6 false 1 := ⟨fl79_4⟩
@[go_sem] theorem fl79_5 : fldv Tryz.prog 79 5 = some (7, false, 1) := by kernel_rfl
instance ifl79_5 : FlF Tryz.prog 79 5 7 false 1 := ⟨fl79_5⟩
@[go_sem] theorem fl79_6 : fldv Tryz.prog 79 6 = some (8, false, 1) := by kernel_rfl
instance ifl79_6 : FlF Tryz.prog 79 6 8 false 1 := ⟨fl79_6⟩
@[go_sem] theorem pl79 : places Tryz.prog 79 = some [(0, 1), (1, 1), (2, 1), (3, 3), (6, 1), (7, 1), (8, 1)] := by kernel_rfl
instance ipl79 : PlF Tryz.prog 79 [(0, 1), (1, 1), (2, 1), (3, 3), (6, 1), (7, 1), (8, 1)] := ⟨pl79⟩
@[go_sem] theorem zv79 : zv Tryz.prog 79 = some (.agg [.sc (.slice none 0 0), .sc (.slice none 0 0), .sc (.slice none 0 0), .sc (.int .i64 0), .sc (.int .i64 0), .sc (.int .i64 0), .sc (.int .i64 0), .sc (.int .i64 0), .sc (.int .i64 0)]) := by kernel_rfl
instance izv79 : ZvF Tryz.prog 79 (.agg [.sc (.slice none 0 0), .sc (.slice none 0 0), .sc (.slice none 0 0), .sc (.int .i64 0), .sc (.int .i64 0), .sc (.int .i64 0), .sc (.int .i64 0), .sc (.int .i64 0), .sc (.int .i64 0)]) := ⟨zv79⟩
@[go_sem] theorem zo79 : zok Tryz.prog 79 9 := by simp only [zok, zv79]; rfl
instance izo79 : ZoF Tryz.prog 79 9 := ⟨zo79⟩
@[go_sem] theorem ty80 : tyv Tryz.prog 80 = some (false, 1) := by kernel_rfl
instance ity80 : TyF Tryz.prog 80 false 1 := ⟨ty80⟩
@[go_sem] theorem sl80 : slv Tryz.prog 80 = none := by kernel_rfl
instance isl80 : SlN Tryz.prog 80 := ⟨sl80⟩
@[go_sem] theorem zv80 : zv Tryz.prog 80 = some (.sc .nilFunc) := by kernel_rfl
instance izv80 : ZvF Tryz.prog 80 (.sc .nilFunc) := ⟨zv80⟩
@[go_sem] theorem zo80 : zok Tryz.prog 80 1 := by simp only [zok, zv80]; rfl
instance izo80 : ZoF Tryz.prog 80 1 := ⟨zo80⟩
@[go_sem] theorem ty81 : tyv Tryz.prog 81 = some (false, 1) := by kernel_rfl
instance ity81 : TyF Tryz.prog 81 false 1 := ⟨ty81⟩
@[go_sem] theorem sl81 : slv Tryz.prog 81 = some (44, 1, 24) := by kernel_rfl
instance isl81 : SlF Tryz.prog 81 44 1 24 := ⟨sl81⟩
@[go_sem] theorem zv81 : zv Tryz.prog 81 = some (.sc (.slice none 0 0)) := by kernel_rfl
instance izv81 : ZvF Tryz.prog 81 (.sc (.slice none 0 0)) := ⟨zv81⟩
@[go_sem] theorem zo81 : zok Tryz.prog 81 1 := by simp only [zok, zv81]; rfl
instance izo81 : ZoF Tryz.prog 81 1 := ⟨zo81⟩
@[go_sem] theorem ty82 : tyv Tryz.prog 82 = some (false, 1) := by kernel_rfl
instance ity82 : TyF Tryz.prog 82 false 1 := ⟨ty82⟩
@[go_sem] theorem sl82 : slv Tryz.prog 82 = none := by kernel_rfl
instance isl82 : SlN Tryz.prog 82 := ⟨sl82⟩
@[go_sem] theorem zv82 : zv Tryz.prog 82 = some (.sc .nilFunc) := by kernel_rfl
instance izv82 : ZvF Tryz.prog 82 (.sc .nilFunc) := ⟨zv82⟩
@[go_sem] theorem zo82 : zok Tryz.prog 82 1 := by simp only [zok, zv82]; rfl
instance izo82 : ZoF Tryz.prog 82 1 := ⟨zo82⟩
@[go_sem] theorem ty83 : tyv Tryz.prog 83 = some (false, 1) := by kernel_rfl
instance ity83 : TyF Tryz.prog 83 false 1 := ⟨ty83⟩
@[go_sem] theorem sl83 : slv Tryz.prog 83 = none := by kernel_rfl
instance isl83 : SlN Tryz.prog 83 := ⟨sl83⟩
@[go_sem] theorem zv83 : zv Tryz.prog 83 = some (.sc .nilFunc) := by kernel_rfl
instance izv83 : ZvF Tryz.prog 83 (.sc .nilFunc) := ⟨zv83⟩
@[go_sem] theorem zo83 : zok Tryz.prog 83 1 := by simp only [zok, zv83]; rfl
instance izo83 : ZoF Tryz.prog 83 1 := ⟨zo83⟩
@[go_sem] theorem ty84 : tyv Tryz.prog 84 = some (false, 1) := by kernel_rfl
instance ity84 : TyF Tryz.prog 84 false 1 := ⟨ty84⟩
@[go_sem] theorem sl84 : slv Tryz.prog 84 = none := by kernel_rfl
instance isl84 : SlN Tryz.prog 84 := ⟨sl84⟩
@[go_sem] theorem zv84 : zv Tryz.prog 84 = some (.sc .nilFunc) := by kernel_rfl
instance izv84 : ZvF Tryz.prog 84 (.sc .nilFunc) := ⟨zv84⟩
@[go_sem] theorem zo84 : zok Tryz.prog 84 1 := by simp only [zok, zv84]; rfl
instance izo84 : ZoF Tryz.prog 84 1 := ⟨zo84⟩
@[go_sem] theorem ty85 : tyv Tryz.prog 85 = some (false, 1) := by kernel_rfl
instance ity85 : TyF Tryz.prog 85 false 1 := ⟨ty85⟩
@[go_sem] theorem sl85 : slv Tryz.prog 85 = none := by kernel_rfl
instance isl85 : SlN Tryz.prog 85 := ⟨sl85⟩
@[go_sem] theorem zv85 : zv Tryz.prog 85 = some (.sc .nilFunc) := by kernel_rfl
instance izv85 : ZvF Tryz.prog 85 (.sc .nilFunc) := ⟨zv85⟩
@[go_sem] theorem zo85 : zok Tryz.prog 85 1 := by simp only [zok, zv85]; rfl
instance izo85 : ZoF Tryz.prog 85 1 := ⟨zo85⟩
@[go_sem] theorem ty86 : tyv Tryz.prog 86 = some (false, 1) := by kernel_rfl
instance ity86 : TyF Tryz.prog 86 false 1 := ⟨ty86⟩
@[go_sem] theorem sl86 : slv Tryz.prog 86 = none := by kernel_rfl
instance isl86 : SlN Tryz.prog 86 := ⟨sl86⟩
@[go_sem] theorem zv86 : zv Tryz.prog 86 = some (.sc .nilFunc) := by kernel_rfl
instance izv86 : ZvF Tryz.prog 86 (.sc .nilFunc) := ⟨zv86⟩
@[go_sem] theorem zo86 : zok Tryz.prog 86 1 := by simp only [zok, zv86]; rfl
instance izo86 : ZoF Tryz.prog 86 1 := ⟨zo86⟩
@[go_sem] theorem ty87 : tyv Tryz.prog 87 = some (false, 1) := by kernel_rfl
instance ity87 : TyF Tryz.prog 87 false 1 := ⟨ty87⟩
@[go_sem] theorem sl87 : slv Tryz.prog 87 = none := by kernel_rfl
instance isl87 : SlN Tryz.prog 87 := ⟨sl87⟩
@[go_sem] theorem zv87 : zv Tryz.prog 87 = some (.sc .nilFunc) := by kernel_rfl
instance izv87 : ZvF Tryz.prog 87 (.sc .nilFunc) := ⟨zv87⟩
@[go_sem] theorem zo87 : zok Tryz.prog 87 1 := by simp only [zok, zv87]; rfl
instance izo87 : ZoF Tryz.prog 87 1 := ⟨zo87⟩
@[go_sem] theorem ty88 : tyv Tryz.prog 88 = some (false, 1) := by kernel_rfl
instance ity88 : TyF Tryz.prog 88 false 1 := ⟨ty88⟩
@[go_sem] theorem sl88 : slv Tryz.prog 88 = none := by kernel_rfl
instance isl88 : SlN Tryz.prog 88 := ⟨sl88⟩
@[go_sem] theorem zv88 : zv Tryz.prog 88 = some (.sc .nilFunc) := by kernel_rfl
instance izv88 : ZvF Tryz.prog 88 (.sc .nilFunc) := ⟨zv88⟩
@[go_sem] theorem zo88 : zok Tryz.prog 88 1 := by simp only [zok, zv88]; rfl
instance izo88 : ZoF Tryz.prog 88 1 := ⟨zo88⟩
@[go_sem] theorem ty89 : tyv Tryz.prog 89 = some (false, 1) := by kernel_rfl
instance ity89 : TyF Tryz.prog 89 false 1 := ⟨ty89⟩
@[go_sem] theorem sl89 : slv Tryz.prog 89 = none := by kernel_rfl
instance isl89 : SlN Tryz.prog 89 := ⟨sl89⟩
@[go_sem] theorem zv89 : zv Tryz.prog 89 = some (.sc .nilFunc) := by kernel_rfl
instance izv89 : ZvF Tryz.prog 89 (.sc .nilFunc) := ⟨zv89⟩
@[go_sem] theorem zo89 : zok Tryz.prog 89 1 := by simp only [zok, zv89]; rfl
instance izo89 : ZoF Tryz.prog 89 1 := ⟨zo89⟩
@[go_sem] theorem ty90 : tyv Tryz.prog 90 = some (false, 1) := by kernel_rfl
instance ity90 : TyF Tryz.prog 90 false 1 := ⟨ty90⟩
@[go_sem] theorem sl90 : slv Tryz.prog 90 = none := by kernel_rfl
instance isl90 : SlN Tryz.prog 90 := ⟨sl90⟩
@[go_sem] theorem zv90 : zv Tryz.prog 90 = some (.sc .nilFunc) := by kernel_rfl
instance izv90 : ZvF Tryz.prog 90 (.sc .nilFunc) := ⟨zv90⟩
@[go_sem] theorem zo90 : zok Tryz.prog 90 1 := by simp only [zok, zv90]; rfl
instance izo90 : ZoF Tryz.prog 90 1 := ⟨zo90⟩
@[go_sem] theorem ty91 : tyv Tryz.prog 91 = some (false, 1) := by kernel_rfl
instance ity91 : TyF Tryz.prog 91 false 1 := ⟨ty91⟩
@[go_sem] theorem sl91 : slv Tryz.prog 91 = none := by kernel_rfl
instance isl91 : SlN Tryz.prog 91 := ⟨sl91⟩
@[go_sem] theorem zv91 : zv Tryz.prog 91 = some (.sc .nilFunc) := by kernel_rfl
instance izv91 : ZvF Tryz.prog 91 (.sc .nilFunc) := ⟨zv91⟩
@[go_sem] theorem zo91 : zok Tryz.prog 91 1 := by simp only [zok, zv91]; rfl
instance izo91 : ZoF Tryz.prog 91 1 := ⟨zo91⟩
@[go_sem] theorem ty92 : tyv Tryz.prog 92 = some (false, 1) := by kernel_rfl
instance ity92 : TyF Tryz.prog 92 false 1 := ⟨ty92⟩
@[go_sem] theorem sl92 : slv Tryz.prog 92 = none := by kernel_rfl
instance isl92 : SlN Tryz.prog 92 := ⟨sl92⟩
@[go_sem] theorem zv92 : zv Tryz.prog 92 = some (.sc .nilFunc) := by kernel_rfl
instance izv92 : ZvF Tryz.prog 92 (.sc .nilFunc) := ⟨zv92⟩
@[go_sem] theorem zo92 : zok Tryz.prog 92 1 := by simp only [zok, zv92]; rfl
instance izo92 : ZoF Tryz.prog 92 1 := ⟨zo92⟩
@[go_sem] theorem ty93 : tyv Tryz.prog 93 = some (false, 1) := by kernel_rfl
instance ity93 : TyF Tryz.prog 93 false 1 := ⟨ty93⟩
@[go_sem] theorem sl93 : slv Tryz.prog 93 = none := by kernel_rfl
instance isl93 : SlN Tryz.prog 93 := ⟨sl93⟩
@[go_sem] theorem zv93 : zv Tryz.prog 93 = some (.sc .nilFunc) := by kernel_rfl
instance izv93 : ZvF Tryz.prog 93 (.sc .nilFunc) := ⟨zv93⟩
@[go_sem] theorem zo93 : zok Tryz.prog 93 1 := by simp only [zok, zv93]; rfl
instance izo93 : ZoF Tryz.prog 93 1 := ⟨zo93⟩
@[go_sem] theorem ty95 : tyv Tryz.prog 95 = some (false, 1) := by kernel_rfl
instance ity95 : TyF Tryz.prog 95 false 1 := ⟨ty95⟩
@[go_sem] theorem sl95 : slv Tryz.prog 95 = none := by kernel_rfl
instance isl95 : SlN Tryz.prog 95 := ⟨sl95⟩
@[go_sem] theorem zv95 : zv Tryz.prog 95 = some (.sc .nilFunc) := by kernel_rfl
instance izv95 : ZvF Tryz.prog 95 (.sc .nilFunc) := ⟨zv95⟩
@[go_sem] theorem zo95 : zok Tryz.prog 95 1 := by simp only [zok, zv95]; rfl
instance izo95 : ZoF Tryz.prog 95 1 := ⟨zo95⟩
@[go_sem] theorem ty96 : tyv Tryz.prog 96 = some (false, 1) := by kernel_rfl
instance ity96 : TyF Tryz.prog 96 false 1 := ⟨ty96⟩
@[go_sem] theorem sl96 : slv Tryz.prog 96 = none := by kernel_rfl
instance isl96 : SlN Tryz.prog 96 := ⟨sl96⟩
@[go_sem] theorem zv96 : zv Tryz.prog 96 = some (.sc .nilFunc) := by kernel_rfl
instance izv96 : ZvF Tryz.prog 96 (.sc .nilFunc) := ⟨zv96⟩
@[go_sem] theorem zo96 : zok Tryz.prog 96 1 := by simp only [zok, zv96]; rfl
instance izo96 : ZoF Tryz.prog 96 1 := ⟨zo96⟩
@[go_sem] theorem ty97 : tyv Tryz.prog 97 = some (false, 1) := by kernel_rfl
instance ity97 : TyF Tryz.prog 97 false 1 := ⟨ty97⟩
@[go_sem] theorem sl97 : slv Tryz.prog 97 = none := by kernel_rfl
instance isl97 : SlN Tryz.prog 97 := ⟨sl97⟩
@[go_sem] theorem zv97 : zv Tryz.prog 97 = some (.sc .nilFunc) := by kernel_rfl
instance izv97 : ZvF Tryz.prog 97 (.sc .nilFunc) := ⟨zv97⟩
@[go_sem] theorem zo97 : zok Tryz.prog 97 1 := by simp only [zok, zv97]; rfl
instance izo97 : ZoF Tryz.prog 97 1 := ⟨zo97⟩
@[go_sem] theorem ty98 : tyv Tryz.prog 98 = some (true, 5) := by kernel_rfl
instance ity98 : TyF Tryz.prog 98 true 5 := ⟨ty98⟩
@[go_sem] theorem sl98 : slv Tryz.prog 98 = none := by kernel_rfl
instance isl98 : SlN Tryz.prog 98 := ⟨sl98⟩
@[go_sem] theorem fl98_0 : fldv Tryz.prog 98 0 = some (0, false, 1) := by kernel_rfl
instance ifl98_0 : FlF Tryz.prog 98 0 0 false 1 := ⟨fl98_0⟩
@[go_sem] theorem fl98_1 : fldv Tryz.prog 98 1 = some (1, false, 1) := by kernel_rfl
instance ifl98_1 : FlF Tryz.prog 98 1 1 false 1 := ⟨fl98_1⟩
@[go_sem] theorem fl98_2 : fldv Tryz.prog 98 2 = some (2, false, 1) := by kernel_rfl
instance ifl98_2 : FlF Tryz.prog 98 2 2 false 1 := ⟨fl98_2⟩
@[go_sem] theorem fl98_3 : fldv Tryz.prog 98 3 = some (3, false, 1) := by kernel_rfl
instance ifl98_3 : FlF Tryz.prog 98 3 3 false 1 := ⟨fl98_3⟩
@[go_sem] theorem fl98_4 : fldv Tryz.prog 98 4 = some (4, false, 1) := by kernel_rfl
instance ifl98_4 : FlF Tryz.prog 98 4 4 false 1 := ⟨fl98_4⟩
@[go_sem] theorem pl98 : places Tryz.prog 98 = some [(0, 1), (1, 1), (2, 1), (3, 1), (4, 1)] := by kernel_rfl
instance ipl98 : PlF Tryz.prog 98 [(0, 1), (1, 1), (2, 1), (3, 1), (4, 1)] := ⟨pl98⟩
theorem eq98 : eqlT Tryz.prog 98 [.sc (.int .i64 0), .sc (.int .i64 0), .sc (.int .i64 0), .sc (.int .i64 0), .sc (.int .i64 0)] := eqlT_of (by kernel_rfl) ty98 (by kernel_rfl)
instance ieq98 : EqF Tryz.prog 98 ([.sc (.int .i64 0), .sc (.int .i64 0), .sc (.int .i64 0), .sc (.int .i64 0), .sc (.int .i64 0)]) := ⟨eq98⟩
@[go_sem] theorem zv98 : zv Tryz.prog 98 = some (.agg [.sc (.int .i64 0), .sc (.int .i64 0), .sc (.int .i64 0), .sc (.int .i64 0), .sc (.int .i64 0)]) := by kernel_rfl
instance izv98 : ZvF Tryz.prog 98 (.agg [.sc (.int .i64 0), .sc (.int .i64 0), .sc (.int .i64 0), .sc (.int .i64 0), .sc (.int .i64 0)]) := ⟨zv98⟩
@[go_sem] theorem zo98 : zok Tryz.prog 98 5 := by simp only [zok, zv98]; rfl
instance izo98 : ZoF Tryz.prog 98 5 := ⟨zo98⟩
@[go_sem] theorem ty99 : tyv Tryz.prog 99 = some (true, 5) := by kernel_rfl
instance ity99 : TyF Tryz.prog 99 true 5 := ⟨ty99⟩
@[go_sem] theorem sl99 : slv Tryz.prog 99 = none := by kernel_rfl
instance isl99 : SlN Tryz.prog 99 := ⟨sl99⟩
@[go_sem] theorem fl99_0 : fldv Tryz.prog 99 0 = some (0, false, 1) := by kernel_rfl
instance ifl99_0 : FlF Tryz.prog 99 0 0 false 1 := ⟨fl99_0⟩
@[go_sem] theorem fl99_1 : fldv Tryz.prog 99 1 = some (1, false, 1) := by kernel_rfl
instance ifl99_1 : FlF Tryz.prog 99 1 1 false 1 := ⟨fl99_1⟩
@[go_sem] theorem fl99_2 : fldv Tryz.prog 99 2 = some (2, false, 1) := by kernel_rfl
instance ifl99_2 : FlF Tryz.prog 99 2 2 false 1 := ⟨fl99_2⟩
@[go_sem] theorem fl99_3 : fldv Tryz.prog 99 3 = some (3, false, 1) := by kernel_rfl
instance ifl99_3 : FlF Tryz.prog 99 3 3 false 1 := ⟨fl99_3⟩
@[go_sem] theorem fl99_4 : fldv Tryz.prog 99 4 = some (4, false, 1) := by kernel_rfl
instance ifl99_4 : FlF Tryz.prog 99 4 4 false 1 := ⟨fl99_4⟩
@[go_sem] theorem pl99 : places Tryz.prog 99 = some [(0, 1), (1, 1), (2, 1), (3, 1), (4, 1)] := by kernel_rfl
instance ipl99 : PlF Tryz.prog 99 [(0, 1), (1, 1), (2, 1), (3, 1), (4, 1)] := ⟨pl99⟩
theorem eq99 : eqlT Tryz.prog 99 [.sc (.int .i64 0), .sc (.int .i64 0), .sc (.int .i64 0), .sc (.int .i64 0), .sc (.int .i64 0)] := eqlT_of (by kernel_rfl) ty99 (by kernel_rfl)
instance ieq99 : EqF Tryz.prog 99 ([.sc (.int .i64 0), .sc (.int .i64 0), .sc (.int .i64 0), .sc (.int .i64 0), .sc (.int .i64 0)]) := ⟨eq99⟩
@[go_sem] theorem zv99 : zv Tryz.prog 99 = some (.agg [.sc (.int .i64 0), .sc (.int .i64 0), .sc (.int .i64 0), .sc (.int .i64 0), .sc (.int .i64 0)]) := by kernel_rfl
instance izv99 : ZvF Tryz.prog 99 (.agg [.sc (.int .i64 0), .sc (.int .i64 0), .sc (.int .i64 0), .sc (.int .i64 0), .sc (.int .i64 0)]) := ⟨zv99⟩
@[go_sem] theorem zo99 : zok Tryz.prog 99 5 := by simp only [zok, zv99]; rfl
instance izo99 : ZoF Tryz.prog 99 5 := ⟨zo99⟩
@[go_sem] theorem ty100 : tyv Tryz.prog 100 = some (false, 1) := by kernel_rfl
instance ity100 : TyF Tryz.prog 100 false 1 := ⟨ty100⟩
@[go_sem] theorem sl100 : slv Tryz.prog 100 = none := by kernel_rfl
instance isl100 : SlN Tryz.prog 100 := ⟨sl100⟩
@[go_sem] theorem zv100 : zv Tryz.prog 100 = some (.sc .nilFunc) := by kernel_rfl
instance izv100 : ZvF Tryz.prog 100 (.sc .nilFunc) := ⟨zv100⟩
@[go_sem] theorem zo100 : zok Tryz.prog 100 1 := by simp only [zok, zv100]; rfl
instance izo100 : ZoF Tryz.prog 100 1 := ⟨zo100⟩
@[go_sem] theorem ty101 : tyv Tryz.prog 101 = some (false, 1) := by kernel_rfl
instance ity101 : TyF Tryz.prog 101 false 1 := ⟨ty101⟩
@[go_sem] theorem sl101 : slv Tryz.prog 101 = none := by kernel_rfl
instance isl101 : SlN Tryz.prog 101 := ⟨sl101⟩
@[go_sem] theorem zv101 : zv Tryz.prog 101 = some (.sc .nilFunc) := by kernel_rfl
instance izv101 : ZvF Tryz.prog 101 (.sc .nilFunc) := ⟨zv101⟩
@[go_sem] theorem zo101 : zok Tryz.prog 101 1 := by simp only [zok, zv101]; rfl
instance izo101 : ZoF Tryz.prog 101 1 := ⟨zo101⟩
@[go_sem] theorem ty102 : tyv Tryz.prog 102 = some (false, 1) := by kernel_rfl
instance ity102 : TyF Tryz.prog 102 false 1 := ⟨ty102⟩
@[go_sem] theorem sl102 : slv Tryz.prog 102 = none := by kernel_rfl
instance isl102 : SlN Tryz.prog 102 := ⟨sl102⟩
@[go_sem] theorem zv102 : zv Tryz.prog 102 = some (.sc .nilFunc) := by kernel_rfl
instance izv102 : ZvF Tryz.prog 102 (.sc .nilFunc) := ⟨zv102⟩
@[go_sem] theorem zo102 : zok Tryz.prog 102 1 := by simp only [zok, zv102]; rfl
instance izo102 : ZoF Tryz.prog 102 1 := ⟨zo102⟩
@[go_sem] theorem ty103 : tyv Tryz.prog 103 = some (false, 1) := by kernel_rfl
instance ity103 : TyF Tryz.prog 103 false 1 := ⟨ty103⟩
@[go_sem] theorem sl103 : slv Tryz.prog 103 = none := by kernel_rfl
instance isl103 : SlN Tryz.prog 103 := ⟨sl103⟩
@[go_sem] theorem zv103 : zv Tryz.prog 103 = some (.sc .nilFunc) := by kernel_rfl
instance izv103 : ZvF Tryz.prog 103 (.sc .nilFunc) := ⟨zv103⟩
@[go_sem] theorem zo103 : zok Tryz.prog 103 1 := by simp only [zok, zv103]; rfl
instance izo103 : ZoF Tryz.prog 103 1 := ⟨zo103⟩
@[go_sem] theorem ty104 : tyv Tryz.prog 104 = some (false, 1) := by kernel_rfl
instance ity104 : TyF Tryz.prog 104 false 1 := ⟨ty104⟩
@[go_sem] theorem sl104 : slv Tryz.prog 104 = none := by kernel_rfl
instance isl104 : SlN Tryz.prog 104 := ⟨sl104⟩
@[go_sem] theorem zv104 : zv Tryz.prog 104 = some (.sc .nilFunc) := by kernel_rfl
instance izv104 : ZvF Tryz.prog 104 (.sc .nilFunc) := ⟨zv104⟩
@[go_sem] theorem zo104 : zok Tryz.prog 104 1 := by simp only [zok, zv104]; rfl
instance izo104 : ZoF Tryz.prog 104 1 := ⟨zo104⟩
@[go_sem] theorem ty105 : tyv Tryz.prog 105 = some (false, 1) := by kernel_rfl
instance ity105 : TyF Tryz.prog 105 false 1 := ⟨ty105⟩
@[go_sem] theorem sl105 : slv Tryz.prog 105 = none := by kernel_rfl
instance isl105 : SlN Tryz.prog 105 := ⟨sl105⟩
@[go_sem] theorem zv105 : zv Tryz.prog 105 = some (.sc .nilFunc) := by kernel_rfl
instance izv105 : ZvF Tryz.prog 105 (.sc .nilFunc) := ⟨zv105⟩
@[go_sem] theorem zo105 : zok Tryz.prog 105 1 := by simp only [zok, zv105]; rfl
instance izo105 : ZoF Tryz.prog 105 1 := ⟨zo105⟩
@[go_sem] theorem ty106 : tyv Tryz.prog 106 = some (false, 1) := by kernel_rfl
instance ity106 : TyF Tryz.prog 106 false 1 := ⟨ty106⟩
@[go_sem] theorem sl106 : slv Tryz.prog 106 = none := by kernel_rfl
instance isl106 : SlN Tryz.prog 106 := ⟨sl106⟩
@[go_sem] theorem zv106 : zv Tryz.prog 106 = some (.sc .nilFunc) := by kernel_rfl
instance izv106 : ZvF Tryz.prog 106 (.sc .nilFunc) := ⟨zv106⟩
@[go_sem] theorem zo106 : zok Tryz.prog 106 1 := by simp only [zok, zv106]; rfl
instance izo106 : ZoF Tryz.prog 106 1 := ⟨zo106⟩
@[go_sem] theorem ty107 : tyv Tryz.prog 107 = some (false, 1) := by kernel_rfl
instance ity107 : TyF Tryz.prog 107 false 1 := ⟨ty107⟩
@[go_sem] theorem sl107 : slv Tryz.prog 107 = none := by kernel_rfl
instance isl107 : SlN Tryz.prog 107 := ⟨sl107⟩
@[go_sem] theorem zv107 : zv Tryz.prog 107 = some (.sc .nilFunc) := by kernel_rfl
instance izv107 : ZvF Tryz.prog 107 (.sc .nilFunc) := ⟨zv107⟩
@[go_sem] theorem zo107 : zok Tryz.prog 107 1 := by simp only [zok, zv107]; rfl
instance izo107 : ZoF Tryz.prog 107 1 := ⟨zo107⟩
@[go_sem] theorem ty108 : tyv Tryz.prog 108 = some (false, 1) := by kernel_rfl
instance ity108 : TyF Tryz.prog 108 false 1 := ⟨ty108⟩
@[go_sem] theorem sl108 : slv Tryz.prog 108 = none := by kernel_rfl
instance isl108 : SlN Tryz.prog 108 := ⟨sl108⟩
@[go_sem] theorem zv108 : zv Tryz.prog 108 = some (.sc .nilFunc) := by kernel_rfl
instance izv108 : ZvF Tryz.prog 108 (.sc .nilFunc) := ⟨zv108⟩
@[go_sem] theorem zo108 : zok Tryz.prog 108 1 := by simp only [zok, zv108]; rfl
instance izo108 : ZoF Tryz.prog 108 1 := ⟨zo108⟩
@[go_sem] theorem ty109 : tyv Tryz.prog 109 = some (false, 1) := by kernel_rfl
instance ity109 : TyF Tryz.prog 109 false 1 := ⟨ty109⟩
@[go_sem] theorem sl109 : slv Tryz.prog 109 = none := by kernel_rfl
instance isl109 : SlN Tryz.prog 109 := ⟨sl109⟩
@[go_sem] theorem zv109 : zv Tryz.prog 109 = some (.sc .nilFunc) := by kernel_rfl
instance izv109 : ZvF Tryz.prog 109 (.sc .nilFunc) := ⟨zv109⟩
@[go_sem] theorem zo109 : zok Tryz.prog 109 1 := by simp only [zok, zv109]; rfl
instance izo109 : ZoF Tryz.prog 109 1 := ⟨zo109⟩
@[go_sem] theorem ty110 : tyv Tryz.prog 110 = some (false, 1) := by kernel_rfl
instance ity110 : TyF Tryz.prog 110 false 1 := ⟨ty110⟩
@[go_sem] theorem sl110 : slv Tryz.prog 110 = none := by kernel_rfl
instance isl110 : SlN Tryz.prog 110 := ⟨sl110⟩
@[go_sem] theorem zv110 : zv Tryz.prog 110 = some (.sc .nilFunc) := by kernel_rfl
instance izv110 : ZvF Tryz.prog 110 (.sc .nilFunc) := ⟨zv110⟩
@[go_sem] theorem zo110 : zok Tryz.prog 110 1 := by simp only [zok, zv110]; rfl
instance izo110 : ZoF Tryz.prog 110 1 := ⟨zo110⟩
@[go_sem] theorem ty111 : tyv Tryz.prog 111 = some (false, 1) := by kernel_rfl
instance ity111 : TyF Tryz.prog 111 false 1 := ⟨ty111⟩
@[go_sem] theorem sl111 : slv Tryz.prog 111 = none := by kernel_rfl
instance isl111 : SlN Tryz.prog 111 := ⟨sl111⟩
@[go_sem] theorem zv111 : zv Tryz.prog 111 = some (.sc .nilFunc) := by kernel_rfl
instance izv111 : ZvF Tryz.prog 111 (.sc .nilFunc) := ⟨zv111⟩
@[go_sem] theorem zo111 : zok Tryz.prog 111 1 := by simp only [zok, zv111]; rfl
instance izo111 : ZoF Tryz.prog 111 1 := ⟨zo111⟩
@[go_sem] theorem ty112 : tyv Tryz.prog 112 = some (false, 1) := by kernel_rfl
instance ity112 : TyF Tryz.prog 112 false 1 := ⟨ty112⟩
@[go_sem] theorem sl112 : slv Tryz.prog 112 = none := by kernel_rfl
instance isl112 : SlN Tryz.prog 112 := ⟨sl112⟩
@[go_sem] theorem zv112 : zv Tryz.prog 112 = some (.sc .nilFunc) := by kernel_rfl
instance izv112 : ZvF Tryz.prog 112 (.sc .nilFunc) := ⟨zv112⟩
@[go_sem] theorem zo112 : zok Tryz.prog 112 1 := by simp only [zok, zv112]; rfl
instance izo112 : ZoF Tryz.prog 112 1 := ⟨zo112⟩
@[go_sem] theorem ty113 : tyv Tryz.prog 113 = some (false, 1) := by kernel_rfl
instance ity113 : TyF Tryz.prog 113 false 1 := ⟨ty113⟩
@[go_sem] theorem sl113 : slv Tryz.prog 113 = none := by kernel_rfl
instance isl113 : SlN Tryz.prog 113 := ⟨sl113⟩
@[go_sem] theorem zv113 : zv Tryz.prog 113 = some (.sc .nilFunc) := by kernel_rfl
instance izv113 : ZvF Tryz.prog 113 (.sc .nilFunc) := ⟨zv113⟩
@[go_sem] theorem zo113 : zok Tryz.prog 113 1 := by simp only [zok, zv113]; rfl
instance izo113 : ZoF Tryz.prog 113 1 := ⟨zo113⟩
@[go_sem] theorem ty114 : tyv Tryz.prog 114 = some (false, 1) := by kernel_rfl
instance ity114 : TyF Tryz.prog 114 false 1 := ⟨ty114⟩
@[go_sem] theorem sl114 : slv Tryz.prog 114 = none := by kernel_rfl
instance isl114 : SlN Tryz.prog 114 := ⟨sl114⟩
@[go_sem] theorem zv114 : zv Tryz.prog 114 = some (.sc .nilFunc) := by kernel_rfl
instance izv114 : ZvF Tryz.prog 114 (.sc .nilFunc) := ⟨zv114⟩
@[go_sem] theorem zo114 : zok Tryz.prog 114 1 := by simp only [zok, zv114]; rfl
instance izo114 : ZoF Tryz.prog 114 1 := ⟨zo114⟩
@[go_sem] theorem ty115 : tyv Tryz.prog 115 = some (false, 1) := by kernel_rfl
instance ity115 : TyF Tryz.prog 115 false 1 := ⟨ty115⟩
@[go_sem] theorem sl115 : slv Tryz.prog 115 = none := by kernel_rfl
instance isl115 : SlN Tryz.prog 115 := ⟨sl115⟩
@[go_sem] theorem zv115 : zv Tryz.prog 115 = some (.sc .nilFunc) := by kernel_rfl
instance izv115 : ZvF Tryz.prog 115 (.sc .nilFunc) := ⟨zv115⟩
@[go_sem] theorem zo115 : zok Tryz.prog 115 1 := by simp only [zok, zv115]; rfl
instance izo115 : ZoF Tryz.prog 115 1 := ⟨zo115⟩
@[go_sem] theorem ty116 : tyv Tryz.prog 116 = some (false, 1) := by kernel_rfl
instance ity116 : TyF Tryz.prog 116 false 1 := ⟨ty116⟩
@[go_sem] theorem sl116 : slv Tryz.prog 116 = none := by kernel_rfl
instance isl116 : SlN Tryz.prog 116 := ⟨sl116⟩
@[go_sem] theorem zv116 : zv Tryz.prog 116 = some (.sc .nilFunc) := by kernel_rfl
instance izv116 : ZvF Tryz.prog 116 (.sc .nilFunc) := ⟨zv116⟩
@[go_sem] theorem zo116 : zok Tryz.prog 116 1 := by simp only [zok, zv116]; rfl
instance izo116 : ZoF Tryz.prog 116 1 := ⟨zo116⟩
@[go_sem] theorem ty117 : tyv Tryz.prog 117 = some (false, 1) := by kernel_rfl
instance ity117 : TyF Tryz.prog 117 false 1 := ⟨ty117⟩
@[go_sem] theorem sl117 : slv Tryz.prog 117 = none := by kernel_rfl
instance isl117 : SlN Tryz.prog 117 := ⟨sl117⟩
@[go_sem] theorem zv117 : zv Tryz.prog 117 = some (.sc .nilFunc) := by kernel_rfl
instance izv117 : ZvF Tryz.prog 117 (.sc .nilFunc) := ⟨zv117⟩
@[go_sem] theorem zo117 : zok Tryz.prog 117 1 := by simp only [zok, zv117]; rfl
instance izo117 : ZoF Tryz.prog 117 1 := ⟨zo117⟩
@[go_sem] theorem ty118 : tyv Tryz.prog 118 = some (false, 1) := by kernel_rfl
instance ity118 : TyF Tryz.prog 118 false 1 := ⟨ty118⟩
@[go_sem] theorem mp118 : mpv Tryz.prog 118 = some ((.int .i64), 99) := by kernel_rfl
instance imp118 : MpF Tryz.prog 118 ((.int .i64)) 99 := ⟨mp118⟩
@[go_sem] theorem sl118 : slv Tryz.prog 118 = none := by kernel_rfl
instance isl118 : SlN Tryz.prog 118 := ⟨sl118⟩
@[go_sem] theorem zv118 : zv Tryz.prog 118 = some (.sc (.map none)) := by kernel_rfl
instance izv118 : ZvF Tryz.prog 118 (.sc (.map none)) := ⟨zv118⟩
@[go_sem] theorem zo118 : zok Tryz.prog 118 1 := by simp only [zok, zv118]; rfl
instance izo118 : ZoF Tryz.prog 118 1 := ⟨zo118⟩
@[go_sem] theorem ty120 : tyv Tryz.prog 120 = some (false, 1) := by kernel_rfl
instance ity120 : TyF Tryz.prog 120 false 1 := ⟨ty120⟩
@[go_sem] theorem sl120 : slv Tryz.prog 120 = none := by kernel_rfl
instance isl120 : SlN Tryz.prog 120 := ⟨sl120⟩
@[go_sem] theorem zv120 : zv Tryz.prog 120 = some (.sc .nilFunc) := by kernel_rfl
instance izv120 : ZvF Tryz.prog 120 (.sc .nilFunc) := ⟨zv120⟩
@[go_sem] theorem zo120 : zok Tryz.prog 120 1 := by simp only [zok, zv120]; rfl
instance izo120 : ZoF Tryz.prog 120 1 := ⟨zo120⟩
@[go_sem] theorem ty121 : tyv Tryz.prog 121 = some (false, 1) := by kernel_rfl
instance ity121 : TyF Tryz.prog 121 false 1 := ⟨ty121⟩
@[go_sem] theorem sl121 : slv Tryz.prog 121 = none := by kernel_rfl
instance isl121 : SlN Tryz.prog 121 := ⟨sl121⟩
@[go_sem] theorem zv121 : zv Tryz.prog 121 = some (.sc .nilFunc) := by kernel_rfl
instance izv121 : ZvF Tryz.prog 121 (.sc .nilFunc) := ⟨zv121⟩
@[go_sem] theorem zo121 : zok Tryz.prog 121 1 := by simp only [zok, zv121]; rfl
instance izo121 : ZoF Tryz.prog 121 1 := ⟨zo121⟩
@[go_sem] theorem ty122 : tyv Tryz.prog 122 = some (false, 1) := by kernel_rfl
instance ity122 : TyF Tryz.prog 122 false 1 := ⟨ty122⟩
@[go_sem] theorem sl122 : slv Tryz.prog 122 = none := by kernel_rfl
instance isl122 : SlN Tryz.prog 122 := ⟨sl122⟩
@[go_sem] theorem zv122 : zv Tryz.prog 122 = some (.sc .nilFunc) := by kernel_rfl
instance izv122 : ZvF Tryz.prog 122 (.sc .nilFunc) := ⟨zv122⟩
@[go_sem] theorem zo122 : zok Tryz.prog 122 1 := by simp only [zok, zv122]; rfl
instance izo122 : ZoF Tryz.prog 122 1 := ⟨zo122⟩
@[go_sem] theorem ty123 : tyv Tryz.prog 123 = some (false, 1) := by kernel_rfl
instance ity123 : TyF Tryz.prog 123 false 1 := ⟨ty123⟩
@[go_sem] theorem un123 : Tryz.prog.underlying 123 = some (.int .u64) := by kernel_rfl
instance iun123 : UnF Tryz.prog 123 (.int .u64) := ⟨un123⟩
@[go_sem] theorem sl123 : slv Tryz.prog 123 = none := by kernel_rfl
instance isl123 : SlN Tryz.prog 123 := ⟨sl123⟩
@[go_sem] theorem zv123 : zv Tryz.prog 123 = some (.sc (.int .u64 0)) := by kernel_rfl
instance izv123 : ZvF Tryz.prog 123 (.sc (.int .u64 0)) := ⟨zv123⟩
@[go_sem] theorem zo123 : zok Tryz.prog 123 1 := by simp only [zok, zv123]; rfl
instance izo123 : ZoF Tryz.prog 123 1 := ⟨zo123⟩
@[go_sem] theorem ty124 : tyv Tryz.prog 124 = some (false, 1) := by kernel_rfl
instance ity124 : TyF Tryz.prog 124 false 1 := ⟨ty124⟩
@[go_sem] theorem sl124 : slv Tryz.prog 124 = none := by kernel_rfl
instance isl124 : SlN Tryz.prog 124 := ⟨sl124⟩
@[go_sem] theorem zv124 : zv Tryz.prog 124 = some (.sc .nilFunc) := by kernel_rfl
instance izv124 : ZvF Tryz.prog 124 (.sc .nilFunc) := ⟨zv124⟩
@[go_sem] theorem zo124 : zok Tryz.prog 124 1 := by simp only [zok, zv124]; rfl
instance izo124 : ZoF Tryz.prog 124 1 := ⟨zo124⟩
@[go_sem] theorem ty125 : tyv Tryz.prog 125 = some (false, 1) := by kernel_rfl
instance ity125 : TyF Tryz.prog 125 false 1 := ⟨ty125⟩
@[go_sem] theorem sl125 : slv Tryz.prog 125 = none := by kernel_rfl
instance isl125 : SlN Tryz.prog 125 := ⟨sl125⟩
@[go_sem] theorem zv125 : zv Tryz.prog 125 = some (.sc .nilFunc) := by kernel_rfl
instance izv125 : ZvF Tryz.prog 125 (.sc .nilFunc) := ⟨zv125⟩
@[go_sem] theorem zo125 : zok Tryz.prog 125 1 := by simp only [zok, zv125]; rfl
instance izo125 : ZoF Tryz.prog 125 1 := ⟨zo125⟩
@[go_sem] theorem ty126 : tyv Tryz.prog 126 = some (false, 1) := by kernel_rfl
instance ity126 : TyF Tryz.prog 126 false 1 := ⟨ty126⟩
@[go_sem] theorem sl126 : slv Tryz.prog 126 = none := by kernel_rfl
instance isl126 : SlN Tryz.prog 126 := ⟨sl126⟩
@[go_sem] theorem zv126 : zv Tryz.prog 126 = some (.sc .nilFunc) := by kernel_rfl
instance izv126 : ZvF Tryz.prog 126 (.sc .nilFunc) := ⟨zv126⟩
@[go_sem] theorem zo126 : zok Tryz.prog 126 1 := by simp only [zok, zv126]; rfl
instance izo126 : ZoF Tryz.prog 126 1 := ⟨zo126⟩
@[go_sem] theorem ty127 : tyv Tryz.prog 127 = some (false, 1) := by kernel_rfl
instance ity127 : TyF Tryz.prog 127 false 1 := ⟨ty127⟩
@[go_sem] theorem sl127 : slv Tryz.prog 127 = none := by kernel_rfl
instance isl127 : SlN Tryz.prog 127 := ⟨sl127⟩
@[go_sem] theorem zv127 : zv Tryz.prog 127 = some (.sc .nilFunc) := by kernel_rfl
instance izv127 : ZvF Tryz.prog 127 (.sc .nilFunc) := ⟨zv127⟩
@[go_sem] theorem zo127 : zok Tryz.prog 127 1 := by simp only [zok, zv127]; rfl
instance izo127 : ZoF Tryz.prog 127 1 := ⟨zo127⟩
@[go_sem] theorem ty128 : tyv Tryz.prog 128 = some (false, 1) := by kernel_rfl
instance ity128 : TyF Tryz.prog 128 false 1 := ⟨ty128⟩
@[go_sem] theorem sl128 : slv Tryz.prog 128 = none := by kernel_rfl
instance isl128 : SlN Tryz.prog 128 := ⟨sl128⟩
@[go_sem] theorem zv128 : zv Tryz.prog 128 = some (.sc .nilFunc) := by kernel_rfl
instance izv128 : ZvF Tryz.prog 128 (.sc .nilFunc) := ⟨zv128⟩
@[go_sem] theorem zo128 : zok Tryz.prog 128 1 := by simp only [zok, zv128]; rfl
instance izo128 : ZoF Tryz.prog 128 1 := ⟨zo128⟩
@[go_sem] theorem ty129 : tyv Tryz.prog 129 = some (false, 1) := by kernel_rfl
instance ity129 : TyF Tryz.prog 129 false 1 := ⟨ty129⟩
@[go_sem] theorem sl129 : slv Tryz.prog 129 = none := by kernel_rfl
instance isl129 : SlN Tryz.prog 129 := ⟨sl129⟩
@[go_sem] theorem zv129 : zv Tryz.prog 129 = some (.sc .nilFunc) := by kernel_rfl
instance izv129 : ZvF Tryz.prog 129 (.sc .nilFunc) := ⟨zv129⟩
@[go_sem] theorem zo129 : zok Tryz.prog 129 1 := by simp only [zok, zv129]; rfl
instance izo129 : ZoF Tryz.prog 129 1 := ⟨zo129⟩
@[go_sem] theorem ty130 : tyv Tryz.prog 130 = some (false, 1) := by kernel_rfl
instance ity130 : TyF Tryz.prog 130 false 1 := ⟨ty130⟩
@[go_sem] theorem sl130 : slv Tryz.prog 130 = none := by kernel_rfl
instance isl130 : SlN Tryz.prog 130 := ⟨sl130⟩
@[go_sem] theorem zv130 : zv Tryz.prog 130 = some (.sc .nilFunc) := by kernel_rfl
instance izv130 : ZvF Tryz.prog 130 (.sc .nilFunc) := ⟨zv130⟩
@[go_sem] theorem zo130 : zok Tryz.prog 130 1 := by simp only [zok, zv130]; rfl
instance izo130 : ZoF Tryz.prog 130 1 := ⟨zo130⟩
@[go_sem] theorem ty131 : tyv Tryz.prog 131 = some (false, 1) := by kernel_rfl
instance ity131 : TyF Tryz.prog 131 false 1 := ⟨ty131⟩
@[go_sem] theorem sl131 : slv Tryz.prog 131 = none := by kernel_rfl
instance isl131 : SlN Tryz.prog 131 := ⟨sl131⟩
@[go_sem] theorem zv131 : zv Tryz.prog 131 = some (.sc .nilFunc) := by kernel_rfl
instance izv131 : ZvF Tryz.prog 131 (.sc .nilFunc) := ⟨zv131⟩
@[go_sem] theorem zo131 : zok Tryz.prog 131 1 := by simp only [zok, zv131]; rfl
instance izo131 : ZoF Tryz.prog 131 1 := ⟨zo131⟩
@[go_sem] theorem ty132 : tyv Tryz.prog 132 = some (false, 1) := by kernel_rfl
instance ity132 : TyF Tryz.prog 132 false 1 := ⟨ty132⟩
@[go_sem] theorem sl132 : slv Tryz.prog 132 = none := by kernel_rfl
instance isl132 : SlN Tryz.prog 132 := ⟨sl132⟩
@[go_sem] theorem zv132 : zv Tryz.prog 132 = some (.sc .nilFunc) := by kernel_rfl
instance izv132 : ZvF Tryz.prog 132 (.sc .nilFunc) := ⟨zv132⟩
@[go_sem] theorem zo132 : zok Tryz.prog 132 1 := by simp only [zok, zv132]; rfl
instance izo132 : ZoF Tryz.prog 132 1 := ⟨zo132⟩
@[go_sem] theorem ty133 : tyv Tryz.prog 133 = some (false, 1) := by kernel_rfl
instance ity133 : TyF Tryz.prog 133 false 1 := ⟨ty133⟩
@[go_sem] theorem sl133 : slv Tryz.prog 133 = none := by kernel_rfl
instance isl133 : SlN Tryz.prog 133 := ⟨sl133⟩
@[go_sem] theorem zv133 : zv Tryz.prog 133 = some (.sc .nilFunc) := by kernel_rfl
instance izv133 : ZvF Tryz.prog 133 (.sc .nilFunc) := ⟨zv133⟩
@[go_sem] theorem zo133 : zok Tryz.prog 133 1 := by simp only [zok, zv133]; rfl
instance izo133 : ZoF Tryz.prog 133 1 := ⟨zo133⟩
@[go_sem] theorem ty134 : tyv Tryz.prog 134 = some (false, 1) := by kernel_rfl
instance ity134 : TyF Tryz.prog 134 false 1 := ⟨ty134⟩
@[go_sem] theorem sl134 : slv Tryz.prog 134 = none := by kernel_rfl
instance isl134 : SlN Tryz.prog 134 := ⟨sl134⟩
@[go_sem] theorem zv134 : zv Tryz.prog 134 = some (.sc .nilFunc) := by kernel_rfl
instance izv134 : ZvF Tryz.prog 134 (.sc .nilFunc) := ⟨zv134⟩
@[go_sem] theorem zo134 : zok Tryz.prog 134 1 := by simp only [zok, zv134]; rfl
instance izo134 : ZoF Tryz.prog 134 1 := ⟨zo134⟩
@[go_sem] theorem ty135 : tyv Tryz.prog 135 = some (false, 1) := by kernel_rfl
instance ity135 : TyF Tryz.prog 135 false 1 := ⟨ty135⟩
@[go_sem] theorem un135 : Tryz.prog.underlying 135 = some (.int .i64) := by kernel_rfl
instance iun135 : UnF Tryz.prog 135 (.int .i64) := ⟨un135⟩
@[go_sem] theorem sl135 : slv Tryz.prog 135 = none := by kernel_rfl
instance isl135 : SlN Tryz.prog 135 := ⟨sl135⟩
@[go_sem] theorem zv135 : zv Tryz.prog 135 = some (.sc (.int .i64 0)) := by kernel_rfl
instance izv135 : ZvF Tryz.prog 135 (.sc (.int .i64 0)) := ⟨zv135⟩
@[go_sem] theorem zo135 : zok Tryz.prog 135 1 := by simp only [zok, zv135]; rfl
instance izo135 : ZoF Tryz.prog 135 1 := ⟨zo135⟩
@[go_sem] theorem ty137 : tyv Tryz.prog 137 = some (false, 1) := by kernel_rfl
instance ity137 : TyF Tryz.prog 137 false 1 := ⟨ty137⟩
@[go_sem] theorem sl137 : slv Tryz.prog 137 = none := by kernel_rfl
instance isl137 : SlN Tryz.prog 137 := ⟨sl137⟩
@[go_sem] theorem zv137 : zv Tryz.prog 137 = some (.sc .nilFunc) := by kernel_rfl
instance izv137 : ZvF Tryz.prog 137 (.sc .nilFunc) := ⟨zv137⟩
@[go_sem] theorem zo137 : zok Tryz.prog 137 1 := by simp only [zok, zv137]; rfl
instance izo137 : ZoF Tryz.prog 137 1 := ⟨zo137⟩
@[go_sem] theorem ty138 : tyv Tryz.prog 138 = some (false, 1) := by kernel_rfl
instance ity138 : TyF Tryz.prog 138 false 1 := ⟨ty138⟩
@[go_sem] theorem sl138 : slv Tryz.prog 138 = none := by kernel_rfl
instance isl138 : SlN Tryz.prog 138 := ⟨sl138⟩
@[go_sem] theorem zv138 : zv Tryz.prog 138 = some (.sc .nilFunc) := by kernel_rfl
instance izv138 : ZvF Tryz.prog 138 (.sc .nilFunc) := ⟨zv138⟩
@[go_sem] theorem zo138 : zok Tryz.prog 138 1 := by simp only [zok, zv138]; rfl
instance izo138 : ZoF Tryz.prog 138 1 := ⟨zo138⟩
@[go_sem] theorem ty139 : tyv Tryz.prog 139 = some (false, 1) := by kernel_rfl
instance ity139 : TyF Tryz.prog 139 false 1 := ⟨ty139⟩
@[go_sem] theorem sl139 : slv Tryz.prog 139 = none := by kernel_rfl
instance isl139 : SlN Tryz.prog 139 := ⟨sl139⟩
@[go_sem] theorem zv139 : zv Tryz.prog 139 = some (.sc .nilFunc) := by kernel_rfl
instance izv139 : ZvF Tryz.prog 139 (.sc .nilFunc) := ⟨zv139⟩
@[go_sem] theorem zo139 : zok Tryz.prog 139 1 := by simp only [zok, zv139]; rfl
instance izo139 : ZoF Tryz.prog 139 1 := ⟨zo139⟩
@[go_sem] theorem ty140 : tyv Tryz.prog 140 = some (false, 1) := by kernel_rfl
instance ity140 : TyF Tryz.prog 140 false 1 := ⟨ty140⟩
@[go_sem] theorem sl140 : slv Tryz.prog 140 = none := by kernel_rfl
instance isl140 : SlN Tryz.prog 140 := ⟨sl140⟩
@[go_sem] theorem zv140 : zv Tryz.prog 140 = some (.sc .nilFunc) := by kernel_rfl
instance izv140 : ZvF Tryz.prog 140 (.sc .nilFunc) := ⟨zv140⟩
@[go_sem] theorem zo140 : zok Tryz.prog 140 1 := by simp only [zok, zv140]; rfl
instance izo140 : ZoF Tryz.prog 140 1 := ⟨zo140⟩
@[go_sem] theorem ty141 : tyv Tryz.prog 141 = some (false, 1) := by kernel_rfl
instance ity141 : TyF Tryz.prog 141 false 1 := ⟨ty141⟩
@[go_sem] theorem sl141 : slv Tryz.prog 141 = none := by kernel_rfl
instance isl141 : SlN Tryz.prog 141 := ⟨sl141⟩
@[go_sem] theorem zv141 : zv Tryz.prog 141 = some (.sc .nilFunc) := by kernel_rfl
instance izv141 : ZvF Tryz.prog 141 (.sc .nilFunc) := ⟨zv141⟩
@[go_sem] theorem zo141 : zok Tryz.prog 141 1 := by simp only [zok, zv141]; rfl
instance izo141 : ZoF Tryz.prog 141 1 := ⟨zo141⟩
@[go_sem] theorem ty142 : tyv Tryz.prog 142 = some (false, 1) := by kernel_rfl
instance ity142 : TyF Tryz.prog 142 false 1 := ⟨ty142⟩
@[go_sem] theorem sl142 : slv Tryz.prog 142 = none := by kernel_rfl
instance isl142 : SlN Tryz.prog 142 := ⟨sl142⟩
@[go_sem] theorem zv142 : zv Tryz.prog 142 = some (.sc .nilFunc) := by kernel_rfl
instance izv142 : ZvF Tryz.prog 142 (.sc .nilFunc) := ⟨zv142⟩
@[go_sem] theorem zo142 : zok Tryz.prog 142 1 := by simp only [zok, zv142]; rfl
instance izo142 : ZoF Tryz.prog 142 1 := ⟨zo142⟩
@[go_sem] theorem ty143 : tyv Tryz.prog 143 = some (false, 1) := by kernel_rfl
instance ity143 : TyF Tryz.prog 143 false 1 := ⟨ty143⟩
@[go_sem] theorem un143 : Tryz.prog.underlying 143 = some (.int .u32) := by kernel_rfl
instance iun143 : UnF Tryz.prog 143 (.int .u32) := ⟨un143⟩
@[go_sem] theorem sl143 : slv Tryz.prog 143 = none := by kernel_rfl
instance isl143 : SlN Tryz.prog 143 := ⟨sl143⟩
@[go_sem] theorem zv143 : zv Tryz.prog 143 = some (.sc (.int .u32 0)) := by kernel_rfl
instance izv143 : ZvF Tryz.prog 143 (.sc (.int .u32 0)) := ⟨zv143⟩
@[go_sem] theorem zo143 : zok Tryz.prog 143 1 := by simp only [zok, zv143]; rfl
instance izo143 : ZoF Tryz.prog 143 1 := ⟨zo143⟩
@[go_sem] theorem ty144 : tyv Tryz.prog 144 = some (false, 1) := by kernel_rfl
instance ity144 : TyF Tryz.prog 144 false 1 := ⟨ty144⟩
@[go_sem] theorem sl144 : slv Tryz.prog 144 = none := by kernel_rfl
instance isl144 : SlN Tryz.prog 144 := ⟨sl144⟩
@[go_sem] theorem zv144 : zv Tryz.prog 144 = some (.sc .nilFunc) := by kernel_rfl
instance izv144 : ZvF Tryz.prog 144 (.sc .nilFunc) := ⟨zv144⟩
@[go_sem] theorem zo144 : zok Tryz.prog 144 1 := by simp only [zok, zv144]; rfl
instance izo144 : ZoF Tryz.prog 144 1 := ⟨zo144⟩
@[go_sem] theorem ty145 : tyv Tryz.prog 145 = some (false, 1) := by kernel_rfl
instance ity145 : TyF Tryz.prog 145 false 1 := ⟨ty145⟩
@[go_sem] theorem un145 : Tryz.prog.underlying 145 = some (.int .u64) := by kernel_rfl
instance iun145 : UnF Tryz.prog 145 (.int .u64) := ⟨un145⟩
@[go_sem] theorem sl145 : slv Tryz.prog 145 = none := by kernel_rfl
instance isl145 : SlN Tryz.prog 145 := ⟨sl145⟩
@[go_sem] theorem zv145 : zv Tryz.prog 145 = some (.sc (.int .u64 0)) := by kernel_rfl
instance izv145 : ZvF Tryz.prog 145 (.sc (.int .u64 0)) := ⟨zv145⟩
@[go_sem] theorem zo145 : zok Tryz.prog 145 1 := by simp only [zok, zv145]; rfl
instance izo145 : ZoF Tryz.prog 145 1 := ⟨zo145⟩
@[go_sem] theorem ty146 : tyv Tryz.prog 146 = some (false, 1) := by kernel_rfl
instance ity146 : TyF Tryz.prog 146 false 1 := ⟨ty146⟩
@[go_sem] theorem sl146 : slv Tryz.prog 146 = none := by kernel_rfl
instance isl146 : SlN Tryz.prog 146 := ⟨sl146⟩
@[go_sem] theorem zv146 : zv Tryz.prog 146 = some (.sc .nilFunc) := by kernel_rfl
instance izv146 : ZvF Tryz.prog 146 (.sc .nilFunc) := ⟨zv146⟩
@[go_sem] theorem zo146 : zok Tryz.prog 146 1 := by simp only [zok, zv146]; rfl
instance izo146 : ZoF Tryz.prog 146 1 := ⟨zo146⟩
@[go_sem] theorem ty147 : tyv Tryz.prog 147 = some (false, 1) := by kernel_rfl
instance ity147 : TyF Tryz.prog 147 false 1 := ⟨ty147⟩
@[go_sem] theorem sl147 : slv Tryz.prog 147 = none := by kernel_rfl
instance isl147 : SlN Tryz.prog 147 := ⟨sl147⟩
@[go_sem] theorem zv147 : zv Tryz.prog 147 = some (.sc .nilFunc) := by kernel_rfl
instance izv147 : ZvF Tryz.prog 147 (.sc .nilFunc) := ⟨zv147⟩
@[go_sem] theorem zo147 : zok Tryz.prog 147 1 := by simp only [zok, zv147]; rfl
instance izo147 : ZoF Tryz.prog 147 1 := ⟨zo147⟩
@[go_sem] theorem ty148 : tyv Tryz.prog 148 = some (false, 1) := by kernel_rfl
instance ity148 : TyF Tryz.prog 148 false 1 := ⟨ty148⟩
@[go_sem] theorem sl148 : slv Tryz.prog 148 = none := by kernel_rfl
instance isl148 : SlN Tryz.prog 148 := ⟨sl148⟩
@[go_sem] theorem zv148 : zv Tryz.prog 148 = some (.sc .nilFunc) := by kernel_rfl
instance izv148 : ZvF Tryz.prog 148 (.sc .nilFunc) := ⟨zv148⟩
@[go_sem] theorem zo148 : zok Tryz.prog 148 1 := by simp only [zok, zv148]; rfl
instance izo148 : ZoF Tryz.prog 148 1 := ⟨zo148⟩
@[go_sem] theorem ty149 : tyv Tryz.prog 149 = some (false, 1) := by kernel_rfl
instance ity149 : TyF Tryz.prog 149 false 1 := ⟨ty149⟩
@[go_sem] theorem un149 : Tryz.prog.underlying 149 = some (.int .u64) := by kernel_rfl
instance iun149 : UnF Tryz.prog 149 (.int .u64) := ⟨un149⟩
@[go_sem] theorem sl149 : slv Tryz.prog 149 = none := by kernel_rfl
instance isl149 : SlN Tryz.prog 149 := ⟨sl149⟩
@[go_sem] theorem zv149 : zv Tryz.prog 149 = some (.sc (.int .u64 0)) := by kernel_rfl
instance izv149 : ZvF Tryz.prog 149 (.sc (.int .u64 0)) := ⟨zv149⟩
@[go_sem] theorem zo149 : zok Tryz.prog 149 1 := by simp only [zok, zv149]; rfl
instance izo149 : ZoF Tryz.prog 149 1 := ⟨zo149⟩
@[go_sem] theorem ty150 : tyv Tryz.prog 150 = some (false, 1) := by kernel_rfl
instance ity150 : TyF Tryz.prog 150 false 1 := ⟨ty150⟩
@[go_sem] theorem sl150 : slv Tryz.prog 150 = none := by kernel_rfl
instance isl150 : SlN Tryz.prog 150 := ⟨sl150⟩
@[go_sem] theorem zv150 : zv Tryz.prog 150 = some (.sc .nilFunc) := by kernel_rfl
instance izv150 : ZvF Tryz.prog 150 (.sc .nilFunc) := ⟨zv150⟩
@[go_sem] theorem zo150 : zok Tryz.prog 150 1 := by simp only [zok, zv150]; rfl
instance izo150 : ZoF Tryz.prog 150 1 := ⟨zo150⟩
@[go_sem] theorem ty151 : tyv Tryz.prog 151 = some (false, 1) := by kernel_rfl
instance ity151 : TyF Tryz.prog 151 false 1 := ⟨ty151⟩
@[go_sem] theorem sl151 : slv Tryz.prog 151 = none := by kernel_rfl
instance isl151 : SlN Tryz.prog 151 := ⟨sl151⟩
@[go_sem] theorem zv151 : zv Tryz.prog 151 = some (.sc .nilFunc) := by kernel_rfl
instance izv151 : ZvF Tryz.prog 151 (.sc .nilFunc) := ⟨zv151⟩
@[go_sem] theorem zo151 : zok Tryz.prog 151 1 := by simp only [zok, zv151]; rfl
instance izo151 : ZoF Tryz.prog 151 1 := ⟨zo151⟩
@[go_sem] theorem ty152 : tyv Tryz.prog 152 = some (false, 1) := by kernel_rfl
instance ity152 : TyF Tryz.prog 152 false 1 := ⟨ty152⟩
@[go_sem] theorem sl152 : slv Tryz.prog 152 = none := by kernel_rfl
instance isl152 : SlN Tryz.prog 152 := ⟨sl152⟩
@[go_sem] theorem zv152 : zv Tryz.prog 152 = some (.sc .nilFunc) := by kernel_rfl
instance izv152 : ZvF Tryz.prog 152 (.sc .nilFunc) := ⟨zv152⟩
@[go_sem] theorem zo152 : zok Tryz.prog 152 1 := by simp only [zok, zv152]; rfl
instance izo152 : ZoF Tryz.prog 152 1 := ⟨zo152⟩
@[go_sem] theorem ty153 : tyv Tryz.prog 153 = some (false, 1) := by kernel_rfl
instance ity153 : TyF Tryz.prog 153 false 1 := ⟨ty153⟩
@[go_sem] theorem sl153 : slv Tryz.prog 153 = none := by kernel_rfl
instance isl153 : SlN Tryz.prog 153 := ⟨sl153⟩
@[go_sem] theorem zv153 : zv Tryz.prog 153 = some (.sc (.pointer none)) := by kernel_rfl
instance izv153 : ZvF Tryz.prog 153 (.sc (.pointer none)) := ⟨zv153⟩
@[go_sem] theorem zo153 : zok Tryz.prog 153 1 := by simp only [zok, zv153]; rfl
instance izo153 : ZoF Tryz.prog 153 1 := ⟨zo153⟩
@[go_sem] theorem ty154 : tyv Tryz.prog 154 = some (false, 1) := by kernel_rfl
instance ity154 : TyF Tryz.prog 154 false 1 := ⟨ty154⟩
@[go_sem] theorem sl154 : slv Tryz.prog 154 = none := by kernel_rfl
instance isl154 : SlN Tryz.prog 154 := ⟨sl154⟩
@[go_sem] theorem zv154 : zv Tryz.prog 154 = some (.sc .nilFunc) := by kernel_rfl
instance izv154 : ZvF Tryz.prog 154 (.sc .nilFunc) := ⟨zv154⟩
@[go_sem] theorem zo154 : zok Tryz.prog 154 1 := by simp only [zok, zv154]; rfl
instance izo154 : ZoF Tryz.prog 154 1 := ⟨zo154⟩
@[go_sem] theorem ty155 : tyv Tryz.prog 155 = some (false, 1) := by kernel_rfl
instance ity155 : TyF Tryz.prog 155 false 1 := ⟨ty155⟩
@[go_sem] theorem sl155 : slv Tryz.prog 155 = none := by kernel_rfl
instance isl155 : SlN Tryz.prog 155 := ⟨sl155⟩
@[go_sem] theorem zv155 : zv Tryz.prog 155 = some (.sc .nilFunc) := by kernel_rfl
instance izv155 : ZvF Tryz.prog 155 (.sc .nilFunc) := ⟨zv155⟩
@[go_sem] theorem zo155 : zok Tryz.prog 155 1 := by simp only [zok, zv155]; rfl
instance izo155 : ZoF Tryz.prog 155 1 := ⟨zo155⟩
@[go_sem] theorem ty156 : tyv Tryz.prog 156 = some (false, 1) := by kernel_rfl
instance ity156 : TyF Tryz.prog 156 false 1 := ⟨ty156⟩
@[go_sem] theorem sl156 : slv Tryz.prog 156 = none := by kernel_rfl
instance isl156 : SlN Tryz.prog 156 := ⟨sl156⟩
@[go_sem] theorem zv156 : zv Tryz.prog 156 = some (.sc (.pointer none)) := by kernel_rfl
instance izv156 : ZvF Tryz.prog 156 (.sc (.pointer none)) := ⟨zv156⟩
@[go_sem] theorem zo156 : zok Tryz.prog 156 1 := by simp only [zok, zv156]; rfl
instance izo156 : ZoF Tryz.prog 156 1 := ⟨zo156⟩
@[go_sem] theorem ty158 : tyv Tryz.prog 158 = some (false, 1) := by kernel_rfl
instance ity158 : TyF Tryz.prog 158 false 1 := ⟨ty158⟩
@[go_sem] theorem sl158 : slv Tryz.prog 158 = none := by kernel_rfl
instance isl158 : SlN Tryz.prog 158 := ⟨sl158⟩
@[go_sem] theorem zv158 : zv Tryz.prog 158 = some (.sc .nilFunc) := by kernel_rfl
instance izv158 : ZvF Tryz.prog 158 (.sc .nilFunc) := ⟨zv158⟩
@[go_sem] theorem zo158 : zok Tryz.prog 158 1 := by simp only [zok, zv158]; rfl
instance izo158 : ZoF Tryz.prog 158 1 := ⟨zo158⟩
@[go_sem] theorem ty159 : tyv Tryz.prog 159 = some (false, 1) := by kernel_rfl
instance ity159 : TyF Tryz.prog 159 false 1 := ⟨ty159⟩
@[go_sem] theorem sl159 : slv Tryz.prog 159 = none := by kernel_rfl
instance isl159 : SlN Tryz.prog 159 := ⟨sl159⟩
@[go_sem] theorem zv159 : zv Tryz.prog 159 = some (.sc .nilFunc) := by kernel_rfl
instance izv159 : ZvF Tryz.prog 159 (.sc .nilFunc) := ⟨zv159⟩
@[go_sem] theorem zo159 : zok Tryz.prog 159 1 := by simp only [zok, zv159]; rfl
instance izo159 : ZoF Tryz.prog 159 1 := ⟨zo159⟩
@[go_sem] theorem ty160 : tyv Tryz.prog 160 = some (false, 1) := by kernel_rfl
instance ity160 : TyF Tryz.prog 160 false 1 := ⟨ty160⟩
@[go_sem] theorem sl160 : slv Tryz.prog 160 = none := by kernel_rfl
instance isl160 : SlN Tryz.prog 160 := ⟨sl160⟩
@[go_sem] theorem zv160 : zv Tryz.prog 160 = some (.sc .nilFunc) := by kernel_rfl
instance izv160 : ZvF Tryz.prog 160 (.sc .nilFunc) := ⟨zv160⟩
@[go_sem] theorem zo160 : zok Tryz.prog 160 1 := by simp only [zok, zv160]; rfl
instance izo160 : ZoF Tryz.prog 160 1 := ⟨zo160⟩
@[go_sem] theorem ty161 : tyv Tryz.prog 161 = some (true, 4) := by kernel_rfl
instance ity161 : TyF Tryz.prog 161 true 4 := ⟨ty161⟩
@[go_sem] theorem sl161 : slv Tryz.prog 161 = none := by kernel_rfl
instance isl161 : SlN Tryz.prog 161 := ⟨sl161⟩
@[go_sem] theorem fl161_0 : fldv Tryz.prog 161 0 = some (0, false, 1) := by kernel_rfl
instance ifl161_0 : FlF Tryz.prog 161 0 0 false 1 := ⟨fl161_0⟩
@[go_sem] theorem fl161_1 : fldv Tryz.prog 161 1 = some (1, false, 1) := by kernel_rfl
instance ifl161_1 : FlF Tryz.prog 161 1 1 false 1 := ⟨fl161_1⟩
@[go_sem] theorem fl161_2 : fldv Tryz.prog 161 2 = some (2, false, 1) := by kernel_rfl
instance ifl161_2 : FlF Tryz.prog 161 2 2 false 1 := ⟨fl161_2⟩
@[go_sem] theorem fl161_3 : fldv Tryz.prog 161 3 = some (3, false, 1) := by kernel_rfl
instance ifl161_3 : FlF Tryz.prog 161 3 3 false 1 := ⟨fl161_3⟩
@[go_sem] theorem pl161 : places Tryz.prog 161 = some [(0, 1), (1, 1), (2, 1), (3, 1)] := by kernel_rfl
instance ipl161 : PlF Tryz.prog 161 [(0, 1), (1, 1), (2, 1), (3, 1)] := ⟨pl161⟩
@[go_sem] theorem zv161 : zv Tryz.prog 161 = some (.agg [.sc (.pointer none), .sc (.pointer none), .sc (.pointer none), .sc (.string ByteArray.empty)]) := by kernel_rfl
instance izv161 : ZvF Tryz.prog 161 (.agg [.sc (.pointer none), .sc (.pointer none), .sc (.pointer none), .sc (.string ByteArray.empty)]) := ⟨zv161⟩
@[go_sem] theorem zo161 : zok Tryz.prog 161 4 := by simp only [zok, zv161]; rfl
instance izo161 : ZoF Tryz.prog 161 4 := ⟨zo161⟩
@[go_sem] theorem ty163 : tyv Tryz.prog 163 = some (true, 0) := by kernel_rfl
instance ity163 : TyF Tryz.prog 163 true 0 := ⟨ty163⟩
@[go_sem] theorem sl163 : slv Tryz.prog 163 = none := by kernel_rfl
instance isl163 : SlN Tryz.prog 163 := ⟨sl163⟩
@[go_sem] theorem ar163 : arv Tryz.prog 163 = some (0, false, 1) := by kernel_rfl
instance iar163 : ArF Tryz.prog 163 0 false 1 := ⟨ar163⟩
@[go_sem] theorem zv163 : zv Tryz.prog 163 = some (.agg []) := by kernel_rfl
instance izv163 : ZvF Tryz.prog 163 (.agg []) := ⟨zv163⟩
@[go_sem] theorem ty164 : tyv Tryz.prog 164 = some (true, 0) := by kernel_rfl
instance ity164 : TyF Tryz.prog 164 true 0 := ⟨ty164⟩
@[go_sem] theorem sl164 : slv Tryz.prog 164 = none := by kernel_rfl
instance isl164 : SlN Tryz.prog 164 := ⟨sl164⟩
@[go_sem] theorem pl164 : places Tryz.prog 164 = some [(0, 0)] := by kernel_rfl
instance ipl164 : PlF Tryz.prog 164 [(0, 0)] := ⟨pl164⟩
@[go_sem] theorem zv164 : zv Tryz.prog 164 = some (.agg []) := by kernel_rfl
instance izv164 : ZvF Tryz.prog 164 (.agg []) := ⟨zv164⟩
@[go_sem] theorem ty166 : tyv Tryz.prog 166 = some (false, 1) := by kernel_rfl
instance ity166 : TyF Tryz.prog 166 false 1 := ⟨ty166⟩
@[go_sem] theorem sl166 : slv Tryz.prog 166 = none := by kernel_rfl
instance isl166 : SlN Tryz.prog 166 := ⟨sl166⟩
@[go_sem] theorem zv166 : zv Tryz.prog 166 = some (.sc .nilFunc) := by kernel_rfl
instance izv166 : ZvF Tryz.prog 166 (.sc .nilFunc) := ⟨zv166⟩
@[go_sem] theorem zo166 : zok Tryz.prog 166 1 := by simp only [zok, zv166]; rfl
instance izo166 : ZoF Tryz.prog 166 1 := ⟨zo166⟩
@[go_sem] theorem ty169 : tyv Tryz.prog 169 = some (false, 1) := by kernel_rfl
instance ity169 : TyF Tryz.prog 169 false 1 := ⟨ty169⟩
@[go_sem] theorem sl169 : slv Tryz.prog 169 = none := by kernel_rfl
instance isl169 : SlN Tryz.prog 169 := ⟨sl169⟩
@[go_sem] theorem zv169 : zv Tryz.prog 169 = some (.sc .nilFunc) := by kernel_rfl
instance izv169 : ZvF Tryz.prog 169 (.sc .nilFunc) := ⟨zv169⟩
@[go_sem] theorem zo169 : zok Tryz.prog 169 1 := by simp only [zok, zv169]; rfl
instance izo169 : ZoF Tryz.prog 169 1 := ⟨zo169⟩
@[go_sem] theorem ty170 : tyv Tryz.prog 170 = some (false, 1) := by kernel_rfl
instance ity170 : TyF Tryz.prog 170 false 1 := ⟨ty170⟩
@[go_sem] theorem sl170 : slv Tryz.prog 170 = none := by kernel_rfl
instance isl170 : SlN Tryz.prog 170 := ⟨sl170⟩
@[go_sem] theorem zv170 : zv Tryz.prog 170 = some (.sc (.pointer none)) := by kernel_rfl
instance izv170 : ZvF Tryz.prog 170 (.sc (.pointer none)) := ⟨zv170⟩
@[go_sem] theorem zo170 : zok Tryz.prog 170 1 := by simp only [zok, zv170]; rfl
instance izo170 : ZoF Tryz.prog 170 1 := ⟨zo170⟩
@[go_sem] theorem ty173 : tyv Tryz.prog 173 = some (true, 11) := by kernel_rfl
instance ity173 : TyF Tryz.prog 173 true 11 := ⟨ty173⟩
@[go_sem] theorem sl173 : slv Tryz.prog 173 = none := by kernel_rfl
instance isl173 : SlN Tryz.prog 173 := ⟨sl173⟩
@[go_sem] theorem fl173_0 : fldv Tryz.prog 173 0 = some (0, false, 1) := by kernel_rfl
instance ifl173_0 : FlF Tryz.prog 173 0 0 false 1 := ⟨fl173_0⟩
@[go_sem] theorem fl173_1 : fldv Tryz.prog 173 1 = some (1, false, 1) := by kernel_rfl
instance ifl173_1 : FlF Tryz.prog 173 1 1 false 1 := ⟨fl173_1⟩
@[go_sem] theorem fl173_2 : fldv Tryz.prog 173 2 = some (2, false, 1) := by kernel_rfl
instance ifl173_2 : FlF Tryz.prog 173 2 2 false 1 := ⟨fl173_2⟩
@[go_sem] theorem fl173_3 : fldv Tryz.prog 173 3 = some (3, false, 1) := by kernel_rfl
instance ifl173_3 : FlF Tryz.prog 173 3 3 false 1 := ⟨fl173_3⟩
@[go_sem] theorem fl173_4 : fldv Tryz.prog 173 4 = some (4, false, 1) := by kernel_rfl
instance ifl173_4 : FlF Tryz.prog 173 4 4 false 1 := ⟨fl173_4⟩
@[go_sem] theorem fl173_5 : fldv Tryz.prog 173 5 = some (5, false, 1) := by kernel_rfl
instance ifl173_5 : FlF Tryz.prog 173 5 5 false 1 := ⟨fl173_5⟩
@[go_sem] theorem fl173_6 : fldv Tryz.prog 173 6 = some (6, false, 1) := by kernel_rfl
instance ifl173_6 : FlF Tryz.prog 173 6 6 false 1 := ⟨fl173_6⟩
@[go_sem] theorem fl173_7 : fldv Tryz.prog 173 7 = some (7, false, 1) := by kernel_rfl
instance ifl173_7 : FlF Tryz.prog 173 7 7 false 1 := ⟨fl173_7⟩
@[go_sem] theorem fl173_8 : fldv Tryz.prog 173 8 = some (8, false, 1) := by kernel_rfl
instance ifl173_8 : FlF Tryz.prog 173 8 8 false 1 := ⟨fl173_8⟩
@[go_sem] theorem fl173_9 : fldv Tryz.prog 173 9 = some (9, false, 1) := by kernel_rfl
instance ifl173_9 : FlF Tryz.prog 173 9 9 false 1 := ⟨fl173_9⟩
@[go_sem] theorem fl173_10 : fldv Tryz.prog 173 10 = some (10, false, 1) := by kernel_rfl
instance ifl173_10 : FlF Tryz.prog 173 10 10 false 1 := ⟨fl173_10⟩
@[go_sem] theorem pl173 : places Tryz.prog 173 = some [(0, 1), (1, 1), (2, 1), (3, 1), (4, 1), (5, 1), (6, 1), (7, 1), (8, 1), (9, 1), (10, 1)] := by kernel_rfl
instance ipl173 : PlF Tryz.prog 173 [(0, 1), (1, 1), (2, 1), (3, 1), (4, 1), (5, 1), (6, 1), (7, 1), (8, 1), (9, 1), (10, 1)] := ⟨pl173⟩
@[go_sem] theorem zv173 : zv Tryz.prog 173 = some (.agg [.sc (.int .u64 0), .sc (.int .u64 0), .sc (.int .u32 0), .sc (.int .u8 0), .sc (.int .u8 0), .sc (.int .u8 0), .sc (.int .u8 0), .sc .nilFunc, .sc (.pointer none), .sc (.int .i32 0), .sc (.int .i32 0)]) := by kernel_rfl
instance izv173 : ZvF Tryz.prog 173 (.agg [.sc (.int .u64 0), .sc (.int .u64 0), .sc (.int .u32 0), .sc (.int .u8 0), .sc (.int .u8 0), .sc (.int .u8 0), .sc (.int .u8 0), .sc .nilFunc, .sc (.pointer none), .sc (.int .i32 0), .sc (.int .i32 0)]) := ⟨zv173⟩
@[go_sem] theorem zo173 : zok Tryz.prog 173 11 := by simp only [zok, zv173]; rfl
instance izo173 : ZoF Tryz.prog 173 11 := ⟨zo173⟩
theorem hb3 : hasBody Tryz.prog 3 := ⟨Tryz.f3, _, Tryz.func3, rfl, by decide +kernel⟩
instance ihb3 : HbF Tryz.prog 3 := ⟨hb3⟩
theorem hb4 : hasBody Tryz.prog 4 := ⟨Tryz.f4, _, Tryz.func4, rfl, by decide +kernel⟩
instance ihb4 : HbF Tryz.prog 4 := ⟨hb4⟩
theorem hb5 : hasBody Tryz.prog 5 := ⟨Tryz.f5, _, Tryz.func5, rfl, by decide +kernel⟩
instance ihb5 : HbF Tryz.prog 5 := ⟨hb5⟩
theorem hb6 : hasBody Tryz.prog 6 := ⟨Tryz.f6, _, Tryz.func6, rfl, by decide +kernel⟩
instance ihb6 : HbF Tryz.prog 6 := ⟨hb6⟩
theorem hb7 : hasBody Tryz.prog 7 := ⟨Tryz.f7, _, Tryz.func7, rfl, by decide +kernel⟩
instance ihb7 : HbF Tryz.prog 7 := ⟨hb7⟩
theorem hb8 : hasBody Tryz.prog 8 := ⟨Tryz.f8, _, Tryz.func8, rfl, by decide +kernel⟩
instance ihb8 : HbF Tryz.prog 8 := ⟨hb8⟩
theorem hb9 : hasBody Tryz.prog 9 := ⟨Tryz.f9, _, Tryz.func9, rfl, by decide +kernel⟩
instance ihb9 : HbF Tryz.prog 9 := ⟨hb9⟩
theorem hb10 : hasBody Tryz.prog 10 := ⟨Tryz.f10, _, Tryz.func10, rfl, by decide +kernel⟩
instance ihb10 : HbF Tryz.prog 10 := ⟨hb10⟩
theorem hb11 : hasBody Tryz.prog 11 := ⟨Tryz.f11, _, Tryz.func11, rfl, by decide +kernel⟩
instance ihb11 : HbF Tryz.prog 11 := ⟨hb11⟩
theorem hb12 : hasBody Tryz.prog 12 := ⟨Tryz.f12, _, Tryz.func12, rfl, by decide +kernel⟩
instance ihb12 : HbF Tryz.prog 12 := ⟨hb12⟩
theorem hb13 : hasBody Tryz.prog 13 := ⟨Tryz.f13, _, Tryz.func13, rfl, by decide +kernel⟩
instance ihb13 : HbF Tryz.prog 13 := ⟨hb13⟩
theorem hb14 : hasBody Tryz.prog 14 := ⟨Tryz.f14, _, Tryz.func14, rfl, by decide +kernel⟩
instance ihb14 : HbF Tryz.prog 14 := ⟨hb14⟩
theorem hb15 : hasBody Tryz.prog 15 := ⟨Tryz.f15, _, Tryz.func15, rfl, by decide +kernel⟩
instance ihb15 : HbF Tryz.prog 15 := ⟨hb15⟩
theorem hb16 : hasBody Tryz.prog 16 := ⟨Tryz.f16, _, Tryz.func16, rfl, by decide +kernel⟩
instance ihb16 : HbF Tryz.prog 16 := ⟨hb16⟩
theorem hb17 : hasBody Tryz.prog 17 := ⟨Tryz.f17, _, Tryz.func17, rfl, by decide +kernel⟩
instance ihb17 : HbF Tryz.prog 17 := ⟨hb17⟩
theorem hb18 : hasBody Tryz.prog 18 := ⟨Tryz.f18, _, Tryz.func18, rfl, by decide +kernel⟩
instance ihb18 : HbF Tryz.prog 18 := ⟨hb18⟩
theorem hb19 : hasBody Tryz.prog 19 := ⟨Tryz.f19, _, Tryz.func19, rfl, by decide +kernel⟩
instance ihb19 : HbF Tryz.prog 19 := ⟨hb19⟩
theorem hb20 : hasBody Tryz.prog 20 := ⟨Tryz.f20, _, Tryz.func20, rfl, by decide +kernel⟩
instance ihb20 : HbF Tryz.prog 20 := ⟨hb20⟩
theorem hb21 : hasBody Tryz.prog 21 := ⟨Tryz.f21, _, Tryz.func21, rfl, by decide +kernel⟩
instance ihb21 : HbF Tryz.prog 21 := ⟨hb21⟩
theorem hb22 : hasBody Tryz.prog 22 := ⟨Tryz.f22, _, Tryz.func22, rfl, by decide +kernel⟩
instance ihb22 : HbF Tryz.prog 22 := ⟨hb22⟩
theorem hb23 : hasBody Tryz.prog 23 := ⟨Tryz.f23, _, Tryz.func23, rfl, by decide +kernel⟩
instance ihb23 : HbF Tryz.prog 23 := ⟨hb23⟩
theorem hb24 : hasBody Tryz.prog 24 := ⟨Tryz.f24, _, Tryz.func24, rfl, by decide +kernel⟩
instance ihb24 : HbF Tryz.prog 24 := ⟨hb24⟩
theorem hb25 : hasBody Tryz.prog 25 := ⟨Tryz.f25, _, Tryz.func25, rfl, by decide +kernel⟩
instance ihb25 : HbF Tryz.prog 25 := ⟨hb25⟩
theorem hb26 : hasBody Tryz.prog 26 := ⟨Tryz.f26, _, Tryz.func26, rfl, by decide +kernel⟩
instance ihb26 : HbF Tryz.prog 26 := ⟨hb26⟩
theorem hb27 : hasBody Tryz.prog 27 := ⟨Tryz.f27, _, Tryz.func27, rfl, by decide +kernel⟩
instance ihb27 : HbF Tryz.prog 27 := ⟨hb27⟩
theorem hb28 : hasBody Tryz.prog 28 := ⟨Tryz.f28, _, Tryz.func28, rfl, by decide +kernel⟩
instance ihb28 : HbF Tryz.prog 28 := ⟨hb28⟩
theorem hb29 : hasBody Tryz.prog 29 := ⟨Tryz.f29, _, Tryz.func29, rfl, by decide +kernel⟩
instance ihb29 : HbF Tryz.prog 29 := ⟨hb29⟩
theorem hb30 : hasBody Tryz.prog 30 := ⟨Tryz.f30, _, Tryz.func30, rfl, by decide +kernel⟩
instance ihb30 : HbF Tryz.prog 30 := ⟨hb30⟩
theorem hb31 : hasBody Tryz.prog 31 := ⟨Tryz.f31, _, Tryz.func31, rfl, by decide +kernel⟩
instance ihb31 : HbF Tryz.prog 31 := ⟨hb31⟩
theorem hb32 : hasBody Tryz.prog 32 := ⟨Tryz.f32, _, Tryz.func32, rfl, by decide +kernel⟩
instance ihb32 : HbF Tryz.prog 32 := ⟨hb32⟩
theorem hb33 : hasBody Tryz.prog 33 := ⟨Tryz.f33, _, Tryz.func33, rfl, by decide +kernel⟩
instance ihb33 : HbF Tryz.prog 33 := ⟨hb33⟩
theorem hb34 : hasBody Tryz.prog 34 := ⟨Tryz.f34, _, Tryz.func34, rfl, by decide +kernel⟩
instance ihb34 : HbF Tryz.prog 34 := ⟨hb34⟩
theorem hb35 : hasBody Tryz.prog 35 := ⟨Tryz.f35, _, Tryz.func35, rfl, by decide +kernel⟩
instance ihb35 : HbF Tryz.prog 35 := ⟨hb35⟩
theorem hb36 : hasBody Tryz.prog 36 := ⟨Tryz.f36, _, Tryz.func36, rfl, by decide +kernel⟩
instance ihb36 : HbF Tryz.prog 36 := ⟨hb36⟩
theorem hb37 : hasBody Tryz.prog 37 := ⟨Tryz.f37, _, Tryz.func37, rfl, by decide +kernel⟩
instance ihb37 : HbF Tryz.prog 37 := ⟨hb37⟩
theorem hb38 : hasBody Tryz.prog 38 := ⟨Tryz.f38, _, Tryz.func38, rfl, by decide +kernel⟩
instance ihb38 : HbF Tryz.prog 38 := ⟨hb38⟩
theorem hb39 : hasBody Tryz.prog 39 := ⟨Tryz.f39, _, Tryz.func39, rfl, by decide +kernel⟩
instance ihb39 : HbF Tryz.prog 39 := ⟨hb39⟩
theorem hb40 : hasBody Tryz.prog 40 := ⟨Tryz.f40, _, Tryz.func40, rfl, by decide +kernel⟩
instance ihb40 : HbF Tryz.prog 40 := ⟨hb40⟩
theorem hb41 : hasBody Tryz.prog 41 := ⟨Tryz.f41, _, Tryz.func41, rfl, by decide +kernel⟩
instance ihb41 : HbF Tryz.prog 41 := ⟨hb41⟩
theorem hb42 : hasBody Tryz.prog 42 := ⟨Tryz.f42, _, Tryz.func42, rfl, by decide +kernel⟩
instance ihb42 : HbF Tryz.prog 42 := ⟨hb42⟩
theorem hb43 : hasBody Tryz.prog 43 := ⟨Tryz.f43, _, Tryz.func43, rfl, by decide +kernel⟩
instance ihb43 : HbF Tryz.prog 43 := ⟨hb43⟩
theorem hb44 : hasBody Tryz.prog 44 := ⟨Tryz.f44, _, Tryz.func44, rfl, by decide +kernel⟩
instance ihb44 : HbF Tryz.prog 44 := ⟨hb44⟩
theorem hb45 : hasBody Tryz.prog 45 := ⟨Tryz.f45, _, Tryz.func45, rfl, by decide +kernel⟩
instance ihb45 : HbF Tryz.prog 45 := ⟨hb45⟩
theorem hb46 : hasBody Tryz.prog 46 := ⟨Tryz.f46, _, Tryz.func46, rfl, by decide +kernel⟩
instance ihb46 : HbF Tryz.prog 46 := ⟨hb46⟩
theorem hb47 : hasBody Tryz.prog 47 := ⟨Tryz.f47, _, Tryz.func47, rfl, by decide +kernel⟩
instance ihb47 : HbF Tryz.prog 47 := ⟨hb47⟩
theorem hb48 : hasBody Tryz.prog 48 := ⟨Tryz.f48, _, Tryz.func48, rfl, by decide +kernel⟩
instance ihb48 : HbF Tryz.prog 48 := ⟨hb48⟩
theorem hb49 : hasBody Tryz.prog 49 := ⟨Tryz.f49, _, Tryz.func49, rfl, by decide +kernel⟩
instance ihb49 : HbF Tryz.prog 49 := ⟨hb49⟩
theorem hb50 : hasBody Tryz.prog 50 := ⟨Tryz.f50, _, Tryz.func50, rfl, by decide +kernel⟩
instance ihb50 : HbF Tryz.prog 50 := ⟨hb50⟩
theorem hb51 : hasBody Tryz.prog 51 := ⟨Tryz.f51, _, Tryz.func51, rfl, by decide +kernel⟩
instance ihb51 : HbF Tryz.prog 51 := ⟨hb51⟩
theorem hb52 : hasBody Tryz.prog 52 := ⟨Tryz.f52, _, Tryz.func52, rfl, by decide +kernel⟩
instance ihb52 : HbF Tryz.prog 52 := ⟨hb52⟩
theorem hb53 : hasBody Tryz.prog 53 := ⟨Tryz.f53, _, Tryz.func53, rfl, by decide +kernel⟩
instance ihb53 : HbF Tryz.prog 53 := ⟨hb53⟩
theorem hb54 : hasBody Tryz.prog 54 := ⟨Tryz.f54, _, Tryz.func54, rfl, by decide +kernel⟩
instance ihb54 : HbF Tryz.prog 54 := ⟨hb54⟩
theorem hb55 : hasBody Tryz.prog 55 := ⟨Tryz.f55, _, Tryz.func55, rfl, by decide +kernel⟩
instance ihb55 : HbF Tryz.prog 55 := ⟨hb55⟩
theorem hb56 : hasBody Tryz.prog 56 := ⟨Tryz.f56, _, Tryz.func56, rfl, by decide +kernel⟩
instance ihb56 : HbF Tryz.prog 56 := ⟨hb56⟩
theorem hb57 : hasBody Tryz.prog 57 := ⟨Tryz.f57, _, Tryz.func57, rfl, by decide +kernel⟩
instance ihb57 : HbF Tryz.prog 57 := ⟨hb57⟩
theorem hb58 : hasBody Tryz.prog 58 := ⟨Tryz.f58, _, Tryz.func58, rfl, by decide +kernel⟩
instance ihb58 : HbF Tryz.prog 58 := ⟨hb58⟩
theorem hb59 : hasBody Tryz.prog 59 := ⟨Tryz.f59, _, Tryz.func59, rfl, by decide +kernel⟩
instance ihb59 : HbF Tryz.prog 59 := ⟨hb59⟩
theorem hb60 : hasBody Tryz.prog 60 := ⟨Tryz.f60, _, Tryz.func60, rfl, by decide +kernel⟩
instance ihb60 : HbF Tryz.prog 60 := ⟨hb60⟩
theorem hb61 : hasBody Tryz.prog 61 := ⟨Tryz.f61, _, Tryz.func61, rfl, by decide +kernel⟩
instance ihb61 : HbF Tryz.prog 61 := ⟨hb61⟩
theorem hb62 : hasBody Tryz.prog 62 := ⟨Tryz.f62, _, Tryz.func62, rfl, by decide +kernel⟩
instance ihb62 : HbF Tryz.prog 62 := ⟨hb62⟩
theorem hb63 : hasBody Tryz.prog 63 := ⟨Tryz.f63, _, Tryz.func63, rfl, by decide +kernel⟩
instance ihb63 : HbF Tryz.prog 63 := ⟨hb63⟩
theorem hb64 : hasBody Tryz.prog 64 := ⟨Tryz.f64, _, Tryz.func64, rfl, by decide +kernel⟩
instance ihb64 : HbF Tryz.prog 64 := ⟨hb64⟩
theorem hb65 : hasBody Tryz.prog 65 := ⟨Tryz.f65, _, Tryz.func65, rfl, by decide +kernel⟩
instance ihb65 : HbF Tryz.prog 65 := ⟨hb65⟩
theorem hb66 : hasBody Tryz.prog 66 := ⟨Tryz.f66, _, Tryz.func66, rfl, by decide +kernel⟩
instance ihb66 : HbF Tryz.prog 66 := ⟨hb66⟩
theorem hb67 : hasBody Tryz.prog 67 := ⟨Tryz.f67, _, Tryz.func67, rfl, by decide +kernel⟩
instance ihb67 : HbF Tryz.prog 67 := ⟨hb67⟩
theorem hb68 : hasBody Tryz.prog 68 := ⟨Tryz.f68, _, Tryz.func68, rfl, by decide +kernel⟩
instance ihb68 : HbF Tryz.prog 68 := ⟨hb68⟩
theorem hb69 : hasBody Tryz.prog 69 := ⟨Tryz.f69, _, Tryz.func69, rfl, by decide +kernel⟩
instance ihb69 : HbF Tryz.prog 69 := ⟨hb69⟩
theorem hb70 : hasBody Tryz.prog 70 := ⟨Tryz.f70, _, Tryz.func70, rfl, by decide +kernel⟩
instance ihb70 : HbF Tryz.prog 70 := ⟨hb70⟩
theorem hb71 : hasBody Tryz.prog 71 := ⟨Tryz.f71, _, Tryz.func71, rfl, by decide +kernel⟩
instance ihb71 : HbF Tryz.prog 71 := ⟨hb71⟩
theorem hb72 : hasBody Tryz.prog 72 := ⟨Tryz.f72, _, Tryz.func72, rfl, by decide +kernel⟩
instance ihb72 : HbF Tryz.prog 72 := ⟨hb72⟩
theorem hb73 : hasBody Tryz.prog 73 := ⟨Tryz.f73, _, Tryz.func73, rfl, by decide +kernel⟩
instance ihb73 : HbF Tryz.prog 73 := ⟨hb73⟩
theorem hb74 : hasBody Tryz.prog 74 := ⟨Tryz.f74, _, Tryz.func74, rfl, by decide +kernel⟩
instance ihb74 : HbF Tryz.prog 74 := ⟨hb74⟩
theorem hb75 : hasBody Tryz.prog 75 := ⟨Tryz.f75, _, Tryz.func75, rfl, by decide +kernel⟩
instance ihb75 : HbF Tryz.prog 75 := ⟨hb75⟩
theorem hb76 : hasBody Tryz.prog 76 := ⟨Tryz.f76, _, Tryz.func76, rfl, by decide +kernel⟩
instance ihb76 : HbF Tryz.prog 76 := ⟨hb76⟩
theorem hb77 : hasBody Tryz.prog 77 := ⟨Tryz.f77, _, Tryz.func77, rfl, by decide +kernel⟩
instance ihb77 : HbF Tryz.prog 77 := ⟨hb77⟩
theorem hb78 : hasBody Tryz.prog 78 := ⟨Tryz.f78, _, Tryz.func78, rfl, by decide +kernel⟩
instance ihb78 : HbF Tryz.prog 78 := ⟨hb78⟩
theorem hb79 : hasBody Tryz.prog 79 := ⟨Tryz.f79, _, Tryz.func79, rfl, by decide +kernel⟩
instance ihb79 : HbF Tryz.prog 79 := ⟨hb79⟩
theorem hb80 : hasBody Tryz.prog 80 := ⟨Tryz.f80, _, Tryz.func80, rfl, by decide +kernel⟩
instance ihb80 : HbF Tryz.prog 80 := ⟨hb80⟩
theorem hb81 : hasBody Tryz.prog 81 := ⟨Tryz.f81, _, Tryz.func81, rfl, by decide +kernel⟩
instance ihb81 : HbF Tryz.prog 81 := ⟨hb81⟩
theorem hb82 : hasBody Tryz.prog 82 := ⟨Tryz.f82, _, Tryz.func82, rfl, by decide +kernel⟩
instance ihb82 : HbF Tryz.prog 82 := ⟨hb82⟩
theorem hb83 : hasBody Tryz.prog 83 := ⟨Tryz.f83, _, Tryz.func83, rfl, by decide +kernel⟩
instance ihb83 : HbF Tryz.prog 83 := ⟨hb83⟩
theorem hb84 : hasBody Tryz.prog 84 := ⟨Tryz.f84, _, Tryz.func84, rfl, by decide +kernel⟩
instance ihb84 : HbF Tryz.prog 84 := ⟨hb84⟩
theorem hb85 : hasBody Tryz.prog 85 := ⟨Tryz.f85, _, Tryz.func85, rfl, by decide +kernel⟩
instance ihb85 : HbF Tryz.prog 85 := ⟨hb85⟩
theorem hb86 : hasBody Tryz.prog 86 := ⟨Tryz.f86, _, Tryz.func86, rfl, by decide +kernel⟩
instance ihb86 : HbF Tryz.prog 86 := ⟨hb86⟩
theorem hb87 : hasBody Tryz.prog 87 := ⟨Tryz.f87, _, Tryz.func87, rfl, by decide +kernel⟩
instance ihb87 : HbF Tryz.prog 87 := ⟨hb87⟩
theorem hb88 : hasBody Tryz.prog 88 := ⟨Tryz.f88, _, Tryz.func88, rfl, by decide +kernel⟩
instance ihb88 : HbF Tryz.prog 88 := ⟨hb88⟩
theorem hb89 : hasBody Tryz.prog 89 := ⟨Tryz.f89, _, Tryz.func89, rfl, by decide +kernel⟩
instance ihb89 : HbF Tryz.prog 89 := ⟨hb89⟩
theorem hb90 : hasBody Tryz.prog 90 := ⟨Tryz.f90, _, Tryz.func90, rfl, by decide +kernel⟩
instance ihb90 : HbF Tryz.prog 90 := ⟨hb90⟩
theorem hb91 : hasBody Tryz.prog 91 := ⟨Tryz.f91, _, Tryz.func91, rfl, by decide +kernel⟩
instance ihb91 : HbF Tryz.prog 91 := ⟨hb91⟩
theorem hb92 : hasBody Tryz.prog 92 := ⟨Tryz.f92, _, Tryz.func92, rfl, by decide +kernel⟩
instance ihb92 : HbF Tryz.prog 92 := ⟨hb92⟩
theorem hb93 : hasBody Tryz.prog 93 := ⟨Tryz.f93, _, Tryz.func93, rfl, by decide +kernel⟩
instance ihb93 : HbF Tryz.prog 93 := ⟨hb93⟩
theorem hb94 : hasBody Tryz.prog 94 := ⟨Tryz.f94, _, Tryz.func94, rfl, by decide +kernel⟩
instance ihb94 : HbF Tryz.prog 94 := ⟨hb94⟩
theorem hb95 : hasBody Tryz.prog 95 := ⟨Tryz.f95, _, Tryz.func95, rfl, by decide +kernel⟩
instance ihb95 : HbF Tryz.prog 95 := ⟨hb95⟩
theorem hb96 : hasBody Tryz.prog 96 := ⟨Tryz.f96, _, Tryz.func96, rfl, by decide +kernel⟩
instance ihb96 : HbF Tryz.prog 96 := ⟨hb96⟩
theorem hb97 : hasBody Tryz.prog 97 := ⟨Tryz.f97, _, Tryz.func97, rfl, by decide +kernel⟩
instance ihb97 : HbF Tryz.prog 97 := ⟨hb97⟩
theorem hb99 : hasBody Tryz.prog 99 := ⟨Tryz.f99, _, Tryz.func99, rfl, by decide +kernel⟩
instance ihb99 : HbF Tryz.prog 99 := ⟨hb99⟩
theorem hb100 : hasBody Tryz.prog 100 := ⟨Tryz.f100, _, Tryz.func100, rfl, by decide +kernel⟩
instance ihb100 : HbF Tryz.prog 100 := ⟨hb100⟩
theorem hb101 : hasBody Tryz.prog 101 := ⟨Tryz.f101, _, Tryz.func101, rfl, by decide +kernel⟩
instance ihb101 : HbF Tryz.prog 101 := ⟨hb101⟩
theorem hb102 : hasBody Tryz.prog 102 := ⟨Tryz.f102, _, Tryz.func102, rfl, by decide +kernel⟩
instance ihb102 : HbF Tryz.prog 102 := ⟨hb102⟩
theorem hb103 : hasBody Tryz.prog 103 := ⟨Tryz.f103, _, Tryz.func103, rfl, by decide +kernel⟩
instance ihb103 : HbF Tryz.prog 103 := ⟨hb103⟩
theorem hb104 : hasBody Tryz.prog 104 := ⟨Tryz.f104, _, Tryz.func104, rfl, by decide +kernel⟩
instance ihb104 : HbF Tryz.prog 104 := ⟨hb104⟩
theorem hb105 : hasBody Tryz.prog 105 := ⟨Tryz.f105, _, Tryz.func105, rfl, by decide +kernel⟩
instance ihb105 : HbF Tryz.prog 105 := ⟨hb105⟩
theorem hb106 : hasBody Tryz.prog 106 := ⟨Tryz.f106, _, Tryz.func106, rfl, by decide +kernel⟩
instance ihb106 : HbF Tryz.prog 106 := ⟨hb106⟩
theorem hb107 : hasBody Tryz.prog 107 := ⟨Tryz.f107, _, Tryz.func107, rfl, by decide +kernel⟩
instance ihb107 : HbF Tryz.prog 107 := ⟨hb107⟩
theorem hb108 : hasBody Tryz.prog 108 := ⟨Tryz.f108, _, Tryz.func108, rfl, by decide +kernel⟩
instance ihb108 : HbF Tryz.prog 108 := ⟨hb108⟩
theorem hb109 : hasBody Tryz.prog 109 := ⟨Tryz.f109, _, Tryz.func109, rfl, by decide +kernel⟩
instance ihb109 : HbF Tryz.prog 109 := ⟨hb109⟩
theorem hb110 : hasBody Tryz.prog 110 := ⟨Tryz.f110, _, Tryz.func110, rfl, by decide +kernel⟩
instance ihb110 : HbF Tryz.prog 110 := ⟨hb110⟩
theorem hb111 : hasBody Tryz.prog 111 := ⟨Tryz.f111, _, Tryz.func111, rfl, by decide +kernel⟩
instance ihb111 : HbF Tryz.prog 111 := ⟨hb111⟩
theorem hb112 : hasBody Tryz.prog 112 := ⟨Tryz.f112, _, Tryz.func112, rfl, by decide +kernel⟩
instance ihb112 : HbF Tryz.prog 112 := ⟨hb112⟩
theorem hb113 : hasBody Tryz.prog 113 := ⟨Tryz.f113, _, Tryz.func113, rfl, by decide +kernel⟩
instance ihb113 : HbF Tryz.prog 113 := ⟨hb113⟩
theorem hb114 : hasBody Tryz.prog 114 := ⟨Tryz.f114, _, Tryz.func114, rfl, by decide +kernel⟩
instance ihb114 : HbF Tryz.prog 114 := ⟨hb114⟩
theorem hb115 : hasBody Tryz.prog 115 := ⟨Tryz.f115, _, Tryz.func115, rfl, by decide +kernel⟩
instance ihb115 : HbF Tryz.prog 115 := ⟨hb115⟩
theorem hb116 : hasBody Tryz.prog 116 := ⟨Tryz.f116, _, Tryz.func116, rfl, by decide +kernel⟩
instance ihb116 : HbF Tryz.prog 116 := ⟨hb116⟩
theorem hb117 : hasBody Tryz.prog 117 := ⟨Tryz.f117, _, Tryz.func117, rfl, by decide +kernel⟩
instance ihb117 : HbF Tryz.prog 117 := ⟨hb117⟩
theorem hb118 : hasBody Tryz.prog 118 := ⟨Tryz.f118, _, Tryz.func118, rfl, by decide +kernel⟩
instance ihb118 : HbF Tryz.prog 118 := ⟨hb118⟩
theorem hb119 : hasBody Tryz.prog 119 := ⟨Tryz.f119, _, Tryz.func119, rfl, by decide +kernel⟩
instance ihb119 : HbF Tryz.prog 119 := ⟨hb119⟩
theorem hb120 : hasBody Tryz.prog 120 := ⟨Tryz.f120, _, Tryz.func120, rfl, by decide +kernel⟩
instance ihb120 : HbF Tryz.prog 120 := ⟨hb120⟩
theorem hb121 : hasBody Tryz.prog 121 := ⟨Tryz.f121, _, Tryz.func121, rfl, by decide +kernel⟩
instance ihb121 : HbF Tryz.prog 121 := ⟨hb121⟩
theorem hb123 : hasBody Tryz.prog 123 := ⟨Tryz.f123, _, Tryz.func123, rfl, by decide +kernel⟩
instance ihb123 : HbF Tryz.prog 123 := ⟨hb123⟩
theorem hb125 : hasBody Tryz.prog 125 := ⟨Tryz.f125, _, Tryz.func125, rfl, by decide +kernel⟩
instance ihb125 : HbF Tryz.prog 125 := ⟨hb125⟩
theorem hb126 : hasBody Tryz.prog 126 := ⟨Tryz.f126, _, Tryz.func126, rfl, by decide +kernel⟩
instance ihb126 : HbF Tryz.prog 126 := ⟨hb126⟩
theorem hb127 : hasBody Tryz.prog 127 := ⟨Tryz.f127, _, Tryz.func127, rfl, by decide +kernel⟩
instance ihb127 : HbF Tryz.prog 127 := ⟨hb127⟩
theorem hb128 : hasBody Tryz.prog 128 := ⟨Tryz.f128, _, Tryz.func128, rfl, by decide +kernel⟩
instance ihb128 : HbF Tryz.prog 128 := ⟨hb128⟩
theorem hb129 : hasBody Tryz.prog 129 := ⟨Tryz.f129, _, Tryz.func129, rfl, by decide +kernel⟩
instance ihb129 : HbF Tryz.prog 129 := ⟨hb129⟩
theorem hb130 : hasBody Tryz.prog 130 := ⟨Tryz.f130, _, Tryz.func130, rfl, by decide +kernel⟩
instance ihb130 : HbF Tryz.prog 130 := ⟨hb130⟩
theorem hb131 : hasBody Tryz.prog 131 := ⟨Tryz.f131, _, Tryz.func131, rfl, by decide +kernel⟩
instance ihb131 : HbF Tryz.prog 131 := ⟨hb131⟩
theorem hb132 : hasBody Tryz.prog 132 := ⟨Tryz.f132, _, Tryz.func132, rfl, by decide +kernel⟩
instance ihb132 : HbF Tryz.prog 132 := ⟨hb132⟩
theorem hb133 : hasBody Tryz.prog 133 := ⟨Tryz.f133, _, Tryz.func133, rfl, by decide +kernel⟩
instance ihb133 : HbF Tryz.prog 133 := ⟨hb133⟩
theorem hb134 : hasBody Tryz.prog 134 := ⟨Tryz.f134, _, Tryz.func134, rfl, by decide +kernel⟩
instance ihb134 : HbF Tryz.prog 134 := ⟨hb134⟩
theorem hb135 : hasBody Tryz.prog 135 := ⟨Tryz.f135, _, Tryz.func135, rfl, by decide +kernel⟩
instance ihb135 : HbF Tryz.prog 135 := ⟨hb135⟩
theorem hb136 : hasBody Tryz.prog 136 := ⟨Tryz.f136, _, Tryz.func136, rfl, by decide +kernel⟩
instance ihb136 : HbF Tryz.prog 136 := ⟨hb136⟩
end Go.Proofs
