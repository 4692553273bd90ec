/- Facts about the types and functions of this seat, for the abstract machine (written by gentypes.py). -/
import Derived.Test.YtmgnkabnlcapbaaMe
import Derived.Test.YtmgnkabnlcapbaaProg
import Derived.KernelRfl
set_option maxRecDepth 8000
namespace Go.Proofs
open Go.AM
theorem mixed : Try.prog.follows .mixedOrders = true := by kernel_rfl
@[go_sem] theorem ty3 : tyv Try.prog 3 = some (false, 1) := by kernel_rfl
instance ity3 : TyF Try.prog 3 false 1 := ⟨ty3⟩
@[go_sem] theorem un3 : Try.prog.underlying 3 = some (.int .i64) := by kernel_rfl
instance iun3 : UnF Try.prog 3 (.int .i64) := ⟨un3⟩
@[go_sem] theorem zv3 : zv Try.prog 3 = some (.sc (.int .i64 0)) := by kernel_rfl
instance izv3 : ZvF Try.prog 3 (.sc (.int .i64 0)) := ⟨zv3⟩
@[go_sem] theorem zo3 : zok Try.prog 3 1 := by simp only [zok, zv3]; rfl
instance izo3 : ZoF Try.prog 3 1 := ⟨zo3⟩
@[go_sem] theorem ty5 : tyv Try.prog 5 = some (false, 1) := by kernel_rfl
instance ity5 : TyF Try.prog 5 false 1 := ⟨ty5⟩
@[go_sem] theorem un5 : Try.prog.underlying 5 = some (.int .u8) := by kernel_rfl
instance iun5 : UnF Try.prog 5 (.int .u8) := ⟨un5⟩
@[go_sem] theorem zv5 : zv Try.prog 5 = some (.sc (.int .u8 0)) := by kernel_rfl
@[go_sem] theorem zo5 : zok Try.prog 5 1 := by simp only [zok, zv5]; rfl
instance izo5 : ZoF Try.prog 5 1 := ⟨zo5⟩
@[go_sem] theorem ty22 : tyv Try.prog 22 = some (false, 1) := by kernel_rfl
instance ity22 : TyF Try.prog 22 false 1 := ⟨ty22⟩
@[go_sem] theorem sl22 : slv Try.prog 22 = some (62, 2, 16) := by kernel_rfl
instance isl22 : SlF Try.prog 22 62 2 16 := ⟨sl22⟩
@[go_sem] theorem ty24 : tyv Try.prog 24 = some (true, 3) := by kernel_rfl
instance ity24 : TyF Try.prog 24 true 3 := ⟨ty24⟩
@[go_sem] theorem fl24_0 : fldv Try.prog 24 0 = some (0, false, 1) := by kernel_rfl
instance ifl24_0 : FlF Try.prog 24 0 0 false 1 := ⟨fl24_0⟩
@[go_sem] theorem fl24_1 : fldv Try.prog 24 1 = some (1, false, 1) := by kernel_rfl
instance ifl24_1 : FlF Try.prog 24 1 1 false 1 := ⟨fl24_1⟩
@[go_sem] theorem fl24_2 : fldv Try.prog 24 2 = some (2, false, 1) := by kernel_rfl
instance ifl24_2 : FlF Try.prog 24 2 2 false 1 := ⟨fl24_2⟩
@[go_sem] theorem pl24 : places Try.prog 24 = some [(0, 1), (1, 1), (2, 1)] := by kernel_rfl
instance ipl24 : PlF Try.prog 24 [(0, 1), (1, 1), (2, 1)] := ⟨pl24⟩
theorem eq24 : eqlT Try.prog 24 [.sc (.int .i64 0), .sc (.int .i64 0), .sc (.int .i64 0)] := eqlT_of (by kernel_rfl) ty24 (by kernel_rfl)
instance ieq24 : EqF Try.prog 24 ([.sc (.int .i64 0), .sc (.int .i64 0), .sc (.int .i64 0)]) := ⟨eq24⟩
@[go_sem] theorem zv24 : zv Try.prog 24 = some (.agg [.sc (.int .i64 0), .sc (.int .i64 0), .sc (.int .i64 0)]) := by kernel_rfl
instance izv24 : ZvF Try.prog 24 (.agg [.sc (.int .i64 0), .sc (.int .i64 0), .sc (.int .i64 0)]) := ⟨zv24⟩
@[go_sem] theorem ty26 : tyv Try.prog 26 = some (true, 4) := by kernel_rfl
instance ity26 : TyF Try.prog 26 true 4 := ⟨ty26⟩
@[go_sem] theorem fl26_0 : fldv Try.prog 26 0 = some (0, false, 1) := by kernel_rfl
instance ifl26_0 : FlF Try.prog 26 0 0 false 1 := ⟨fl26_0⟩
@[go_sem] theorem fl26_1 : fldv Try.prog 26 1 = some (1, true, 3) := by kernel_rfl
instance ifl26_1 : FlF Try.prog 26 1 1 true 3 := ⟨fl26_1⟩
@[go_sem] theorem pl26 : places Try.prog 26 = some [(0, 1), (1, 3)] := by kernel_rfl
instance ipl26 : PlF Try.prog 26 [(0, 1), (1, 3)] := ⟨pl26⟩
@[go_sem] theorem zv26 : zv Try.prog 26 = some (.agg [.sc (.slice none 0 0), .sc (.int .i64 0), .sc (.int .i64 0), .sc (.int .i64 0)]) := by kernel_rfl
instance izv26 : ZvF Try.prog 26 (.agg [.sc (.slice none 0 0), .sc (.int .i64 0), .sc (.int .i64 0), .sc (.int .i64 0)]) := ⟨zv26⟩
@[go_sem] theorem ty31 : tyv Try.prog 31 = some (false, 1) := by kernel_rfl
instance ity31 : TyF Try.prog 31 false 1 := ⟨ty31⟩
@[go_sem] theorem sl31 : slv Try.prog 31 = some (3, 1, 8) := by kernel_rfl
instance isl31 : SlF Try.prog 31 3 1 8 := ⟨sl31⟩
@[go_sem] theorem zv31 : zv Try.prog 31 = some (.sc (.slice none 0 0)) := by kernel_rfl
@[go_sem] theorem zo31 : zok Try.prog 31 1 := by simp only [zok, zv31]; rfl
instance izo31 : ZoF Try.prog 31 1 := ⟨zo31⟩
@[go_sem] theorem ty32 : tyv Try.prog 32 = some (false, 1) := by kernel_rfl
instance ity32 : TyF Try.prog 32 false 1 := ⟨ty32⟩
@[go_sem] theorem sl32 : slv Try.prog 32 = some (73, 5, 40) := by kernel_rfl
instance isl32 : SlF Try.prog 32 73 5 40 := ⟨sl32⟩
@[go_sem] theorem ty34 : tyv Try.prog 34 = some (true, 9) := by kernel_rfl
instance ity34 : TyF Try.prog 34 true 9 := ⟨ty34⟩
@[go_sem] theorem fl34_0 : fldv Try.prog 34 0 = some (0, false, 1) := by kernel_rfl
instance ifl34_0 : FlF Try.prog 34 0 0 false 1 := ⟨fl34_0⟩
@[go_sem] theorem fl34_1 : fldv Try.prog 34 1 = some (1, false, 1) := by kernel_rfl
instance ifl34_1 : FlF Try.prog 34 1 1 false 1 := ⟨fl34_1⟩
@[go_sem] theorem fl34_2 : fldv Try.prog 34 2 = some (2, false, 1) := by kernel_rfl
instance ifl34_2 : FlF Try.prog 34 2 2 false 1 := ⟨fl34_2⟩
@[go_sem] theorem fl34_3 : fldv Try.prog 34 3 = some (3, true, 3) := by kernel_rfl
instance ifl34_3 : FlF Try.prog 34 3 3 true 3 := ⟨fl34_3⟩
@[go_sem] theorem fl34_4 : fldv Try.prog 34 4 = some (6, false, 1) := by kernel_rfl
instance ifl34_4 : FlF Try.prog 34 4 6 false 1 := ⟨fl34_4⟩
@[go_sem] theorem fl34_5 : fldv Try.prog 34 5 = some (7, false, 1) := by kernel_rfl
instance ifl34_5 : FlF Try.prog 34 5 7 false 1 := ⟨fl34_5⟩
@[go_sem] theorem fl34_6 : fldv Try.prog 34 6 = some (8, false, 1) := by kernel_rfl
instance ifl34_6 : FlF Try.prog 34 6 8 false 1 := ⟨fl34_6⟩
@[go_sem] theorem pl34 : places Try.prog 34 = some [(0, 1), (1, 1), (2, 1), (3, 3), (6, 1), (7, 1), (8, 1)] := by kernel_rfl
instance ipl34 : PlF Try.prog 34 [(0, 1), (1, 1), (2, 1), (3, 3), (6, 1), (7, 1), (8, 1)] := ⟨pl34⟩
@[go_sem] theorem zv34 : zv Try.prog 34 = some (.agg [.sc (.slice none 0 0), .sc (.slice none 0 0), .sc (.slice none 0 0), .sc (.int .i64 0), .sc (.int .i64 0), .sc (.int .i64 0), .sc (.int .i64 0), .sc (.int .i64 0), .sc (.int .i64 0)]) := by kernel_rfl
instance izv34 : ZvF Try.prog 34 (.agg [.sc (.slice none 0 0), .sc (.slice none 0 0), .sc (.slice none 0 0), .sc (.int .i64 0), .sc (.int .i64 0), .sc (.int .i64 0), .sc (.int .i64 0), .sc (.int .i64 0), .sc (.int .i64 0)]) := ⟨zv34⟩
@[go_sem] theorem ty39 : tyv Try.prog 39 = some (false, 1) := by kernel_rfl
instance ity39 : TyF Try.prog 39 false 1 := ⟨ty39⟩
@[go_sem] theorem sl39 : slv Try.prog 39 = some (70, 7, 56) := by kernel_rfl
instance isl39 : SlF Try.prog 39 70 7 56 := ⟨sl39⟩
@[go_sem] theorem ty41 : tyv Try.prog 41 = some (true, 3) := by kernel_rfl
instance ity41 : TyF Try.prog 41 true 3 := ⟨ty41⟩
@[go_sem] theorem fl41_0 : fldv Try.prog 41 0 = some (0, false, 1) := by kernel_rfl
instance ifl41_0 : FlF Try.prog 41 0 0 false 1 := ⟨fl41_0⟩
@[go_sem] theorem fl41_1 : fldv Try.prog 41 1 = some (1, false, 1) := by kernel_rfl
instance ifl41_1 : FlF Try.prog 41 1 1 false 1 := ⟨fl41_1⟩
@[go_sem] theorem fl41_2 : fldv Try.prog 41 2 = some (2, false, 1) := by kernel_rfl
instance ifl41_2 : FlF Try.prog 41 2 2 false 1 := ⟨fl41_2⟩
@[go_sem] theorem pl41 : places Try.prog 41 = some [(0, 1), (1, 1), (2, 1)] := by kernel_rfl
instance ipl41 : PlF Try.prog 41 [(0, 1), (1, 1), (2, 1)] := ⟨pl41⟩
@[go_sem] theorem zv41 : zv Try.prog 41 = some (.agg [.sc (.int .i64 0), .sc (.int .i64 0), .sc (.slice none 0 0)]) := by kernel_rfl
instance izv41 : ZvF Try.prog 41 (.agg [.sc (.int .i64 0), .sc (.int .i64 0), .sc (.slice none 0 0)]) := ⟨zv41⟩
@[go_sem] theorem zo41 : zok Try.prog 41 3 := by simp only [zok, zv41]; rfl
instance izo41 : ZoF Try.prog 41 3 := ⟨zo41⟩
@[go_sem] theorem ty46 : tyv Try.prog 46 = some (true, 4) := by kernel_rfl
instance ity46 : TyF Try.prog 46 true 4 := ⟨ty46⟩
@[go_sem] theorem fl46_0 : fldv Try.prog 46 0 = some (0, false, 1) := by kernel_rfl
instance ifl46_0 : FlF Try.prog 46 0 0 false 1 := ⟨fl46_0⟩
@[go_sem] theorem fl46_1 : fldv Try.prog 46 1 = some (1, true, 3) := by kernel_rfl
instance ifl46_1 : FlF Try.prog 46 1 1 true 3 := ⟨fl46_1⟩
@[go_sem] theorem pl46 : places Try.prog 46 = some [(0, 1), (1, 3)] := by kernel_rfl
instance ipl46 : PlF Try.prog 46 [(0, 1), (1, 3)] := ⟨pl46⟩
@[go_sem] theorem zv46 : zv Try.prog 46 = some (.agg [.sc (.slice none 0 0), .sc (.int .i64 0), .sc (.int .i64 0), .sc (.int .i64 0)]) := by kernel_rfl
instance izv46 : ZvF Try.prog 46 (.agg [.sc (.slice none 0 0), .sc (.int .i64 0), .sc (.int .i64 0), .sc (.int .i64 0)]) := ⟨zv46⟩
@[go_sem] theorem sl51 : slv Try.prog 51 = some (41, 3, 40) := by kernel_rfl
instance isl51 : SlF Try.prog 51 41 3 40 := ⟨sl51⟩
@[go_sem] theorem ty62 : tyv Try.prog 62 = some (true, 2) := by kernel_rfl
instance ity62 : TyF Try.prog 62 true 2 := ⟨ty62⟩
@[go_sem] theorem fl62_0 : fldv Try.prog 62 0 = some (0, false, 1) := by kernel_rfl
instance ifl62_0 : FlF Try.prog 62 0 0 false 1 := ⟨fl62_0⟩
@[go_sem] theorem fl62_1 : fldv Try.prog 62 1 = some (1, false, 1) := by kernel_rfl
instance ifl62_1 : FlF Try.prog 62 1 1 false 1 := ⟨fl62_1⟩
@[go_sem] theorem pl62 : places Try.prog 62 = some [(0, 1), (1, 1)] := by kernel_rfl
instance ipl62 : PlF Try.prog 62 [(0, 1), (1, 1)] := ⟨pl62⟩
theorem eq62 : eqlT Try.prog 62 [.sc (.int .i64 0), .sc (.int .i64 0)] := eqlT_of (by kernel_rfl) ty62 (by kernel_rfl)
instance ieq62 : EqF Try.prog 62 ([.sc (.int .i64 0), .sc (.int .i64 0)]) := ⟨eq62⟩
@[go_sem] theorem zv62 : zv Try.prog 62 = some (.agg [.sc (.int .i64 0), .sc (.int .i64 0)]) := by kernel_rfl
instance izv62 : ZvF Try.prog 62 (.agg [.sc (.int .i64 0), .sc (.int .i64 0)]) := ⟨zv62⟩
@[go_sem] theorem zo62 : zok Try.prog 62 2 := by simp only [zok, zv62]; rfl
instance izo62 : ZoF Try.prog 62 2 := ⟨zo62⟩
@[go_sem] theorem ty64 : tyv Try.prog 64 = some (false, 1) := by kernel_rfl
instance ity64 : TyF Try.prog 64 false 1 := ⟨ty64⟩
@[go_sem] theorem sl64 : slv Try.prog 64 = some (5, 1, 1) := by kernel_rfl
instance isl64 : SlF Try.prog 64 5 1 1 := ⟨sl64⟩
@[go_sem] theorem ty70 : tyv Try.prog 70 = some (true, 7) := by kernel_rfl
instance ity70 : TyF Try.prog 70 true 7 := ⟨ty70⟩
@[go_sem] theorem fl70_0 : fldv Try.prog 70 0 = some (0, false, 1) := by kernel_rfl
instance ifl70_0 : FlF Try.prog 70 0 0 false 1 := ⟨fl70_0⟩
@[go_sem] theorem fl70_1 : fldv Try.prog 70 1 = some (1, false, 1) := by kernel_rfl
instance ifl70_1 : FlF Try.prog 70 1 1 false 1 := ⟨fl70_1⟩
@[go_sem] theorem fl70_2 : fldv Try.prog 70 2 = some (2, false, 1) := by kernel_rfl
instance ifl70_2 : FlF Try.prog 70 2 2 false 1 := ⟨fl70_2⟩
@[go_sem] theorem fl70_3 : fldv Try.prog 70 3 = some (3, false, 1) := by kernel_rfl
instance ifl70_3 : FlF Try.prog 70 3 3 false 1 := ⟨fl70_3⟩
@[go_sem] theorem fl70_4 : fldv Try.prog 70 4 = some (4, true, 3) := by kernel_rfl
instance ifl70_4 : FlF Try.prog 70 4 4 true 3 := ⟨fl70_4⟩
@[go_sem] theorem pl70 : places Try.prog 70 = some [(0, 1), (1, 1), (2, 1), (3, 1), (4, 3)] := by kernel_rfl
instance ipl70 : PlF Try.prog 70 [(0, 1), (1, 1), (2, 1), (3, 1), (4, 3)] := ⟨pl70⟩
@[go_sem] theorem zv70 : zv Try.prog 70 = some (.agg [.sc (.int .i64 0), .sc (.int .i64 0), .sc (.int .i64 0), .sc (.int .i64 0), .sc (.int .i64 0), .sc (.int .i64 0), .sc (.int .i64 0)]) := by kernel_rfl
instance izv70 : ZvF Try.prog 70 (.agg [.sc (.int .i64 0), .sc (.int .i64 0), .sc (.int .i64 0), .sc (.int .i64 0), .sc (.int .i64 0), .sc (.int .i64 0), .sc (.int .i64 0)]) := ⟨zv70⟩
@[go_sem] theorem zo70 : zok Try.prog 70 7 := by simp only [zok, zv70]; rfl
instance izo70 : ZoF Try.prog 70 7 := ⟨zo70⟩
@[go_sem] theorem ty73 : tyv Try.prog 73 = some (true, 5) := by kernel_rfl
instance ity73 : TyF Try.prog 73 true 5 := ⟨ty73⟩
@[go_sem] theorem fl73_0 : fldv Try.prog 73 0 = some (0, false, 1) := by kernel_rfl
instance ifl73_0 : FlF Try.prog 73 0 0 false 1 := ⟨fl73_0⟩
@[go_sem] theorem fl73_1 : fldv Try.prog 73 1 = some (1, false, 1) := by kernel_rfl
instance ifl73_1 : FlF Try.prog 73 1 1 false 1 := ⟨fl73_1⟩
@[go_sem] theorem fl73_2 : fldv Try.prog 73 2 = some (2, false, 1) := by kernel_rfl
instance ifl73_2 : FlF Try.prog 73 2 2 false 1 := ⟨fl73_2⟩
@[go_sem] theorem fl73_3 : fldv Try.prog 73 3 = some (3, false, 1) := by kernel_rfl
instance ifl73_3 : FlF Try.prog 73 3 3 false 1 := ⟨fl73_3⟩
@[go_sem] theorem fl73_4 : fldv Try.prog 73 4 = some (4, false, 1) := by kernel_rfl
instance ifl73_4 : FlF Try.prog 73 4 4 false 1 := ⟨fl73_4⟩
@[go_sem] theorem pl73 : places Try.prog 73 = some [(0, 1), (1, 1), (2, 1), (3, 1), (4, 1)] := by kernel_rfl
instance ipl73 : PlF Try.prog 73 [(0, 1), (1, 1), (2, 1), (3, 1), (4, 1)] := ⟨pl73⟩
theorem eq73 : eqlT Try.prog 73 [.sc (.int .i64 0), .sc (.int .i64 0), .sc (.int .i64 0), .sc (.int .i64 0), .sc (.int .i64 0)] := eqlT_of (by kernel_rfl) ty73 (by kernel_rfl)
instance ieq73 : EqF Try.prog 73 ([.sc (.int .i64 0), .sc (.int .i64 0), .sc (.int .i64 0), .sc (.int .i64 0), .sc (.int .i64 0)]) := ⟨eq73⟩
@[go_sem] theorem zv73 : zv Try.prog 73 = some (.agg [.sc (.int .i64 0), .sc (.int .i64 0), .sc (.int .i64 0), .sc (.int .i64 0), .sc (.int .i64 0)]) := by kernel_rfl
instance izv73 : ZvF Try.prog 73 (.agg [.sc (.int .i64 0), .sc (.int .i64 0), .sc (.int .i64 0), .sc (.int .i64 0), .sc (.int .i64 0)]) := ⟨zv73⟩
@[go_sem] theorem zo73 : zok Try.prog 73 5 := by simp only [zok, zv73]; rfl
instance izo73 : ZoF Try.prog 73 5 := ⟨zo73⟩
@[go_sem] theorem mp81 : mpv Try.prog 81 = some ((.int .i64), 73) := by kernel_rfl
instance imp81 : MpF Try.prog 81 ((.int .i64)) 73 := ⟨mp81⟩
@[go_sem] theorem sl97 : slv Try.prog 97 = some (99, 2, 16) := by kernel_rfl
instance isl97 : SlF Try.prog 97 99 2 16 := ⟨sl97⟩
@[go_sem] theorem fl99_0 : fldv Try.prog 99 0 = some (0, false, 1) := by kernel_rfl
instance ifl99_0 : FlF Try.prog 99 0 0 false 1 := ⟨fl99_0⟩
@[go_sem] theorem fl99_1 : fldv Try.prog 99 1 = some (1, false, 1) := by kernel_rfl
instance ifl99_1 : FlF Try.prog 99 1 1 false 1 := ⟨fl99_1⟩
@[go_sem] theorem pl99 : places Try.prog 99 = some [(0, 1), (1, 1)] := by kernel_rfl
instance ipl99 : PlF Try.prog 99 [(0, 1), (1, 1)] := ⟨pl99⟩
@[go_sem] theorem zv99 : zv Try.prog 99 = some (.agg [.sc (.int .i64 0), .sc (.int .i64 0)]) := by kernel_rfl
instance izv99 : ZvF Try.prog 99 (.agg [.sc (.int .i64 0), .sc (.int .i64 0)]) := ⟨zv99⟩
@[go_sem] theorem zo99 : zok Try.prog 99 2 := by simp only [zok, zv99]; rfl
instance izo99 : ZoF Try.prog 99 2 := ⟨zo99⟩
@[go_sem] theorem ty101 : tyv Try.prog 101 = some (false, 1) := by kernel_rfl
instance ity101 : TyF Try.prog 101 false 1 := ⟨ty101⟩
@[go_sem] theorem zv101 : zv Try.prog 101 = some (.sc (.pointer none)) := by kernel_rfl
@[go_sem] theorem zo101 : zok Try.prog 101 1 := by simp only [zok, zv101]; rfl
instance izo101 : ZoF Try.prog 101 1 := ⟨zo101⟩
@[go_sem] theorem un102 : Try.prog.underlying 102 = some (.int .u64) := by kernel_rfl
instance iun102 : UnF Try.prog 102 (.int .u64) := ⟨un102⟩
@[go_sem] theorem sl106 : slv Try.prog 106 = some (101, 1, 8) := by kernel_rfl
instance isl106 : SlF Try.prog 106 101 1 8 := ⟨sl106⟩
@[go_sem] theorem sl113 : slv Try.prog 113 = some (31, 1, 24) := by kernel_rfl
instance isl113 : SlF Try.prog 113 31 1 24 := ⟨sl113⟩
@[go_sem] theorem un116 : Try.prog.underlying 116 = some (.int .u64) := by kernel_rfl
instance iun116 : UnF Try.prog 116 (.int .u64) := ⟨un116⟩
theorem hb3 : hasBody Try.prog 3 := ⟨Try.f3, _, Try.func3, rfl, by decide +kernel⟩
theorem hb12 : hasBody Try.prog 12 := ⟨Try.f12, _, Try.func12, rfl, by decide +kernel⟩
instance ihb12 : HbF Try.prog 12 := ⟨hb12⟩
theorem hb13 : hasBody Try.prog 13 := ⟨Try.f13, _, Try.func13, rfl, by decide +kernel⟩
instance ihb13 : HbF Try.prog 13 := ⟨hb13⟩
theorem hb14 : hasBody Try.prog 14 := ⟨Try.f14, _, Try.func14, rfl, by decide +kernel⟩
instance ihb14 : HbF Try.prog 14 := ⟨hb14⟩
theorem hb15 : hasBody Try.prog 15 := ⟨Try.f15, _, Try.func15, rfl, by decide +kernel⟩
instance ihb15 : HbF Try.prog 15 := ⟨hb15⟩
theorem hb16 : hasBody Try.prog 16 := ⟨Try.f16, _, Try.func16, rfl, by decide +kernel⟩
instance ihb16 : HbF Try.prog 16 := ⟨hb16⟩
theorem hb17 : hasBody Try.prog 17 := ⟨Try.f17, _, Try.func17, rfl, by decide +kernel⟩
instance ihb17 : HbF Try.prog 17 := ⟨hb17⟩
theorem hb18 : hasBody Try.prog 18 := ⟨Try.f18, _, Try.func18, rfl, by decide +kernel⟩
instance ihb18 : HbF Try.prog 18 := ⟨hb18⟩
theorem hb19 : hasBody Try.prog 19 := ⟨Try.f19, _, Try.func19, rfl, by decide +kernel⟩
instance ihb19 : HbF Try.prog 19 := ⟨hb19⟩
theorem hb20 : hasBody Try.prog 20 := ⟨Try.f20, _, Try.func20, rfl, by decide +kernel⟩
instance ihb20 : HbF Try.prog 20 := ⟨hb20⟩
theorem hb21 : hasBody Try.prog 21 := ⟨Try.f21, _, Try.func21, rfl, by decide +kernel⟩
instance ihb21 : HbF Try.prog 21 := ⟨hb21⟩
theorem hb22 : hasBody Try.prog 22 := ⟨Try.f22, _, Try.func22, rfl, by decide +kernel⟩
instance ihb22 : HbF Try.prog 22 := ⟨hb22⟩
theorem hb23 : hasBody Try.prog 23 := ⟨Try.f23, _, Try.func23, rfl, by decide +kernel⟩
instance ihb23 : HbF Try.prog 23 := ⟨hb23⟩
theorem hb24 : hasBody Try.prog 24 := ⟨Try.f24, _, Try.func24, rfl, by decide +kernel⟩
instance ihb24 : HbF Try.prog 24 := ⟨hb24⟩
theorem hb25 : hasBody Try.prog 25 := ⟨Try.f25, _, Try.func25, rfl, by decide +kernel⟩
instance ihb25 : HbF Try.prog 25 := ⟨hb25⟩
theorem hb26 : hasBody Try.prog 26 := ⟨Try.f26, _, Try.func26, rfl, by decide +kernel⟩
instance ihb26 : HbF Try.prog 26 := ⟨hb26⟩
theorem hb27 : hasBody Try.prog 27 := ⟨Try.f27, _, Try.func27, rfl, by decide +kernel⟩
instance ihb27 : HbF Try.prog 27 := ⟨hb27⟩
theorem hb28 : hasBody Try.prog 28 := ⟨Try.f28, _, Try.func28, rfl, by decide +kernel⟩
instance ihb28 : HbF Try.prog 28 := ⟨hb28⟩
theorem hb29 : hasBody Try.prog 29 := ⟨Try.f29, _, Try.func29, rfl, by decide +kernel⟩
instance ihb29 : HbF Try.prog 29 := ⟨hb29⟩
theorem hb30 : hasBody Try.prog 30 := ⟨Try.f30, _, Try.func30, rfl, by decide +kernel⟩
instance ihb30 : HbF Try.prog 30 := ⟨hb30⟩
theorem hb31 : hasBody Try.prog 31 := ⟨Try.f31, _, Try.func31, rfl, by decide +kernel⟩
instance ihb31 : HbF Try.prog 31 := ⟨hb31⟩
theorem hb32 : hasBody Try.prog 32 := ⟨Try.f32, _, Try.func32, rfl, by decide +kernel⟩
instance ihb32 : HbF Try.prog 32 := ⟨hb32⟩
theorem hb33 : hasBody Try.prog 33 := ⟨Try.f33, _, Try.func33, rfl, by decide +kernel⟩
instance ihb33 : HbF Try.prog 33 := ⟨hb33⟩
theorem hb34 : hasBody Try.prog 34 := ⟨Try.f34, _, Try.func34, rfl, by decide +kernel⟩
instance ihb34 : HbF Try.prog 34 := ⟨hb34⟩
theorem hb35 : hasBody Try.prog 35 := ⟨Try.f35, _, Try.func35, rfl, by decide +kernel⟩
instance ihb35 : HbF Try.prog 35 := ⟨hb35⟩
theorem hb36 : hasBody Try.prog 36 := ⟨Try.f36, _, Try.func36, rfl, by decide +kernel⟩
instance ihb36 : HbF Try.prog 36 := ⟨hb36⟩
theorem hb37 : hasBody Try.prog 37 := ⟨Try.f37, _, Try.func37, rfl, by decide +kernel⟩
instance ihb37 : HbF Try.prog 37 := ⟨hb37⟩
theorem hb38 : hasBody Try.prog 38 := ⟨Try.f38, _, Try.func38, rfl, by decide +kernel⟩
instance ihb38 : HbF Try.prog 38 := ⟨hb38⟩
theorem hb39 : hasBody Try.prog 39 := ⟨Try.f39, _, Try.func39, rfl, by decide +kernel⟩
instance ihb39 : HbF Try.prog 39 := ⟨hb39⟩
theorem hb41 : hasBody Try.prog 41 := ⟨Try.f41, _, Try.func41, rfl, by decide +kernel⟩
instance ihb41 : HbF Try.prog 41 := ⟨hb41⟩
theorem hb43 : hasBody Try.prog 43 := ⟨Try.f43, _, Try.func43, rfl, by decide +kernel⟩
instance ihb43 : HbF Try.prog 43 := ⟨hb43⟩
theorem hb44 : hasBody Try.prog 44 := ⟨Try.f44, _, Try.func44, rfl, by decide +kernel⟩
instance ihb44 : HbF Try.prog 44 := ⟨hb44⟩
theorem hb45 : hasBody Try.prog 45 := ⟨Try.f45, _, Try.func45, rfl, by decide +kernel⟩
instance ihb45 : HbF Try.prog 45 := ⟨hb45⟩
theorem hb46 : hasBody Try.prog 46 := ⟨Try.f46, _, Try.func46, rfl, by decide +kernel⟩
instance ihb46 : HbF Try.prog 46 := ⟨hb46⟩
theorem hb47 : hasBody Try.prog 47 := ⟨Try.f47, _, Try.func47, rfl, by decide +kernel⟩
instance ihb47 : HbF Try.prog 47 := ⟨hb47⟩
theorem hb48 : hasBody Try.prog 48 := ⟨Try.f48, _, Try.func48, rfl, by decide +kernel⟩
instance ihb48 : HbF Try.prog 48 := ⟨hb48⟩
theorem hb49 : hasBody Try.prog 49 := ⟨Try.f49, _, Try.func49, rfl, by decide +kernel⟩
instance ihb49 : HbF Try.prog 49 := ⟨hb49⟩
theorem hb50 : hasBody Try.prog 50 := ⟨Try.f50, _, Try.func50, rfl, by decide +kernel⟩
instance ihb50 : HbF Try.prog 50 := ⟨hb50⟩
theorem hb51 : hasBody Try.prog 51 := ⟨Try.f51, _, Try.func51, rfl, by decide +kernel⟩
instance ihb51 : HbF Try.prog 51 := ⟨hb51⟩
theorem hb52 : hasBody Try.prog 52 := ⟨Try.f52, _, Try.func52, rfl, by decide +kernel⟩
instance ihb52 : HbF Try.prog 52 := ⟨hb52⟩
theorem hb53 : hasBody Try.prog 53 := ⟨Try.f53, _, Try.func53, rfl, by decide +kernel⟩
instance ihb53 : HbF Try.prog 53 := ⟨hb53⟩
theorem hb54 : hasBody Try.prog 54 := ⟨Try.f54, _, Try.func54, rfl, by decide +kernel⟩
instance ihb54 : HbF Try.prog 54 := ⟨hb54⟩
theorem hb55 : hasBody Try.prog 55 := ⟨Try.f55, _, Try.func55, rfl, by decide +kernel⟩
instance ihb55 : HbF Try.prog 55 := ⟨hb55⟩
theorem hb56 : hasBody Try.prog 56 := ⟨Try.f56, _, Try.func56, rfl, by decide +kernel⟩
instance ihb56 : HbF Try.prog 56 := ⟨hb56⟩
theorem hb57 : hasBody Try.prog 57 := ⟨Try.f57, _, Try.func57, rfl, by decide +kernel⟩
instance ihb57 : HbF Try.prog 57 := ⟨hb57⟩
theorem hb58 : hasBody Try.prog 58 := ⟨Try.f58, _, Try.func58, rfl, by decide +kernel⟩
instance ihb58 : HbF Try.prog 58 := ⟨hb58⟩
theorem hb59 : hasBody Try.prog 59 := ⟨Try.f59, _, Try.func59, rfl, by decide +kernel⟩
instance ihb59 : HbF Try.prog 59 := ⟨hb59⟩
theorem hb60 : hasBody Try.prog 60 := ⟨Try.f60, _, Try.func60, rfl, by decide +kernel⟩
instance ihb60 : HbF Try.prog 60 := ⟨hb60⟩
theorem hb61 : hasBody Try.prog 61 := ⟨Try.f61, _, Try.func61, rfl, by decide +kernel⟩
instance ihb61 : HbF Try.prog 61 := ⟨hb61⟩
theorem hb62 : hasBody Try.prog 62 := ⟨Try.f62, _, Try.func62, rfl, by decide +kernel⟩
instance ihb62 : HbF Try.prog 62 := ⟨hb62⟩
theorem hb63 : hasBody Try.prog 63 := ⟨Try.f63, _, Try.func63, rfl, by decide +kernel⟩
instance ihb63 : HbF Try.prog 63 := ⟨hb63⟩
theorem hb64 : hasBody Try.prog 64 := ⟨Try.f64, _, Try.func64, rfl, by decide +kernel⟩
instance ihb64 : HbF Try.prog 64 := ⟨hb64⟩
theorem hb65 : hasBody Try.prog 65 := ⟨Try.f65, _, Try.func65, rfl, by decide +kernel⟩
instance ihb65 : HbF Try.prog 65 := ⟨hb65⟩
theorem hb66 : hasBody Try.prog 66 := ⟨Try.f66, _, Try.func66, rfl, by decide +kernel⟩
instance ihb66 : HbF Try.prog 66 := ⟨hb66⟩
theorem hb67 : hasBody Try.prog 67 := ⟨Try.f67, _, Try.func67, rfl, by decide +kernel⟩
instance ihb67 : HbF Try.prog 67 := ⟨hb67⟩
theorem hb68 : hasBody Try.prog 68 := ⟨Try.f68, _, Try.func68, rfl, by decide +kernel⟩
instance ihb68 : HbF Try.prog 68 := ⟨hb68⟩
theorem hb69 : hasBody Try.prog 69 := ⟨Try.f69, _, Try.func69, rfl, by decide +kernel⟩
instance ihb69 : HbF Try.prog 69 := ⟨hb69⟩
theorem hb70 : hasBody Try.prog 70 := ⟨Try.f70, _, Try.func70, rfl, by decide +kernel⟩
instance ihb70 : HbF Try.prog 70 := ⟨hb70⟩
theorem hb71 : hasBody Try.prog 71 := ⟨Try.f71, _, Try.func71, rfl, by decide +kernel⟩
instance ihb71 : HbF Try.prog 71 := ⟨hb71⟩
theorem hb72 : hasBody Try.prog 72 := ⟨Try.f72, _, Try.func72, rfl, by decide +kernel⟩
instance ihb72 : HbF Try.prog 72 := ⟨hb72⟩
theorem hb73 : hasBody Try.prog 73 := ⟨Try.f73, _, Try.func73, rfl, by decide +kernel⟩
instance ihb73 : HbF Try.prog 73 := ⟨hb73⟩
theorem hb74 : hasBody Try.prog 74 := ⟨Try.f74, _, Try.func74, rfl, by decide +kernel⟩
instance ihb74 : HbF Try.prog 74 := ⟨hb74⟩
theorem hb75 : hasBody Try.prog 75 := ⟨Try.f75, _, Try.func75, rfl, by decide +kernel⟩
instance ihb75 : HbF Try.prog 75 := ⟨hb75⟩
theorem hb78 : hasBody Try.prog 78 := ⟨Try.f78, _, Try.func78, rfl, by decide +kernel⟩
instance ihb78 : HbF Try.prog 78 := ⟨hb78⟩
theorem hb80 : hasBody Try.prog 80 := ⟨Try.f80, _, Try.func80, rfl, by decide +kernel⟩
instance ihb80 : HbF Try.prog 80 := ⟨hb80⟩
theorem hb83 : hasBody Try.prog 83 := ⟨Try.f83, _, Try.func83, rfl, by decide +kernel⟩
instance ihb83 : HbF Try.prog 83 := ⟨hb83⟩
theorem hb84 : hasBody Try.prog 84 := ⟨Try.f84, _, Try.func84, rfl, by decide +kernel⟩
instance ihb84 : HbF Try.prog 84 := ⟨hb84⟩
theorem hb85 : hasBody Try.prog 85 := ⟨Try.f85, _, Try.func85, rfl, by decide +kernel⟩
instance ihb85 : HbF Try.prog 85 := ⟨hb85⟩
theorem hb86 : hasBody Try.prog 86 := ⟨Try.f86, _, Try.func86, rfl, by decide +kernel⟩
instance ihb86 : HbF Try.prog 86 := ⟨hb86⟩
theorem hb87 : hasBody Try.prog 87 := ⟨Try.f87, _, Try.func87, rfl, by decide +kernel⟩
instance ihb87 : HbF Try.prog 87 := ⟨hb87⟩
theorem hb88 : hasBody Try.prog 88 := ⟨Try.f88, _, Try.func88, rfl, by decide +kernel⟩
instance ihb88 : HbF Try.prog 88 := ⟨hb88⟩
theorem hb89 : hasBody Try.prog 89 := ⟨Try.f89, _, Try.func89, rfl, by decide +kernel⟩
instance ihb89 : HbF Try.prog 89 := ⟨hb89⟩
theorem hb90 : hasBody Try.prog 90 := ⟨Try.f90, _, Try.func90, rfl, by decide +kernel⟩
theorem hb91 : hasBody Try.prog 91 := ⟨Try.f91, _, Try.func91, rfl, by decide +kernel⟩
instance ihb91 : HbF Try.prog 91 := ⟨hb91⟩
theorem hb92 : hasBody Try.prog 92 := ⟨Try.f92, _, Try.func92, rfl, by decide +kernel⟩
instance ihb92 : HbF Try.prog 92 := ⟨hb92⟩
theorem hb93 : hasBody Try.prog 93 := ⟨Try.f93, _, Try.func93, rfl, by decide +kernel⟩
instance ihb93 : HbF Try.prog 93 := ⟨hb93⟩
theorem hb94 : hasBody Try.prog 94 := ⟨Try.f94, _, Try.func94, rfl, by decide +kernel⟩
instance ihb94 : HbF Try.prog 94 := ⟨hb94⟩
theorem hb103 : hasBody Try.prog 103 := ⟨Try.f103, _, Try.func103, rfl, by decide +kernel⟩
instance ihb103 : HbF Try.prog 103 := ⟨hb103⟩
theorem hb108 : hasBody Try.prog 108 := ⟨Try.f108, _, Try.func108, rfl, by decide +kernel⟩
instance ihb108 : HbF Try.prog 108 := ⟨hb108⟩
theorem hb109 : hasBody Try.prog 109 := ⟨Try.f109, _, Try.func109, rfl, by decide +kernel⟩
instance ihb109 : HbF Try.prog 109 := ⟨hb109⟩
end Go.Proofs
