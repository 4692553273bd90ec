/- Facts about the types and functions of this seat, for the abstract machine (written by gentypes.py). -/
import Derived.Test.YtndpgjcmmjeoiaaGreatMe
import Derived.Test.YtndpgjcmmjeoiaaGreatProg
import Derived.KernelRfl
set_option maxRecDepth 8000
namespace Go.Proofs
open Go.AM
theorem mixed : Tryz.prog.follows .mixedOrders = true := by kernel_rfl
@[go_sem] theorem ty3 : tyv Tryz.prog 3 = some (false, 1) := by kernel_rfl
instance ity3 : TyF Tryz.prog 3 false 1 := ⟨ty3⟩
@[go_sem] theorem un3 : Tryz.prog.underlying 3 = some (.int .i64) := by kernel_rfl
instance iun3 : UnF Tryz.prog 3 (.int .i64) := ⟨un3⟩
@[go_sem] theorem zv3 : zv Tryz.prog 3 = some (.sc (.int .i64 0)) := by kernel_rfl
instance izv3 : ZvF Tryz.prog 3 (.sc (.int .i64 0)) := ⟨zv3⟩
@[go_sem] theorem zo3 : zok Tryz.prog 3 1 := by simp only [zok, zv3]; rfl
instance izo3 : ZoF Tryz.prog 3 1 := ⟨zo3⟩
@[go_sem] theorem ty4 : tyv Tryz.prog 4 = some (false, 1) := by kernel_rfl
instance ity4 : TyF Tryz.prog 4 false 1 := ⟨ty4⟩
@[go_sem] theorem zv4 : zv Tryz.prog 4 = some (.sc (.bool false)) := by kernel_rfl
instance izv4 : ZvF Tryz.prog 4 (.sc (.bool false)) := ⟨zv4⟩
@[go_sem] theorem ty22 : tyv Tryz.prog 22 = some (false, 1) := by kernel_rfl
instance ity22 : TyF Tryz.prog 22 false 1 := ⟨ty22⟩
@[go_sem] theorem sl22 : slv Tryz.prog 22 = some (87, 2, 16) := by kernel_rfl
instance isl22 : SlF Tryz.prog 22 87 2 16 := ⟨sl22⟩
@[go_sem] theorem ty24 : tyv Tryz.prog 24 = some (true, 3) := by kernel_rfl
instance ity24 : TyF Tryz.prog 24 true 3 := ⟨ty24⟩
@[go_sem] theorem fl24_0 : fldv Tryz.prog 24 0 = some (0, false, 1) := by kernel_rfl
instance ifl24_0 : FlF Tryz.prog 24 0 0 false 1 := ⟨fl24_0⟩
@[go_sem] theorem fl24_1 : fldv Tryz.prog 24 1 = some (1, false, 1) := by kernel_rfl
instance ifl24_1 : FlF Tryz.prog 24 1 1 false 1 := ⟨fl24_1⟩
@[go_sem] theorem fl24_2 : fldv Tryz.prog 24 2 = some (2, false, 1) := by kernel_rfl
instance ifl24_2 : FlF Tryz.prog 24 2 2 false 1 := ⟨fl24_2⟩
@[go_sem] theorem pl24 : places Tryz.prog 24 = some [(0, 1), (1, 1), (2, 1)] := by kernel_rfl
instance ipl24 : PlF Tryz.prog 24 [(0, 1), (1, 1), (2, 1)] := ⟨pl24⟩
theorem eq24 : eqlT Tryz.prog 24 [.sc (.int .i64 0), .sc (.int .i64 0), .sc (.int .i64 0)] := eqlT_of (by kernel_rfl) ty24 (by kernel_rfl)
instance ieq24 : EqF Tryz.prog 24 ([.sc (.int .i64 0), .sc (.int .i64 0), .sc (.int .i64 0)]) := ⟨eq24⟩
@[go_sem] theorem zv24 : zv Tryz.prog 24 = some (.agg [.sc (.int .i64 0), .sc (.int .i64 0), .sc (.int .i64 0)]) := by kernel_rfl
instance izv24 : ZvF Tryz.prog 24 (.agg [.sc (.int .i64 0), .sc (.int .i64 0), .sc (.int .i64 0)]) := ⟨zv24⟩
@[go_sem] theorem ty26 : tyv Tryz.prog 26 = some (true, 4) := by kernel_rfl
instance ity26 : TyF Tryz.prog 26 true 4 := ⟨ty26⟩
@[go_sem] theorem fl26_0 : fldv Tryz.prog 26 0 = some (0, false, 1) := by kernel_rfl
instance ifl26_0 : FlF Tryz.prog 26 0 0 false 1 := ⟨fl26_0⟩
@[go_sem] theorem fl26_1 : fldv Tryz.prog 26 1 = some (1, true, 3) := by kernel_rfl
instance ifl26_1 : FlF Tryz.prog 26 1 1 true 3 := ⟨fl26_1⟩
@[go_sem] theorem pl26 : places Tryz.prog 26 = some [(0, 1), (1, 3)] := by kernel_rfl
instance ipl26 : PlF Tryz.prog 26 [(0, 1), (1, 3)] := ⟨pl26⟩
@[go_sem] theorem zv26 : zv Tryz.prog 26 = some (.agg [.sc (.slice none 0 0), .sc (.int .i64 0), .sc (.int .i64 0), .sc (.int .i64 0)]) := by kernel_rfl
instance izv26 : ZvF Tryz.prog 26 (.agg [.sc (.slice none 0 0), .sc (.int .i64 0), .sc (.int .i64 0), .sc (.int .i64 0)]) := ⟨zv26⟩
@[go_sem] theorem ty28 : tyv Tryz.prog 28 = some (false, 1) := by kernel_rfl
instance ity28 : TyF Tryz.prog 28 false 1 := ⟨ty28⟩
@[go_sem] theorem sl28 : slv Tryz.prog 28 = some (129, 3, 40) := by kernel_rfl
instance isl28 : SlF Tryz.prog 28 129 3 40 := ⟨sl28⟩
@[go_sem] theorem zv28 : zv Tryz.prog 28 = some (.sc (.slice none 0 0)) := by kernel_rfl
@[go_sem] theorem zo28 : zok Tryz.prog 28 1 := by simp only [zok, zv28]; rfl
instance izo28 : ZoF Tryz.prog 28 1 := ⟨zo28⟩
@[go_sem] theorem sl29 : slv Tryz.prog 29 = some (124, 2, 16) := by kernel_rfl
instance isl29 : SlF Tryz.prog 29 124 2 16 := ⟨sl29⟩
@[go_sem] theorem ty30 : tyv Tryz.prog 30 = some (false, 1) := by kernel_rfl
instance ity30 : TyF Tryz.prog 30 false 1 := ⟨ty30⟩
@[go_sem] theorem sl30 : slv Tryz.prog 30 = some (124, 2, 16) := by kernel_rfl
instance isl30 : SlF Tryz.prog 30 124 2 16 := ⟨sl30⟩
@[go_sem] theorem zv30 : zv Tryz.prog 30 = some (.sc (.slice none 0 0)) := by kernel_rfl
@[go_sem] theorem zo30 : zok Tryz.prog 30 1 := by simp only [zok, zv30]; rfl
instance izo30 : ZoF Tryz.prog 30 1 := ⟨zo30⟩
@[go_sem] theorem sl32 : slv Tryz.prog 32 = some (28, 1, 24) := by kernel_rfl
instance isl32 : SlF Tryz.prog 32 28 1 24 := ⟨sl32⟩
@[go_sem] theorem ty37 : tyv Tryz.prog 37 = some (false, 1) := by kernel_rfl
instance ity37 : TyF Tryz.prog 37 false 1 := ⟨ty37⟩
@[go_sem] theorem sl37 : slv Tryz.prog 37 = some (68, 2, 16) := by kernel_rfl
instance isl37 : SlF Tryz.prog 37 68 2 16 := ⟨sl37⟩
@[go_sem] theorem ty39 : tyv Tryz.prog 39 = some (true, 4) := by kernel_rfl
instance ity39 : TyF Tryz.prog 39 true 4 := ⟨ty39⟩
@[go_sem] theorem fl39_0 : fldv Tryz.prog 39 0 = some (0, false, 1) := by kernel_rfl
instance ifl39_0 : FlF Tryz.prog 39 0 0 false 1 := ⟨fl39_0⟩
@[go_sem] theorem fl39_1 : fldv Tryz.prog 39 1 = some (1, false, 1) := by kernel_rfl
instance ifl39_1 : FlF Tryz.prog 39 1 1 false 1 := ⟨fl39_1⟩
@[go_sem] theorem fl39_2 : fldv Tryz.prog 39 2 = some (2, false, 1) := by kernel_rfl
instance ifl39_2 : FlF Tryz.prog 39 2 2 false 1 := ⟨fl39_2⟩
@[go_sem] theorem fl39_3 : fldv Tryz.prog 39 3 = some (3, false, 1) := by kernel_rfl
instance ifl39_3 : FlF Tryz.prog 39 3 3 false 1 := ⟨fl39_3⟩
@[go_sem] theorem pl39 : places Tryz.prog 39 = some [(0, 1), (1, 1), (2, 1), (3, 1)] := by kernel_rfl
instance ipl39 : PlF Tryz.prog 39 [(0, 1), (1, 1), (2, 1), (3, 1)] := ⟨pl39⟩
@[go_sem] theorem zv39 : zv Tryz.prog 39 = some (.agg [.sc (.bool false), .sc (.slice none 0 0), .sc (.slice none 0 0), .sc (.slice none 0 0)]) := by kernel_rfl
instance izv39 : ZvF Tryz.prog 39 (.agg [.sc (.bool false), .sc (.slice none 0 0), .sc (.slice none 0 0), .sc (.slice none 0 0)]) := ⟨zv39⟩
@[go_sem] theorem sl40 : slv Tryz.prog 40 = some (60, 18, 288) := by kernel_rfl
instance isl40 : SlF Tryz.prog 40 60 18 288 := ⟨sl40⟩
@[go_sem] theorem ty46 : tyv Tryz.prog 46 = some (false, 1) := by kernel_rfl
instance ity46 : TyF Tryz.prog 46 false 1 := ⟨ty46⟩
@[go_sem] theorem sl46 : slv Tryz.prog 46 = some (3, 1, 8) := by kernel_rfl
instance isl46 : SlF Tryz.prog 46 3 1 8 := ⟨sl46⟩
@[go_sem] theorem zv46 : zv Tryz.prog 46 = some (.sc (.slice none 0 0)) := by kernel_rfl
@[go_sem] theorem zo46 : zok Tryz.prog 46 1 := by simp only [zok, zv46]; rfl
instance izo46 : ZoF Tryz.prog 46 1 := ⟨zo46⟩
@[go_sem] theorem sl48 : slv Tryz.prog 48 = some (137, 4, 48) := by kernel_rfl
instance isl48 : SlF Tryz.prog 48 137 4 48 := ⟨sl48⟩
@[go_sem] theorem ty49 : tyv Tryz.prog 49 = some (false, 1) := by kernel_rfl
instance ity49 : TyF Tryz.prog 49 false 1 := ⟨ty49⟩
@[go_sem] theorem sl49 : slv Tryz.prog 49 = some (137, 4, 48) := by kernel_rfl
instance isl49 : SlF Tryz.prog 49 137 4 48 := ⟨sl49⟩
@[go_sem] theorem ty52 : tyv Tryz.prog 52 = some (true, 2) := by kernel_rfl
instance ity52 : TyF Tryz.prog 52 true 2 := ⟨ty52⟩
@[go_sem] theorem fl52_0 : fldv Tryz.prog 52 0 = some (0, false, 1) := by kernel_rfl
instance ifl52_0 : FlF Tryz.prog 52 0 0 false 1 := ⟨fl52_0⟩
@[go_sem] theorem fl52_1 : fldv Tryz.prog 52 1 = some (1, false, 1) := by kernel_rfl
instance ifl52_1 : FlF Tryz.prog 52 1 1 false 1 := ⟨fl52_1⟩
@[go_sem] theorem pl52 : places Tryz.prog 52 = some [(0, 1), (1, 1)] := by kernel_rfl
instance ipl52 : PlF Tryz.prog 52 [(0, 1), (1, 1)] := ⟨pl52⟩
@[go_sem] theorem zv52 : zv Tryz.prog 52 = some (.agg [.sc (.slice none 0 0), .sc (.slice none 0 0)]) := by kernel_rfl
instance izv52 : ZvF Tryz.prog 52 (.agg [.sc (.slice none 0 0), .sc (.slice none 0 0)]) := ⟨zv52⟩
@[go_sem] theorem ty54 : tyv Tryz.prog 54 = some (true, 16) := by kernel_rfl
instance ity54 : TyF Tryz.prog 54 true 16 := ⟨ty54⟩
@[go_sem] theorem fl54_0 : fldv Tryz.prog 54 0 = some (0, false, 1) := by kernel_rfl
@[go_sem] theorem fl54_3 : fldv Tryz.prog 54 3 = some (6, false, 1) := by kernel_rfl
instance ifl54_3 : FlF Tryz.prog 54 3 6 false 1 := ⟨fl54_3⟩
@[go_sem] theorem fl54_4 : fldv Tryz.prog 54 4 = some (7, true, 2) := by kernel_rfl
@[go_sem] theorem fl54_5 : fldv Tryz.prog 54 5 = some (9, false, 1) := by kernel_rfl
@[go_sem] theorem fl54_6 : fldv Tryz.prog 54 6 = some (10, true, 2) := by kernel_rfl
@[go_sem] theorem pl54 : places Tryz.prog 54 = some [(0, 1), (1, 4), (5, 1), (6, 1), (7, 2), (9, 1), (10, 2), (12, 4)] := by kernel_rfl
instance ipl54 : PlF Tryz.prog 54 [(0, 1), (1, 4), (5, 1), (6, 1), (7, 2), (9, 1), (10, 2), (12, 4)] := ⟨pl54⟩
@[go_sem] theorem zv54 : zv Tryz.prog 54 = some (.agg [.sc (.int .i64 0), .sc (.slice none 0 0), .sc (.int .i64 0), .sc (.int .i64 0), .sc (.int .i64 0), .sc (.slice none 0 0), .sc (.slice none 0 0), .sc (.slice none 0 0), .sc (.slice none 0 0), .sc (.bool false), .sc (.slice none 0 0), .sc (.slice none 0 0), .sc (.bool false), .sc (.slice none 0 0), .sc (.slice none 0 0), .sc (.slice none 0 0)]) := by kernel_rfl
instance izv54 : ZvF Tryz.prog 54 (.agg [.sc (.int .i64 0), .sc (.slice none 0 0), .sc (.int .i64 0), .sc (.int .i64 0), .sc (.int .i64 0), .sc (.slice none 0 0), .sc (.slice none 0 0), .sc (.slice none 0 0), .sc (.slice none 0 0), .sc (.bool false), .sc (.slice none 0 0), .sc (.slice none 0 0), .sc (.bool false), .sc (.slice none 0 0), .sc (.slice none 0 0), .sc (.slice none 0 0)]) := ⟨zv54⟩
@[go_sem] theorem ty60 : tyv Tryz.prog 60 = some (true, 18) := by kernel_rfl
instance ity60 : TyF Tryz.prog 60 true 18 := ⟨ty60⟩
@[go_sem] theorem fl60_0 : fldv Tryz.prog 60 0 = some (0, false, 1) := by kernel_rfl
instance ifl60_0 : FlF Tryz.prog 60 0 0 false 1 := ⟨fl60_0⟩
@[go_sem] theorem fl60_1 : fldv Tryz.prog 60 1 = some (1, false, 1) := by kernel_rfl
instance ifl60_1 : FlF Tryz.prog 60 1 1 false 1 := ⟨fl60_1⟩
@[go_sem] theorem fl60_2 : fldv Tryz.prog 60 2 = some (2, false, 1) := by kernel_rfl
instance ifl60_2 : FlF Tryz.prog 60 2 2 false 1 := ⟨fl60_2⟩
@[go_sem] theorem fl60_6 : fldv Tryz.prog 60 6 = some (7, true, 2) := by kernel_rfl
@[go_sem] theorem fl60_12 : fldv Tryz.prog 60 12 = some (16, false, 1) := by kernel_rfl
instance ifl60_12 : FlF Tryz.prog 60 12 16 false 1 := ⟨fl60_12⟩
@[go_sem] theorem fl60_13 : fldv Tryz.prog 60 13 = some (17, false, 1) := by kernel_rfl
instance ifl60_13 : FlF Tryz.prog 60 13 17 false 1 := ⟨fl60_13⟩
@[go_sem] theorem pl60 : places Tryz.prog 60 = some [(0, 1), (1, 1), (2, 1), (3, 2), (5, 1), (6, 1), (7, 2), (9, 2), (11, 1), (12, 2), (14, 1), (15, 1), (16, 1), (17, 1)] := by kernel_rfl
instance ipl60 : PlF Tryz.prog 60 [(0, 1), (1, 1), (2, 1), (3, 2), (5, 1), (6, 1), (7, 2), (9, 2), (11, 1), (12, 2), (14, 1), (15, 1), (16, 1), (17, 1)] := ⟨pl60⟩
@[go_sem] theorem zv60 : zv Tryz.prog 60 = some (.agg [.sc (.int .i64 0), .sc (.int .i64 0), .sc (.int .i64 0), .sc (.int .i64 0), .sc (.int .i64 0), .sc (.int .i64 0), .sc (.int .i64 0), .sc (.slice none 0 0), .sc (.slice none 0 0), .sc (.slice none 0 0), .sc (.slice none 0 0), .sc (.bool false), .sc (.slice none 0 0), .sc (.slice none 0 0), .sc (.slice none 0 0), .sc (.slice none 0 0), .sc (.slice none 0 0), .sc (.bool false)]) := by kernel_rfl
instance izv60 : ZvF Tryz.prog 60 (.agg [.sc (.int .i64 0), .sc (.int .i64 0), .sc (.int .i64 0), .sc (.int .i64 0), .sc (.int .i64 0), .sc (.int .i64 0), .sc (.int .i64 0), .sc (.slice none 0 0), .sc (.slice none 0 0), .sc (.slice none 0 0), .sc (.slice none 0 0), .sc (.bool false), .sc (.slice none 0 0), .sc (.slice none 0 0), .sc (.slice none 0 0), .sc (.slice none 0 0), .sc (.slice none 0 0), .sc (.bool false)]) := ⟨zv60⟩
@[go_sem] theorem zo60 : zok Tryz.prog 60 18 := by simp only [zok, zv60]; rfl
instance izo60 : ZoF Tryz.prog 60 18 := ⟨zo60⟩
@[go_sem] theorem ty68 : tyv Tryz.prog 68 = some (true, 2) := by kernel_rfl
instance ity68 : TyF Tryz.prog 68 true 2 := ⟨ty68⟩
@[go_sem] theorem fl68_0 : fldv Tryz.prog 68 0 = some (0, false, 1) := by kernel_rfl
instance ifl68_0 : FlF Tryz.prog 68 0 0 false 1 := ⟨fl68_0⟩
@[go_sem] theorem fl68_1 : fldv Tryz.prog 68 1 = some (1, false, 1) := by kernel_rfl
instance ifl68_1 : FlF Tryz.prog 68 1 1 false 1 := ⟨fl68_1⟩
@[go_sem] theorem pl68 : places Tryz.prog 68 = some [(0, 1), (1, 1)] := by kernel_rfl
instance ipl68 : PlF Tryz.prog 68 [(0, 1), (1, 1)] := ⟨pl68⟩
@[go_sem] theorem zv68 : zv Tryz.prog 68 = some (.agg [.sc (.int .i64 0), .sc (.bool false)]) := by kernel_rfl
instance izv68 : ZvF Tryz.prog 68 (.agg [.sc (.int .i64 0), .sc (.bool false)]) := ⟨zv68⟩
@[go_sem] theorem zo68 : zok Tryz.prog 68 2 := by simp only [zok, zv68]; rfl
instance izo68 : ZoF Tryz.prog 68 2 := ⟨zo68⟩
@[go_sem] theorem ty79 : tyv Tryz.prog 79 = some (true, 4) := by kernel_rfl
instance ity79 : TyF Tryz.prog 79 true 4 := ⟨ty79⟩
@[go_sem] theorem fl79_0 : fldv Tryz.prog 79 0 = some (0, false, 1) := by kernel_rfl
instance ifl79_0 : FlF Tryz.prog 79 0 0 false 1 := ⟨fl79_0⟩
@[go_sem] theorem fl79_1 : fldv Tryz.prog 79 1 = some (1, true, 3) := by kernel_rfl
instance ifl79_1 : FlF Tryz.prog 79 1 1 true 3 := ⟨fl79_1⟩
@[go_sem] theorem pl79 : places Tryz.prog 79 = some [(0, 1), (1, 3)] := by kernel_rfl
instance ipl79 : PlF Tryz.prog 79 [(0, 1), (1, 3)] := ⟨pl79⟩
@[go_sem] theorem zv79 : zv Tryz.prog 79 = some (.agg [.sc (.slice none 0 0), .sc (.int .i64 0), .sc (.int .i64 0), .sc (.int .i64 0)]) := by kernel_rfl
instance izv79 : ZvF Tryz.prog 79 (.agg [.sc (.slice none 0 0), .sc (.int .i64 0), .sc (.int .i64 0), .sc (.int .i64 0)]) := ⟨zv79⟩
@[go_sem] theorem zo79 : zok Tryz.prog 79 4 := by simp only [zok, zv79]; rfl
instance izo79 : ZoF Tryz.prog 79 4 := ⟨zo79⟩
@[go_sem] theorem ty87 : tyv Tryz.prog 87 = some (true, 2) := by kernel_rfl
instance ity87 : TyF Tryz.prog 87 true 2 := ⟨ty87⟩
@[go_sem] theorem fl87_0 : fldv Tryz.prog 87 0 = some (0, false, 1) := by kernel_rfl
instance ifl87_0 : FlF Tryz.prog 87 0 0 false 1 := ⟨fl87_0⟩
@[go_sem] theorem fl87_1 : fldv Tryz.prog 87 1 = some (1, false, 1) := by kernel_rfl
instance ifl87_1 : FlF Tryz.prog 87 1 1 false 1 := ⟨fl87_1⟩
@[go_sem] theorem pl87 : places Tryz.prog 87 = some [(0, 1), (1, 1)] := by kernel_rfl
instance ipl87 : PlF Tryz.prog 87 [(0, 1), (1, 1)] := ⟨pl87⟩
@[go_sem] theorem zv87 : zv Tryz.prog 87 = some (.agg [.sc (.int .i64 0), .sc (.int .i64 0)]) := by kernel_rfl
instance izv87 : ZvF Tryz.prog 87 (.agg [.sc (.int .i64 0), .sc (.int .i64 0)]) := ⟨zv87⟩
@[go_sem] theorem zo87 : zok Tryz.prog 87 2 := by simp only [zok, zv87]; rfl
instance izo87 : ZoF Tryz.prog 87 2 := ⟨zo87⟩
@[go_sem] theorem ty124 : tyv Tryz.prog 124 = some (true, 2) := by kernel_rfl
instance ity124 : TyF Tryz.prog 124 true 2 := ⟨ty124⟩
@[go_sem] theorem fl124_0 : fldv Tryz.prog 124 0 = some (0, false, 1) := by kernel_rfl
instance ifl124_0 : FlF Tryz.prog 124 0 0 false 1 := ⟨fl124_0⟩
@[go_sem] theorem fl124_1 : fldv Tryz.prog 124 1 = some (1, false, 1) := by kernel_rfl
instance ifl124_1 : FlF Tryz.prog 124 1 1 false 1 := ⟨fl124_1⟩
@[go_sem] theorem pl124 : places Tryz.prog 124 = some [(0, 1), (1, 1)] := by kernel_rfl
instance ipl124 : PlF Tryz.prog 124 [(0, 1), (1, 1)] := ⟨pl124⟩
@[go_sem] theorem zv124 : zv Tryz.prog 124 = some (.agg [.sc (.int .i64 0), .sc (.int .i64 0)]) := by kernel_rfl
instance izv124 : ZvF Tryz.prog 124 (.agg [.sc (.int .i64 0), .sc (.int .i64 0)]) := ⟨zv124⟩
@[go_sem] theorem zo124 : zok Tryz.prog 124 2 := by simp only [zok, zv124]; rfl
instance izo124 : ZoF Tryz.prog 124 2 := ⟨zo124⟩
@[go_sem] theorem ty126 : tyv Tryz.prog 126 = some (true, 7) := by kernel_rfl
instance ity126 : TyF Tryz.prog 126 true 7 := ⟨ty126⟩
@[go_sem] theorem fl126_0 : fldv Tryz.prog 126 0 = some (0, false, 1) := by kernel_rfl
instance ifl126_0 : FlF Tryz.prog 126 0 0 false 1 := ⟨fl126_0⟩
@[go_sem] theorem fl126_1 : fldv Tryz.prog 126 1 = some (1, false, 1) := by kernel_rfl
instance ifl126_1 : FlF Tryz.prog 126 1 1 false 1 := ⟨fl126_1⟩
@[go_sem] theorem fl126_2 : fldv Tryz.prog 126 2 = some (2, false, 1) := by kernel_rfl
instance ifl126_2 : FlF Tryz.prog 126 2 2 false 1 := ⟨fl126_2⟩
@[go_sem] theorem fl126_3 : fldv Tryz.prog 126 3 = some (3, false, 1) := by kernel_rfl
instance ifl126_3 : FlF Tryz.prog 126 3 3 false 1 := ⟨fl126_3⟩
@[go_sem] theorem fl126_4 : fldv Tryz.prog 126 4 = some (4, true, 3) := by kernel_rfl
instance ifl126_4 : FlF Tryz.prog 126 4 4 true 3 := ⟨fl126_4⟩
@[go_sem] theorem pl126 : places Tryz.prog 126 = some [(0, 1), (1, 1), (2, 1), (3, 1), (4, 3)] := by kernel_rfl
instance ipl126 : PlF Tryz.prog 126 [(0, 1), (1, 1), (2, 1), (3, 1), (4, 3)] := ⟨pl126⟩
@[go_sem] theorem zv126 : zv Tryz.prog 126 = some (.agg [.sc (.int .i64 0), .sc (.int .i64 0), .sc (.int .i64 0), .sc (.int .i64 0), .sc (.int .i64 0), .sc (.int .i64 0), .sc (.int .i64 0)]) := by kernel_rfl
instance izv126 : ZvF Tryz.prog 126 (.agg [.sc (.int .i64 0), .sc (.int .i64 0), .sc (.int .i64 0), .sc (.int .i64 0), .sc (.int .i64 0), .sc (.int .i64 0), .sc (.int .i64 0)]) := ⟨zv126⟩
@[go_sem] theorem zo126 : zok Tryz.prog 126 7 := by simp only [zok, zv126]; rfl
instance izo126 : ZoF Tryz.prog 126 7 := ⟨zo126⟩
@[go_sem] theorem ty127 : tyv Tryz.prog 127 = some (false, 1) := by kernel_rfl
instance ity127 : TyF Tryz.prog 127 false 1 := ⟨ty127⟩
@[go_sem] theorem sl127 : slv Tryz.prog 127 = some (126, 7, 56) := by kernel_rfl
instance isl127 : SlF Tryz.prog 127 126 7 56 := ⟨sl127⟩
@[go_sem] theorem ty129 : tyv Tryz.prog 129 = some (true, 3) := by kernel_rfl
instance ity129 : TyF Tryz.prog 129 true 3 := ⟨ty129⟩
@[go_sem] theorem fl129_0 : fldv Tryz.prog 129 0 = some (0, false, 1) := by kernel_rfl
instance ifl129_0 : FlF Tryz.prog 129 0 0 false 1 := ⟨fl129_0⟩
@[go_sem] theorem fl129_1 : fldv Tryz.prog 129 1 = some (1, false, 1) := by kernel_rfl
instance ifl129_1 : FlF Tryz.prog 129 1 1 false 1 := ⟨fl129_1⟩
@[go_sem] theorem fl129_2 : fldv Tryz.prog 129 2 = some (2, false, 1) := by kernel_rfl
instance ifl129_2 : FlF Tryz.prog 129 2 2 false 1 := ⟨fl129_2⟩
@[go_sem] theorem pl129 : places Tryz.prog 129 = some [(0, 1), (1, 1), (2, 1)] := by kernel_rfl
instance ipl129 : PlF Tryz.prog 129 [(0, 1), (1, 1), (2, 1)] := ⟨pl129⟩
@[go_sem] theorem zv129 : zv Tryz.prog 129 = some (.agg [.sc (.int .i64 0), .sc (.int .i64 0), .sc (.slice none 0 0)]) := by kernel_rfl
instance izv129 : ZvF Tryz.prog 129 (.agg [.sc (.int .i64 0), .sc (.int .i64 0), .sc (.slice none 0 0)]) := ⟨zv129⟩
@[go_sem] theorem zo129 : zok Tryz.prog 129 3 := by simp only [zok, zv129]; rfl
instance izo129 : ZoF Tryz.prog 129 3 := ⟨zo129⟩
@[go_sem] theorem ty137 : tyv Tryz.prog 137 = some (true, 4) := by kernel_rfl
instance ity137 : TyF Tryz.prog 137 true 4 := ⟨ty137⟩
@[go_sem] theorem fl137_0 : fldv Tryz.prog 137 0 = some (0, false, 1) := by kernel_rfl
instance ifl137_0 : FlF Tryz.prog 137 0 0 false 1 := ⟨fl137_0⟩
@[go_sem] theorem fl137_1 : fldv Tryz.prog 137 1 = some (1, false, 1) := by kernel_rfl
instance ifl137_1 : FlF Tryz.prog 137 1 1 false 1 := ⟨fl137_1⟩
@[go_sem] theorem zv137 : zv Tryz.prog 137 = some (.agg [.sc (.int .i64 0), .sc (.int .i64 0), .sc (.int .i64 0), .sc (.slice none 0 0)]) := by kernel_rfl
instance izv137 : ZvF Tryz.prog 137 (.agg [.sc (.int .i64 0), .sc (.int .i64 0), .sc (.int .i64 0), .sc (.slice none 0 0)]) := ⟨zv137⟩
@[go_sem] theorem zo137 : zok Tryz.prog 137 4 := by simp only [zok, zv137]; rfl
instance izo137 : ZoF Tryz.prog 137 4 := ⟨zo137⟩
@[go_sem] theorem ty152 : tyv Tryz.prog 152 = some (false, 1) := by kernel_rfl
instance ity152 : TyF Tryz.prog 152 false 1 := ⟨ty152⟩
@[go_sem] theorem sl152 : slv Tryz.prog 152 = some (241, 5, 40) := by kernel_rfl
instance isl152 : SlF Tryz.prog 152 241 5 40 := ⟨sl152⟩
@[go_sem] theorem ty154 : tyv Tryz.prog 154 = some (true, 9) := by kernel_rfl
instance ity154 : TyF Tryz.prog 154 true 9 := ⟨ty154⟩
@[go_sem] theorem fl154_0 : fldv Tryz.prog 154 0 = some (0, false, 1) := by kernel_rfl
instance ifl154_0 : FlF Tryz.prog 154 0 0 false 1 := ⟨fl154_0⟩
@[go_sem] theorem fl154_1 : fldv Tryz.prog 154 1 = some (1, false, 1) := by kernel_rfl
instance ifl154_1 : FlF Tryz.prog 154 1 1 false 1 := ⟨fl154_1⟩
@[go_sem] theorem fl154_2 : fldv Tryz.prog 154 2 = some (2, false, 1) := by kernel_rfl
instance ifl154_2 : FlF Tryz.prog 154 2 2 false 1 := ⟨fl154_2⟩
@[go_sem] theorem fl154_3 : fldv Tryz.prog 154 3 = some (3, true, 3) := by kernel_rfl
instance ifl154_3 : FlF Tryz.prog 154 3 3 true 3 := ⟨fl154_3⟩
@[go_sem] theorem fl154_4 : fldv Tryz.prog 154 4 = some (6, false, 1) := by kernel_rfl
instance ifl154_4 : FlF Tryz.prog 154 4 6 false 1 := ⟨fl154_4⟩
@[go_sem] theorem fl154_5 : fldv Tryz.prog 154 5 = some (7, false, 1) := by kernel_rfl
instance ifl154_5 : FlF Tryz.prog 154 5 7 false 1 := ⟨fl154_5⟩
@[go_sem] theorem fl154_6 : fldv Tryz.prog 154 6 = some (8, false, 1) := by kernel_rfl
instance ifl154_6 : FlF Tryz.prog 154 6 8 false 1 := ⟨fl154_6⟩
@[go_sem] theorem pl154 : places Tryz.prog 154 = some [(0, 1), (1, 1), (2, 1), (3, 3), (6, 1), (7, 1), (8, 1)] := by kernel_rfl
instance ipl154 : PlF Tryz.prog 154 [(0, 1), (1, 1), (2, 1), (3, 3), (6, 1), (7, 1), (8, 1)] := ⟨pl154⟩
@[go_sem] theorem zv154 : zv Tryz.prog 154 = some (.agg [.sc (.slice none 0 0), .sc (.slice none 0 0), .sc (.slice none 0 0), .sc (.int .i64 0), .sc (.int .i64 0), .sc (.int .i64 0), .sc (.int .i64 0), .sc (.int .i64 0), .sc (.int .i64 0)]) := by kernel_rfl
instance izv154 : ZvF Tryz.prog 154 (.agg [.sc (.slice none 0 0), .sc (.slice none 0 0), .sc (.slice none 0 0), .sc (.int .i64 0), .sc (.int .i64 0), .sc (.int .i64 0), .sc (.int .i64 0), .sc (.int .i64 0), .sc (.int .i64 0)]) := ⟨zv154⟩
@[go_sem] theorem sl188 : slv Tryz.prog 188 = some (46, 1, 24) := by kernel_rfl
instance isl188 : SlF Tryz.prog 188 46 1 24 := ⟨sl188⟩
@[go_sem] theorem sl189 : slv Tryz.prog 189 = some (79, 4, 48) := by kernel_rfl
instance isl189 : SlF Tryz.prog 189 79 4 48 := ⟨sl189⟩
@[go_sem] theorem sl206 : slv Tryz.prog 206 = some (30, 1, 24) := by kernel_rfl
instance isl206 : SlF Tryz.prog 206 30 1 24 := ⟨sl206⟩
@[go_sem] theorem sl209 : slv Tryz.prog 209 = some (4, 1, 1) := by kernel_rfl
instance isl209 : SlF Tryz.prog 209 4 1 1 := ⟨sl209⟩
@[go_sem] theorem un229 : Tryz.prog.underlying 229 = some .bool := by kernel_rfl
instance iun229 : UnF Tryz.prog 229 .bool := ⟨un229⟩
@[go_sem] theorem ty241 : tyv Tryz.prog 241 = some (true, 5) := by kernel_rfl
instance ity241 : TyF Tryz.prog 241 true 5 := ⟨ty241⟩
@[go_sem] theorem fl241_0 : fldv Tryz.prog 241 0 = some (0, false, 1) := by kernel_rfl
instance ifl241_0 : FlF Tryz.prog 241 0 0 false 1 := ⟨fl241_0⟩
@[go_sem] theorem fl241_1 : fldv Tryz.prog 241 1 = some (1, false, 1) := by kernel_rfl
instance ifl241_1 : FlF Tryz.prog 241 1 1 false 1 := ⟨fl241_1⟩
@[go_sem] theorem fl241_2 : fldv Tryz.prog 241 2 = some (2, false, 1) := by kernel_rfl
instance ifl241_2 : FlF Tryz.prog 241 2 2 false 1 := ⟨fl241_2⟩
@[go_sem] theorem fl241_3 : fldv Tryz.prog 241 3 = some (3, false, 1) := by kernel_rfl
instance ifl241_3 : FlF Tryz.prog 241 3 3 false 1 := ⟨fl241_3⟩
@[go_sem] theorem fl241_4 : fldv Tryz.prog 241 4 = some (4, false, 1) := by kernel_rfl
instance ifl241_4 : FlF Tryz.prog 241 4 4 false 1 := ⟨fl241_4⟩
@[go_sem] theorem pl241 : places Tryz.prog 241 = some [(0, 1), (1, 1), (2, 1), (3, 1), (4, 1)] := by kernel_rfl
instance ipl241 : PlF Tryz.prog 241 [(0, 1), (1, 1), (2, 1), (3, 1), (4, 1)] := ⟨pl241⟩
@[go_sem] theorem zv241 : zv Tryz.prog 241 = some (.agg [.sc (.int .i64 0), .sc (.int .i64 0), .sc (.int .i64 0), .sc (.int .i64 0), .sc (.int .i64 0)]) := by kernel_rfl
instance izv241 : ZvF Tryz.prog 241 (.agg [.sc (.int .i64 0), .sc (.int .i64 0), .sc (.int .i64 0), .sc (.int .i64 0), .sc (.int .i64 0)]) := ⟨zv241⟩
@[go_sem] theorem zo241 : zok Tryz.prog 241 5 := by simp only [zok, zv241]; rfl
instance izo241 : ZoF Tryz.prog 241 5 := ⟨zo241⟩
@[go_sem] theorem un250 : Tryz.prog.underlying 250 = some (.int .u64) := by kernel_rfl
instance iun250 : UnF Tryz.prog 250 (.int .u64) := ⟨un250⟩
@[go_sem] theorem mp265 : mpv Tryz.prog 265 = some ((.int .i64), 241) := by kernel_rfl
instance imp265 : MpF Tryz.prog 265 ((.int .i64)) 241 := ⟨mp265⟩
theorem hb19 : hasBody Tryz.prog 19 := ⟨Tryz.f19, _, Tryz.func19, rfl, by decide +kernel⟩
instance ihb19 : HbF Tryz.prog 19 := ⟨hb19⟩
theorem hb20 : hasBody Tryz.prog 20 := ⟨Tryz.f20, _, Tryz.func20, rfl, by decide +kernel⟩
instance ihb20 : HbF Tryz.prog 20 := ⟨hb20⟩
theorem hb24 : hasBody Tryz.prog 24 := ⟨Tryz.f24, _, Tryz.func24, rfl, by decide +kernel⟩
instance ihb24 : HbF Tryz.prog 24 := ⟨hb24⟩
theorem hb27 : hasBody Tryz.prog 27 := ⟨Tryz.f27, _, Tryz.func27, rfl, by decide +kernel⟩
instance ihb27 : HbF Tryz.prog 27 := ⟨hb27⟩
theorem hb29 : hasBody Tryz.prog 29 := ⟨Tryz.f29, _, Tryz.func29, rfl, by decide +kernel⟩
instance ihb29 : HbF Tryz.prog 29 := ⟨hb29⟩
theorem hb33 : hasBody Tryz.prog 33 := ⟨Tryz.f33, _, Tryz.func33, rfl, by decide +kernel⟩
instance ihb33 : HbF Tryz.prog 33 := ⟨hb33⟩
theorem hb34 : hasBody Tryz.prog 34 := ⟨Tryz.f34, _, Tryz.func34, rfl, by decide +kernel⟩
instance ihb34 : HbF Tryz.prog 34 := ⟨hb34⟩
theorem hb37 : hasBody Tryz.prog 37 := ⟨Tryz.f37, _, Tryz.func37, rfl, by decide +kernel⟩
instance ihb37 : HbF Tryz.prog 37 := ⟨hb37⟩
theorem hb38 : hasBody Tryz.prog 38 := ⟨Tryz.f38, _, Tryz.func38, rfl, by decide +kernel⟩
instance ihb38 : HbF Tryz.prog 38 := ⟨hb38⟩
theorem hb39 : hasBody Tryz.prog 39 := ⟨Tryz.f39, _, Tryz.func39, rfl, by decide +kernel⟩
instance ihb39 : HbF Tryz.prog 39 := ⟨hb39⟩
theorem hb40 : hasBody Tryz.prog 40 := ⟨Tryz.f40, _, Tryz.func40, rfl, by decide +kernel⟩
instance ihb40 : HbF Tryz.prog 40 := ⟨hb40⟩
theorem hb41 : hasBody Tryz.prog 41 := ⟨Tryz.f41, _, Tryz.func41, rfl, by decide +kernel⟩
instance ihb41 : HbF Tryz.prog 41 := ⟨hb41⟩
theorem hb42 : hasBody Tryz.prog 42 := ⟨Tryz.f42, _, Tryz.func42, rfl, by decide +kernel⟩
instance ihb42 : HbF Tryz.prog 42 := ⟨hb42⟩
theorem hb43 : hasBody Tryz.prog 43 := ⟨Tryz.f43, _, Tryz.func43, rfl, by decide +kernel⟩
instance ihb43 : HbF Tryz.prog 43 := ⟨hb43⟩
theorem hb44 : hasBody Tryz.prog 44 := ⟨Tryz.f44, _, Tryz.func44, rfl, by decide +kernel⟩
instance ihb44 : HbF Tryz.prog 44 := ⟨hb44⟩
theorem hb45 : hasBody Tryz.prog 45 := ⟨Tryz.f45, _, Tryz.func45, rfl, by decide +kernel⟩
instance ihb45 : HbF Tryz.prog 45 := ⟨hb45⟩
theorem hb47 : hasBody Tryz.prog 47 := ⟨Tryz.f47, _, Tryz.func47, rfl, by decide +kernel⟩
instance ihb47 : HbF Tryz.prog 47 := ⟨hb47⟩
theorem hb48 : hasBody Tryz.prog 48 := ⟨Tryz.f48, _, Tryz.func48, rfl, by decide +kernel⟩
instance ihb48 : HbF Tryz.prog 48 := ⟨hb48⟩
theorem hb49 : hasBody Tryz.prog 49 := ⟨Tryz.f49, _, Tryz.func49, rfl, by decide +kernel⟩
instance ihb49 : HbF Tryz.prog 49 := ⟨hb49⟩
theorem hb69 : hasBody Tryz.prog 69 := ⟨Tryz.f69, _, Tryz.func69, rfl, by decide +kernel⟩
instance ihb69 : HbF Tryz.prog 69 := ⟨hb69⟩
theorem hb72 : hasBody Tryz.prog 72 := ⟨Tryz.f72, _, Tryz.func72, rfl, by decide +kernel⟩
instance ihb72 : HbF Tryz.prog 72 := ⟨hb72⟩
theorem hb77 : hasBody Tryz.prog 77 := ⟨Tryz.f77, _, Tryz.func77, rfl, by decide +kernel⟩
instance ihb77 : HbF Tryz.prog 77 := ⟨hb77⟩
theorem hb78 : hasBody Tryz.prog 78 := ⟨Tryz.f78, _, Tryz.func78, rfl, by decide +kernel⟩
instance ihb78 : HbF Tryz.prog 78 := ⟨hb78⟩
theorem hb79 : hasBody Tryz.prog 79 := ⟨Tryz.f79, _, Tryz.func79, rfl, by decide +kernel⟩
instance ihb79 : HbF Tryz.prog 79 := ⟨hb79⟩
theorem hb80 : hasBody Tryz.prog 80 := ⟨Tryz.f80, _, Tryz.func80, rfl, by decide +kernel⟩
instance ihb80 : HbF Tryz.prog 80 := ⟨hb80⟩
theorem hb81 : hasBody Tryz.prog 81 := ⟨Tryz.f81, _, Tryz.func81, rfl, by decide +kernel⟩
instance ihb81 : HbF Tryz.prog 81 := ⟨hb81⟩
theorem hb84 : hasBody Tryz.prog 84 := ⟨Tryz.f84, _, Tryz.func84, rfl, by decide +kernel⟩
instance ihb84 : HbF Tryz.prog 84 := ⟨hb84⟩
theorem hb86 : hasBody Tryz.prog 86 := ⟨Tryz.f86, _, Tryz.func86, rfl, by decide +kernel⟩
instance ihb86 : HbF Tryz.prog 86 := ⟨hb86⟩
theorem hb88 : hasBody Tryz.prog 88 := ⟨Tryz.f88, _, Tryz.func88, rfl, by decide +kernel⟩
instance ihb88 : HbF Tryz.prog 88 := ⟨hb88⟩
theorem hb89 : hasBody Tryz.prog 89 := ⟨Tryz.f89, _, Tryz.func89, rfl, by decide +kernel⟩
instance ihb89 : HbF Tryz.prog 89 := ⟨hb89⟩
theorem hb97 : hasBody Tryz.prog 97 := ⟨Tryz.f97, _, Tryz.func97, rfl, by decide +kernel⟩
instance ihb97 : HbF Tryz.prog 97 := ⟨hb97⟩
theorem hb98 : hasBody Tryz.prog 98 := ⟨Tryz.f98, _, Tryz.func98, rfl, by decide +kernel⟩
instance ihb98 : HbF Tryz.prog 98 := ⟨hb98⟩
theorem hb99 : hasBody Tryz.prog 99 := ⟨Tryz.f99, _, Tryz.func99, rfl, by decide +kernel⟩
instance ihb99 : HbF Tryz.prog 99 := ⟨hb99⟩
theorem hb100 : hasBody Tryz.prog 100 := ⟨Tryz.f100, _, Tryz.func100, rfl, by decide +kernel⟩
instance ihb100 : HbF Tryz.prog 100 := ⟨hb100⟩
theorem hb101 : hasBody Tryz.prog 101 := ⟨Tryz.f101, _, Tryz.func101, rfl, by decide +kernel⟩
instance ihb101 : HbF Tryz.prog 101 := ⟨hb101⟩
theorem hb102 : hasBody Tryz.prog 102 := ⟨Tryz.f102, _, Tryz.func102, rfl, by decide +kernel⟩
instance ihb102 : HbF Tryz.prog 102 := ⟨hb102⟩
theorem hb103 : hasBody Tryz.prog 103 := ⟨Tryz.f103, _, Tryz.func103, rfl, by decide +kernel⟩
instance ihb103 : HbF Tryz.prog 103 := ⟨hb103⟩
theorem hb104 : hasBody Tryz.prog 104 := ⟨Tryz.f104, _, Tryz.func104, rfl, by decide +kernel⟩
instance ihb104 : HbF Tryz.prog 104 := ⟨hb104⟩
theorem hb105 : hasBody Tryz.prog 105 := ⟨Tryz.f105, _, Tryz.func105, rfl, by decide +kernel⟩
instance ihb105 : HbF Tryz.prog 105 := ⟨hb105⟩
theorem hb106 : hasBody Tryz.prog 106 := ⟨Tryz.f106, _, Tryz.func106, rfl, by decide +kernel⟩
instance ihb106 : HbF Tryz.prog 106 := ⟨hb106⟩
theorem hb107 : hasBody Tryz.prog 107 := ⟨Tryz.f107, _, Tryz.func107, rfl, by decide +kernel⟩
instance ihb107 : HbF Tryz.prog 107 := ⟨hb107⟩
theorem hb109 : hasBody Tryz.prog 109 := ⟨Tryz.f109, _, Tryz.func109, rfl, by decide +kernel⟩
instance ihb109 : HbF Tryz.prog 109 := ⟨hb109⟩
theorem hb111 : hasBody Tryz.prog 111 := ⟨Tryz.f111, _, Tryz.func111, rfl, by decide +kernel⟩
instance ihb111 : HbF Tryz.prog 111 := ⟨hb111⟩
theorem hb119 : hasBody Tryz.prog 119 := ⟨Tryz.f119, _, Tryz.func119, rfl, by decide +kernel⟩
instance ihb119 : HbF Tryz.prog 119 := ⟨hb119⟩
theorem hb136 : hasBody Tryz.prog 136 := ⟨Tryz.f136, _, Tryz.func136, rfl, by decide +kernel⟩
instance ihb136 : HbF Tryz.prog 136 := ⟨hb136⟩
theorem hb138 : hasBody Tryz.prog 138 := ⟨Tryz.f138, _, Tryz.func138, rfl, by decide +kernel⟩
instance ihb138 : HbF Tryz.prog 138 := ⟨hb138⟩
theorem hb142 : hasBody Tryz.prog 142 := ⟨Tryz.f142, _, Tryz.func142, rfl, by decide +kernel⟩
instance ihb142 : HbF Tryz.prog 142 := ⟨hb142⟩
theorem hb143 : hasBody Tryz.prog 143 := ⟨Tryz.f143, _, Tryz.func143, rfl, by decide +kernel⟩
theorem hb144 : hasBody Tryz.prog 144 := ⟨Tryz.f144, _, Tryz.func144, rfl, by decide +kernel⟩
instance ihb144 : HbF Tryz.prog 144 := ⟨hb144⟩
theorem hb145 : hasBody Tryz.prog 145 := ⟨Tryz.f145, _, Tryz.func145, rfl, by decide +kernel⟩
theorem hb146 : hasBody Tryz.prog 146 := ⟨Tryz.f146, _, Tryz.func146, rfl, by decide +kernel⟩
instance ihb146 : HbF Tryz.prog 146 := ⟨hb146⟩
theorem hb147 : hasBody Tryz.prog 147 := ⟨Tryz.f147, _, Tryz.func147, rfl, by decide +kernel⟩
instance ihb147 : HbF Tryz.prog 147 := ⟨hb147⟩
theorem hb148 : hasBody Tryz.prog 148 := ⟨Tryz.f148, _, Tryz.func148, rfl, by decide +kernel⟩
instance ihb148 : HbF Tryz.prog 148 := ⟨hb148⟩
theorem hb149 : hasBody Tryz.prog 149 := ⟨Tryz.f149, _, Tryz.func149, rfl, by decide +kernel⟩
instance ihb149 : HbF Tryz.prog 149 := ⟨hb149⟩
theorem hb150 : hasBody Tryz.prog 150 := ⟨Tryz.f150, _, Tryz.func150, rfl, by decide +kernel⟩
theorem hb151 : hasBody Tryz.prog 151 := ⟨Tryz.f151, _, Tryz.func151, rfl, by decide +kernel⟩
theorem hb153 : hasBody Tryz.prog 153 := ⟨Tryz.f153, _, Tryz.func153, rfl, by decide +kernel⟩
instance ihb153 : HbF Tryz.prog 153 := ⟨hb153⟩
theorem hb156 : hasBody Tryz.prog 156 := ⟨Tryz.f156, _, Tryz.func156, rfl, by decide +kernel⟩
instance ihb156 : HbF Tryz.prog 156 := ⟨hb156⟩
theorem hb157 : hasBody Tryz.prog 157 := ⟨Tryz.f157, _, Tryz.func157, rfl, by decide +kernel⟩
instance ihb157 : HbF Tryz.prog 157 := ⟨hb157⟩
theorem hb165 : hasBody Tryz.prog 165 := ⟨Tryz.f165, _, Tryz.func165, rfl, by decide +kernel⟩
instance ihb165 : HbF Tryz.prog 165 := ⟨hb165⟩
theorem hb166 : hasBody Tryz.prog 166 := ⟨Tryz.f166, _, Tryz.func166, rfl, by decide +kernel⟩
instance ihb166 : HbF Tryz.prog 166 := ⟨hb166⟩
theorem hb167 : hasBody Tryz.prog 167 := ⟨Tryz.f167, _, Tryz.func167, rfl, by decide +kernel⟩
instance ihb167 : HbF Tryz.prog 167 := ⟨hb167⟩
theorem hb168 : hasBody Tryz.prog 168 := ⟨Tryz.f168, _, Tryz.func168, rfl, by decide +kernel⟩
instance ihb168 : HbF Tryz.prog 168 := ⟨hb168⟩
theorem hb169 : hasBody Tryz.prog 169 := ⟨Tryz.f169, _, Tryz.func169, rfl, by decide +kernel⟩
instance ihb169 : HbF Tryz.prog 169 := ⟨hb169⟩
theorem hb170 : hasBody Tryz.prog 170 := ⟨Tryz.f170, _, Tryz.func170, rfl, by decide +kernel⟩
instance ihb170 : HbF Tryz.prog 170 := ⟨hb170⟩
theorem hb171 : hasBody Tryz.prog 171 := ⟨Tryz.f171, _, Tryz.func171, rfl, by decide +kernel⟩
instance ihb171 : HbF Tryz.prog 171 := ⟨hb171⟩
theorem hb172 : hasBody Tryz.prog 172 := ⟨Tryz.f172, _, Tryz.func172, rfl, by decide +kernel⟩
instance ihb172 : HbF Tryz.prog 172 := ⟨hb172⟩
theorem hb173 : hasBody Tryz.prog 173 := ⟨Tryz.f173, _, Tryz.func173, rfl, by decide +kernel⟩
instance ihb173 : HbF Tryz.prog 173 := ⟨hb173⟩
theorem hb174 : hasBody Tryz.prog 174 := ⟨Tryz.f174, _, Tryz.func174, rfl, by decide +kernel⟩
instance ihb174 : HbF Tryz.prog 174 := ⟨hb174⟩
theorem hb175 : hasBody Tryz.prog 175 := ⟨Tryz.f175, _, Tryz.func175, rfl, by decide +kernel⟩
instance ihb175 : HbF Tryz.prog 175 := ⟨hb175⟩
theorem hb176 : hasBody Tryz.prog 176 := ⟨Tryz.f176, _, Tryz.func176, rfl, by decide +kernel⟩
instance ihb176 : HbF Tryz.prog 176 := ⟨hb176⟩
theorem hb184 : hasBody Tryz.prog 184 := ⟨Tryz.f184, _, Tryz.func184, rfl, by decide +kernel⟩
instance ihb184 : HbF Tryz.prog 184 := ⟨hb184⟩
theorem hb185 : hasBody Tryz.prog 185 := ⟨Tryz.f185, _, Tryz.func185, rfl, by decide +kernel⟩
instance ihb185 : HbF Tryz.prog 185 := ⟨hb185⟩
theorem hb192 : hasBody Tryz.prog 192 := ⟨Tryz.f192, _, Tryz.func192, rfl, by decide +kernel⟩
instance ihb192 : HbF Tryz.prog 192 := ⟨hb192⟩
theorem hb197 : hasBody Tryz.prog 197 := ⟨Tryz.f197, _, Tryz.func197, rfl, by decide +kernel⟩
instance ihb197 : HbF Tryz.prog 197 := ⟨hb197⟩
theorem hb198 : hasBody Tryz.prog 198 := ⟨Tryz.f198, _, Tryz.func198, rfl, by decide +kernel⟩
instance ihb198 : HbF Tryz.prog 198 := ⟨hb198⟩
theorem hb199 : hasBody Tryz.prog 199 := ⟨Tryz.f199, _, Tryz.func199, rfl, by decide +kernel⟩
instance ihb199 : HbF Tryz.prog 199 := ⟨hb199⟩
theorem hb200 : hasBody Tryz.prog 200 := ⟨Tryz.f200, _, Tryz.func200, rfl, by decide +kernel⟩
instance ihb200 : HbF Tryz.prog 200 := ⟨hb200⟩
theorem hb201 : hasBody Tryz.prog 201 := ⟨Tryz.f201, _, Tryz.func201, rfl, by decide +kernel⟩
instance ihb201 : HbF Tryz.prog 201 := ⟨hb201⟩
theorem hb202 : hasBody Tryz.prog 202 := ⟨Tryz.f202, _, Tryz.func202, rfl, by decide +kernel⟩
theorem hb203 : hasBody Tryz.prog 203 := ⟨Tryz.f203, _, Tryz.func203, rfl, by decide +kernel⟩
instance ihb203 : HbF Tryz.prog 203 := ⟨hb203⟩
theorem hb206 : hasBody Tryz.prog 206 := ⟨Tryz.f206, _, Tryz.func206, rfl, by decide +kernel⟩
instance ihb206 : HbF Tryz.prog 206 := ⟨hb206⟩
theorem hb208 : hasBody Tryz.prog 208 := ⟨Tryz.f208, _, Tryz.func208, rfl, by decide +kernel⟩
instance ihb208 : HbF Tryz.prog 208 := ⟨hb208⟩
theorem hb209 : hasBody Tryz.prog 209 := ⟨Tryz.f209, _, Tryz.func209, rfl, by decide +kernel⟩
instance ihb209 : HbF Tryz.prog 209 := ⟨hb209⟩
theorem hb210 : hasBody Tryz.prog 210 := ⟨Tryz.f210, _, Tryz.func210, rfl, by decide +kernel⟩
instance ihb210 : HbF Tryz.prog 210 := ⟨hb210⟩
theorem hb211 : hasBody Tryz.prog 211 := ⟨Tryz.f211, _, Tryz.func211, rfl, by decide +kernel⟩
theorem hb212 : hasBody Tryz.prog 212 := ⟨Tryz.f212, _, Tryz.func212, rfl, by decide +kernel⟩
instance ihb212 : HbF Tryz.prog 212 := ⟨hb212⟩
theorem hb213 : hasBody Tryz.prog 213 := ⟨Tryz.f213, _, Tryz.func213, rfl, by decide +kernel⟩
instance ihb213 : HbF Tryz.prog 213 := ⟨hb213⟩
theorem hb214 : hasBody Tryz.prog 214 := ⟨Tryz.f214, _, Tryz.func214, rfl, by decide +kernel⟩
instance ihb214 : HbF Tryz.prog 214 := ⟨hb214⟩
theorem hb215 : hasBody Tryz.prog 215 := ⟨Tryz.f215, _, Tryz.func215, rfl, by decide +kernel⟩
instance ihb215 : HbF Tryz.prog 215 := ⟨hb215⟩
theorem hb216 : hasBody Tryz.prog 216 := ⟨Tryz.f216, _, Tryz.func216, rfl, by decide +kernel⟩
instance ihb216 : HbF Tryz.prog 216 := ⟨hb216⟩
theorem hb217 : hasBody Tryz.prog 217 := ⟨Tryz.f217, _, Tryz.func217, rfl, by decide +kernel⟩
instance ihb217 : HbF Tryz.prog 217 := ⟨hb217⟩
theorem hb218 : hasBody Tryz.prog 218 := ⟨Tryz.f218, _, Tryz.func218, rfl, by decide +kernel⟩
instance ihb218 : HbF Tryz.prog 218 := ⟨hb218⟩
theorem hb219 : hasBody Tryz.prog 219 := ⟨Tryz.f219, _, Tryz.func219, rfl, by decide +kernel⟩
instance ihb219 : HbF Tryz.prog 219 := ⟨hb219⟩
theorem hb220 : hasBody Tryz.prog 220 := ⟨Tryz.f220, _, Tryz.func220, rfl, by decide +kernel⟩
instance ihb220 : HbF Tryz.prog 220 := ⟨hb220⟩
theorem hb223 : hasBody Tryz.prog 223 := ⟨Tryz.f223, _, Tryz.func223, rfl, by decide +kernel⟩
instance ihb223 : HbF Tryz.prog 223 := ⟨hb223⟩
theorem hb224 : hasBody Tryz.prog 224 := ⟨Tryz.f224, _, Tryz.func224, rfl, by decide +kernel⟩
theorem hb229 : hasBody Tryz.prog 229 := ⟨Tryz.f229, _, Tryz.func229, rfl, by decide +kernel⟩
instance ihb229 : HbF Tryz.prog 229 := ⟨hb229⟩
theorem hb232 : hasBody Tryz.prog 232 := ⟨Tryz.f232, _, Tryz.func232, rfl, by decide +kernel⟩
instance ihb232 : HbF Tryz.prog 232 := ⟨hb232⟩
theorem hb236 : hasBody Tryz.prog 236 := ⟨Tryz.f236, _, Tryz.func236, rfl, by decide +kernel⟩
instance ihb236 : HbF Tryz.prog 236 := ⟨hb236⟩
theorem hb237 : hasBody Tryz.prog 237 := ⟨Tryz.f237, _, Tryz.func237, rfl, by decide +kernel⟩
theorem hb238 : hasBody Tryz.prog 238 := ⟨Tryz.f238, _, Tryz.func238, rfl, by decide +kernel⟩
instance ihb238 : HbF Tryz.prog 238 := ⟨hb238⟩
theorem hb240 : hasBody Tryz.prog 240 := ⟨Tryz.f240, _, Tryz.func240, rfl, by decide +kernel⟩
instance ihb240 : HbF Tryz.prog 240 := ⟨hb240⟩
theorem hb242 : hasBody Tryz.prog 242 := ⟨Tryz.f242, _, Tryz.func242, rfl, by decide +kernel⟩
instance ihb242 : HbF Tryz.prog 242 := ⟨hb242⟩
theorem hb243 : hasBody Tryz.prog 243 := ⟨Tryz.f243, _, Tryz.func243, rfl, by decide +kernel⟩
instance ihb243 : HbF Tryz.prog 243 := ⟨hb243⟩
theorem hb244 : hasBody Tryz.prog 244 := ⟨Tryz.f244, _, Tryz.func244, rfl, by decide +kernel⟩
instance ihb244 : HbF Tryz.prog 244 := ⟨hb244⟩
theorem hb245 : hasBody Tryz.prog 245 := ⟨Tryz.f245, _, Tryz.func245, rfl, by decide +kernel⟩
instance ihb245 : HbF Tryz.prog 245 := ⟨hb245⟩
theorem hb262 : hasBody Tryz.prog 262 := ⟨Tryz.f262, _, Tryz.func262, rfl, by decide +kernel⟩
instance ihb262 : HbF Tryz.prog 262 := ⟨hb262⟩
theorem hb271 : hasBody Tryz.prog 271 := ⟨Tryz.f271, _, Tryz.func271, rfl, by decide +kernel⟩
instance ihb271 : HbF Tryz.prog 271 := ⟨hb271⟩
theorem hb272 : hasBody Tryz.prog 272 := ⟨Tryz.f272, _, Tryz.func272, rfl, by decide +kernel⟩
instance ihb272 : HbF Tryz.prog 272 := ⟨hb272⟩
theorem hb273 : hasBody Tryz.prog 273 := ⟨Tryz.f273, _, Tryz.func273, rfl, by decide +kernel⟩
instance ihb273 : HbF Tryz.prog 273 := ⟨hb273⟩
theorem hb274 : hasBody Tryz.prog 274 := ⟨Tryz.f274, _, Tryz.func274, rfl, by decide +kernel⟩
instance ihb274 : HbF Tryz.prog 274 := ⟨hb274⟩
theorem hb275 : hasBody Tryz.prog 275 := ⟨Tryz.f275, _, Tryz.func275, rfl, by decide +kernel⟩
instance ihb275 : HbF Tryz.prog 275 := ⟨hb275⟩
theorem hb276 : hasBody Tryz.prog 276 := ⟨Tryz.f276, _, Tryz.func276, rfl, by decide +kernel⟩
theorem hb277 : hasBody Tryz.prog 277 := ⟨Tryz.f277, _, Tryz.func277, rfl, by decide +kernel⟩
instance ihb277 : HbF Tryz.prog 277 := ⟨hb277⟩
theorem hb288 : hasBody Tryz.prog 288 := ⟨Tryz.f288, _, Tryz.func288, rfl, by decide +kernel⟩
instance ihb288 : HbF Tryz.prog 288 := ⟨hb288⟩
end Go.Proofs
