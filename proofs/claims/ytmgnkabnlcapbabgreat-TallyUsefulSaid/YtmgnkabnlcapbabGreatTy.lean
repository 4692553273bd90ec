/- Facts about the types and functions of this seat, for the abstract machine (written by gentypes.py). -/
import Derived.Test.YtmgnkabnlcapbabGreatMe
import Derived.Test.YtmgnkabnlcapbabGreatProg
import Derived.KernelRfl
set_option maxRecDepth 8000
namespace Go.Proofs
open Go.AM
theorem mixed : Tryz.prog.follows .mixedOrders = true := by kernel_rfl
@[go_sem] theorem ty3 : tyv Tryz.prog 3 = some (false, 1) := by kernel_rfl
instance ity3 : TyF Tryz.prog 3 false 1 := ⟨ty3⟩
@[go_sem] theorem un3 : Tryz.prog.underlying 3 = some (.int .i64) := by kernel_rfl
instance iun3 : UnF Tryz.prog 3 (.int .i64) := ⟨un3⟩
@[go_sem] theorem zv3 : zv Tryz.prog 3 = some (.sc (.int .i64 0)) := by kernel_rfl
instance izv3 : ZvF Tryz.prog 3 (.sc (.int .i64 0)) := ⟨zv3⟩
@[go_sem] theorem zo3 : zok Tryz.prog 3 1 := by simp only [zok, zv3]; rfl
instance izo3 : ZoF Tryz.prog 3 1 := ⟨zo3⟩
@[go_sem] theorem ty4 : tyv Tryz.prog 4 = some (false, 1) := by kernel_rfl
instance ity4 : TyF Tryz.prog 4 false 1 := ⟨ty4⟩
@[go_sem] theorem zv4 : zv Tryz.prog 4 = some (.sc (.bool false)) := by kernel_rfl
instance izv4 : ZvF Tryz.prog 4 (.sc (.bool false)) := ⟨zv4⟩
@[go_sem] theorem ty22 : tyv Tryz.prog 22 = some (false, 1) := by kernel_rfl
instance ity22 : TyF Tryz.prog 22 false 1 := ⟨ty22⟩
@[go_sem] theorem sl22 : slv Tryz.prog 22 = some (3, 1, 8) := by kernel_rfl
instance isl22 : SlF Tryz.prog 22 3 1 8 := ⟨sl22⟩
@[go_sem] theorem ty23 : tyv Tryz.prog 23 = some (false, 1) := by kernel_rfl
instance ity23 : TyF Tryz.prog 23 false 1 := ⟨ty23⟩
@[go_sem] theorem sl23 : slv Tryz.prog 23 = some (45, 2, 16) := by kernel_rfl
instance isl23 : SlF Tryz.prog 23 45 2 16 := ⟨sl23⟩
@[go_sem] theorem ty25 : tyv Tryz.prog 25 = some (true, 3) := by kernel_rfl
instance ity25 : TyF Tryz.prog 25 true 3 := ⟨ty25⟩
@[go_sem] theorem fl25_0 : fldv Tryz.prog 25 0 = some (0, false, 1) := by kernel_rfl
instance ifl25_0 : FlF Tryz.prog 25 0 0 false 1 := ⟨fl25_0⟩
@[go_sem] theorem fl25_1 : fldv Tryz.prog 25 1 = some (1, false, 1) := by kernel_rfl
instance ifl25_1 : FlF Tryz.prog 25 1 1 false 1 := ⟨fl25_1⟩
@[go_sem] theorem fl25_2 : fldv Tryz.prog 25 2 = some (2, false, 1) := by kernel_rfl
instance ifl25_2 : FlF Tryz.prog 25 2 2 false 1 := ⟨fl25_2⟩
@[go_sem] theorem pl25 : places Tryz.prog 25 = some [(0, 1), (1, 1), (2, 1)] := by kernel_rfl
instance ipl25 : PlF Tryz.prog 25 [(0, 1), (1, 1), (2, 1)] := ⟨pl25⟩
theorem eq25 : eqlT Tryz.prog 25 [.sc (.int .i64 0), .sc (.int .i64 0), .sc (.int .i64 0)] := eqlT_of (by kernel_rfl) ty25 (by kernel_rfl)
instance ieq25 : EqF Tryz.prog 25 ([.sc (.int .i64 0), .sc (.int .i64 0), .sc (.int .i64 0)]) := ⟨eq25⟩
@[go_sem] theorem zv25 : zv Tryz.prog 25 = some (.agg [.sc (.int .i64 0), .sc (.int .i64 0), .sc (.int .i64 0)]) := by kernel_rfl
instance izv25 : ZvF Tryz.prog 25 (.agg [.sc (.int .i64 0), .sc (.int .i64 0), .sc (.int .i64 0)]) := ⟨zv25⟩
@[go_sem] theorem ty27 : tyv Tryz.prog 27 = some (true, 4) := by kernel_rfl
instance ity27 : TyF Tryz.prog 27 true 4 := ⟨ty27⟩
@[go_sem] theorem fl27_0 : fldv Tryz.prog 27 0 = some (0, false, 1) := by kernel_rfl
instance ifl27_0 : FlF Tryz.prog 27 0 0 false 1 := ⟨fl27_0⟩
@[go_sem] theorem fl27_1 : fldv Tryz.prog 27 1 = some (1, true, 3) := by kernel_rfl
instance ifl27_1 : FlF Tryz.prog 27 1 1 true 3 := ⟨fl27_1⟩
@[go_sem] theorem pl27 : places Tryz.prog 27 = some [(0, 1), (1, 3)] := by kernel_rfl
instance ipl27 : PlF Tryz.prog 27 [(0, 1), (1, 3)] := ⟨pl27⟩
@[go_sem] theorem zv27 : zv Tryz.prog 27 = some (.agg [.sc (.slice none 0 0), .sc (.int .i64 0), .sc (.int .i64 0), .sc (.int .i64 0)]) := by kernel_rfl
instance izv27 : ZvF Tryz.prog 27 (.agg [.sc (.slice none 0 0), .sc (.int .i64 0), .sc (.int .i64 0), .sc (.int .i64 0)]) := ⟨zv27⟩
@[go_sem] theorem ty30 : tyv Tryz.prog 30 = some (false, 1) := by kernel_rfl
instance ity30 : TyF Tryz.prog 30 false 1 := ⟨ty30⟩
@[go_sem] theorem sl30 : slv Tryz.prog 30 = some (56, 3, 40) := by kernel_rfl
instance isl30 : SlF Tryz.prog 30 56 3 40 := ⟨sl30⟩
@[go_sem] theorem zv30 : zv Tryz.prog 30 = some (.sc (.slice none 0 0)) := by kernel_rfl
@[go_sem] theorem zo30 : zok Tryz.prog 30 1 := by simp only [zok, zv30]; rfl
instance izo30 : ZoF Tryz.prog 30 1 := ⟨zo30⟩
@[go_sem] theorem sl33 : slv Tryz.prog 33 = some (39, 2, 16) := by kernel_rfl
instance isl33 : SlF Tryz.prog 33 39 2 16 := ⟨sl33⟩
@[go_sem] theorem ty39 : tyv Tryz.prog 39 = some (true, 2) := by kernel_rfl
instance ity39 : TyF Tryz.prog 39 true 2 := ⟨ty39⟩
@[go_sem] theorem fl39_0 : fldv Tryz.prog 39 0 = some (0, false, 1) := by kernel_rfl
instance ifl39_0 : FlF Tryz.prog 39 0 0 false 1 := ⟨fl39_0⟩
@[go_sem] theorem fl39_1 : fldv Tryz.prog 39 1 = some (1, false, 1) := by kernel_rfl
instance ifl39_1 : FlF Tryz.prog 39 1 1 false 1 := ⟨fl39_1⟩
@[go_sem] theorem pl39 : places Tryz.prog 39 = some [(0, 1), (1, 1)] := by kernel_rfl
instance ipl39 : PlF Tryz.prog 39 [(0, 1), (1, 1)] := ⟨pl39⟩
@[go_sem] theorem zv39 : zv Tryz.prog 39 = some (.agg [.sc (.int .i64 0), .sc (.bool false)]) := by kernel_rfl
instance izv39 : ZvF Tryz.prog 39 (.agg [.sc (.int .i64 0), .sc (.bool false)]) := ⟨zv39⟩
@[go_sem] theorem zo39 : zok Tryz.prog 39 2 := by simp only [zok, zv39]; rfl
instance izo39 : ZoF Tryz.prog 39 2 := ⟨zo39⟩
@[go_sem] theorem sl40 : slv Tryz.prog 40 = some (30, 1, 24) := by kernel_rfl
instance isl40 : SlF Tryz.prog 40 30 1 24 := ⟨sl40⟩
@[go_sem] theorem ty42 : tyv Tryz.prog 42 = some (true, 4) := by kernel_rfl
instance ity42 : TyF Tryz.prog 42 true 4 := ⟨ty42⟩
@[go_sem] theorem fl42_0 : fldv Tryz.prog 42 0 = some (0, false, 1) := by kernel_rfl
instance ifl42_0 : FlF Tryz.prog 42 0 0 false 1 := ⟨fl42_0⟩
@[go_sem] theorem fl42_1 : fldv Tryz.prog 42 1 = some (1, true, 3) := by kernel_rfl
instance ifl42_1 : FlF Tryz.prog 42 1 1 true 3 := ⟨fl42_1⟩
@[go_sem] theorem pl42 : places Tryz.prog 42 = some [(0, 1), (1, 3)] := by kernel_rfl
instance ipl42 : PlF Tryz.prog 42 [(0, 1), (1, 3)] := ⟨pl42⟩
@[go_sem] theorem zv42 : zv Tryz.prog 42 = some (.agg [.sc (.slice none 0 0), .sc (.int .i64 0), .sc (.int .i64 0), .sc (.int .i64 0)]) := by kernel_rfl
instance izv42 : ZvF Tryz.prog 42 (.agg [.sc (.slice none 0 0), .sc (.int .i64 0), .sc (.int .i64 0), .sc (.int .i64 0)]) := ⟨zv42⟩
@[go_sem] theorem ty45 : tyv Tryz.prog 45 = some (true, 2) := by kernel_rfl
instance ity45 : TyF Tryz.prog 45 true 2 := ⟨ty45⟩
@[go_sem] theorem fl45_0 : fldv Tryz.prog 45 0 = some (0, false, 1) := by kernel_rfl
instance ifl45_0 : FlF Tryz.prog 45 0 0 false 1 := ⟨fl45_0⟩
@[go_sem] theorem fl45_1 : fldv Tryz.prog 45 1 = some (1, false, 1) := by kernel_rfl
instance ifl45_1 : FlF Tryz.prog 45 1 1 false 1 := ⟨fl45_1⟩
@[go_sem] theorem pl45 : places Tryz.prog 45 = some [(0, 1), (1, 1)] := by kernel_rfl
instance ipl45 : PlF Tryz.prog 45 [(0, 1), (1, 1)] := ⟨pl45⟩
@[go_sem] theorem zv45 : zv Tryz.prog 45 = some (.agg [.sc (.int .i64 0), .sc (.int .i64 0)]) := by kernel_rfl
instance izv45 : ZvF Tryz.prog 45 (.agg [.sc (.int .i64 0), .sc (.int .i64 0)]) := ⟨zv45⟩
@[go_sem] theorem zo45 : zok Tryz.prog 45 2 := by simp only [zok, zv45]; rfl
instance izo45 : ZoF Tryz.prog 45 2 := ⟨zo45⟩
@[go_sem] theorem ty52 : tyv Tryz.prog 52 = some (true, 7) := by kernel_rfl
instance ity52 : TyF Tryz.prog 52 true 7 := ⟨ty52⟩
@[go_sem] theorem fl52_0 : fldv Tryz.prog 52 0 = some (0, false, 1) := by kernel_rfl
instance ifl52_0 : FlF Tryz.prog 52 0 0 false 1 := ⟨fl52_0⟩
@[go_sem] theorem fl52_1 : fldv Tryz.prog 52 1 = some (1, false, 1) := by kernel_rfl
instance ifl52_1 : FlF Tryz.prog 52 1 1 false 1 := ⟨fl52_1⟩
@[go_sem] theorem fl52_2 : fldv Tryz.prog 52 2 = some (2, false, 1) := by kernel_rfl
instance ifl52_2 : FlF Tryz.prog 52 2 2 false 1 := ⟨fl52_2⟩
@[go_sem] theorem fl52_3 : fldv Tryz.prog 52 3 = some (3, false, 1) := by kernel_rfl
instance ifl52_3 : FlF Tryz.prog 52 3 3 false 1 := ⟨fl52_3⟩
@[go_sem] theorem fl52_4 : fldv Tryz.prog 52 4 = some (4, true, 3) := by kernel_rfl
instance ifl52_4 : FlF Tryz.prog 52 4 4 true 3 := ⟨fl52_4⟩
@[go_sem] theorem pl52 : places Tryz.prog 52 = some [(0, 1), (1, 1), (2, 1), (3, 1), (4, 3)] := by kernel_rfl
instance ipl52 : PlF Tryz.prog 52 [(0, 1), (1, 1), (2, 1), (3, 1), (4, 3)] := ⟨pl52⟩
@[go_sem] theorem zv52 : zv Tryz.prog 52 = some (.agg [.sc (.int .i64 0), .sc (.int .i64 0), .sc (.int .i64 0), .sc (.int .i64 0), .sc (.int .i64 0), .sc (.int .i64 0), .sc (.int .i64 0)]) := by kernel_rfl
instance izv52 : ZvF Tryz.prog 52 (.agg [.sc (.int .i64 0), .sc (.int .i64 0), .sc (.int .i64 0), .sc (.int .i64 0), .sc (.int .i64 0), .sc (.int .i64 0), .sc (.int .i64 0)]) := ⟨zv52⟩
@[go_sem] theorem zo52 : zok Tryz.prog 52 7 := by simp only [zok, zv52]; rfl
instance izo52 : ZoF Tryz.prog 52 7 := ⟨zo52⟩
@[go_sem] theorem ty54 : tyv Tryz.prog 54 = some (false, 1) := by kernel_rfl
instance ity54 : TyF Tryz.prog 54 false 1 := ⟨ty54⟩
@[go_sem] theorem sl54 : slv Tryz.prog 54 = some (52, 7, 56) := by kernel_rfl
instance isl54 : SlF Tryz.prog 54 52 7 56 := ⟨sl54⟩
@[go_sem] theorem ty56 : tyv Tryz.prog 56 = some (true, 3) := by kernel_rfl
instance ity56 : TyF Tryz.prog 56 true 3 := ⟨ty56⟩
@[go_sem] theorem fl56_0 : fldv Tryz.prog 56 0 = some (0, false, 1) := by kernel_rfl
instance ifl56_0 : FlF Tryz.prog 56 0 0 false 1 := ⟨fl56_0⟩
@[go_sem] theorem fl56_1 : fldv Tryz.prog 56 1 = some (1, false, 1) := by kernel_rfl
instance ifl56_1 : FlF Tryz.prog 56 1 1 false 1 := ⟨fl56_1⟩
@[go_sem] theorem fl56_2 : fldv Tryz.prog 56 2 = some (2, false, 1) := by kernel_rfl
instance ifl56_2 : FlF Tryz.prog 56 2 2 false 1 := ⟨fl56_2⟩
@[go_sem] theorem pl56 : places Tryz.prog 56 = some [(0, 1), (1, 1), (2, 1)] := by kernel_rfl
instance ipl56 : PlF Tryz.prog 56 [(0, 1), (1, 1), (2, 1)] := ⟨pl56⟩
@[go_sem] theorem zv56 : zv Tryz.prog 56 = some (.agg [.sc (.int .i64 0), .sc (.int .i64 0), .sc (.slice none 0 0)]) := by kernel_rfl
instance izv56 : ZvF Tryz.prog 56 (.agg [.sc (.int .i64 0), .sc (.int .i64 0), .sc (.slice none 0 0)]) := ⟨zv56⟩
@[go_sem] theorem zo56 : zok Tryz.prog 56 3 := by simp only [zok, zv56]; rfl
instance izo56 : ZoF Tryz.prog 56 3 := ⟨zo56⟩
@[go_sem] theorem sl57 : slv Tryz.prog 57 = some (60, 2, 16) := by kernel_rfl
instance isl57 : SlF Tryz.prog 57 60 2 16 := ⟨sl57⟩
@[go_sem] theorem ty58 : tyv Tryz.prog 58 = some (false, 1) := by kernel_rfl
instance ity58 : TyF Tryz.prog 58 false 1 := ⟨ty58⟩
@[go_sem] theorem sl58 : slv Tryz.prog 58 = some (60, 2, 16) := by kernel_rfl
instance isl58 : SlF Tryz.prog 58 60 2 16 := ⟨sl58⟩
@[go_sem] theorem zv58 : zv Tryz.prog 58 = some (.sc (.slice none 0 0)) := by kernel_rfl
@[go_sem] theorem zo58 : zok Tryz.prog 58 1 := by simp only [zok, zv58]; rfl
instance izo58 : ZoF Tryz.prog 58 1 := ⟨zo58⟩
@[go_sem] theorem ty60 : tyv Tryz.prog 60 = some (true, 2) := by kernel_rfl
instance ity60 : TyF Tryz.prog 60 true 2 := ⟨ty60⟩
@[go_sem] theorem fl60_0 : fldv Tryz.prog 60 0 = some (0, false, 1) := by kernel_rfl
instance ifl60_0 : FlF Tryz.prog 60 0 0 false 1 := ⟨fl60_0⟩
@[go_sem] theorem fl60_1 : fldv Tryz.prog 60 1 = some (1, false, 1) := by kernel_rfl
instance ifl60_1 : FlF Tryz.prog 60 1 1 false 1 := ⟨fl60_1⟩
@[go_sem] theorem pl60 : places Tryz.prog 60 = some [(0, 1), (1, 1)] := by kernel_rfl
instance ipl60 : PlF Tryz.prog 60 [(0, 1), (1, 1)] := ⟨pl60⟩
@[go_sem] theorem zv60 : zv Tryz.prog 60 = some (.agg [.sc (.int .i64 0), .sc (.int .i64 0)]) := by kernel_rfl
instance izv60 : ZvF Tryz.prog 60 (.agg [.sc (.int .i64 0), .sc (.int .i64 0)]) := ⟨zv60⟩
@[go_sem] theorem zo60 : zok Tryz.prog 60 2 := by simp only [zok, zv60]; rfl
instance izo60 : ZoF Tryz.prog 60 2 := ⟨zo60⟩
@[go_sem] theorem ty62 : tyv Tryz.prog 62 = some (false, 1) := by kernel_rfl
instance ity62 : TyF Tryz.prog 62 false 1 := ⟨ty62⟩
@[go_sem] theorem ty64 : tyv Tryz.prog 64 = some (true, 13) := by kernel_rfl
instance ity64 : TyF Tryz.prog 64 true 13 := ⟨ty64⟩
@[go_sem] theorem sl64 : slv Tryz.prog 64 = none := by kernel_rfl
instance isl64 : SlN Tryz.prog 64 := ⟨sl64⟩
@[go_sem] theorem ar64 : arv Tryz.prog 64 = some (13, false, 1) := by kernel_rfl
instance iar64 : ArF Tryz.prog 64 13 false 1 := ⟨ar64⟩
@[go_sem] theorem zv64 : zv Tryz.prog 64 = some (.agg [.sc (.int .i64 0), .sc (.int .i64 0), .sc (.int .i64 0), .sc (.int .i64 0), .sc (.int .i64 0), .sc (.int .i64 0), .sc (.int .i64 0), .sc (.int .i64 0), .sc (.int .i64 0), .sc (.int .i64 0), .sc (.int .i64 0), .sc (.int .i64 0), .sc (.int .i64 0)]) := by kernel_rfl
instance izv64 : ZvF Tryz.prog 64 (.agg [.sc (.int .i64 0), .sc (.int .i64 0), .sc (.int .i64 0), .sc (.int .i64 0), .sc (.int .i64 0), .sc (.int .i64 0), .sc (.int .i64 0), .sc (.int .i64 0), .sc (.int .i64 0), .sc (.int .i64 0), .sc (.int .i64 0), .sc (.int .i64 0), .sc (.int .i64 0)]) := ⟨zv64⟩
@[go_sem] theorem ty66 : tyv Tryz.prog 66 = some (true, 13) := by kernel_rfl
instance ity66 : TyF Tryz.prog 66 true 13 := ⟨ty66⟩
@[go_sem] theorem sl66 : slv Tryz.prog 66 = none := by kernel_rfl
instance isl66 : SlN Tryz.prog 66 := ⟨sl66⟩
@[go_sem] theorem ar66 : arv Tryz.prog 66 = some (13, false, 1) := by kernel_rfl
instance iar66 : ArF Tryz.prog 66 13 false 1 := ⟨ar66⟩
@[go_sem] theorem zv66 : zv Tryz.prog 66 = some (.agg [.sc (.bool false), .sc (.bool false), .sc (.bool false), .sc (.bool false), .sc (.bool false), .sc (.bool false), .sc (.bool false), .sc (.bool false), .sc (.bool false), .sc (.bool false), .sc (.bool false), .sc (.bool false), .sc (.bool false)]) := by kernel_rfl
instance izv66 : ZvF Tryz.prog 66 (.agg [.sc (.bool false), .sc (.bool false), .sc (.bool false), .sc (.bool false), .sc (.bool false), .sc (.bool false), .sc (.bool false), .sc (.bool false), .sc (.bool false), .sc (.bool false), .sc (.bool false), .sc (.bool false), .sc (.bool false)]) := ⟨zv66⟩
@[go_sem] theorem ty72 : tyv Tryz.prog 72 = some (false, 1) := by kernel_rfl
instance ity72 : TyF Tryz.prog 72 false 1 := ⟨ty72⟩
@[go_sem] theorem sl72 : slv Tryz.prog 72 = some (90, 5, 40) := by kernel_rfl
instance isl72 : SlF Tryz.prog 72 90 5 40 := ⟨sl72⟩
@[go_sem] theorem ty74 : tyv Tryz.prog 74 = some (true, 9) := by kernel_rfl
instance ity74 : TyF Tryz.prog 74 true 9 := ⟨ty74⟩
@[go_sem] theorem fl74_0 : fldv Tryz.prog 74 0 = some (0, false, 1) := by kernel_rfl
instance ifl74_0 : FlF Tryz.prog 74 0 0 false 1 := ⟨fl74_0⟩
@[go_sem] theorem fl74_1 : fldv Tryz.prog 74 1 = some (1, false, 1) := by kernel_rfl
instance ifl74_1 : FlF Tryz.prog 74 1 1 false 1 := ⟨fl74_1⟩
@[go_sem] theorem fl74_2 : fldv Tryz.prog 74 2 = some (2, false, 1) := by kernel_rfl
instance ifl74_2 : FlF Tryz.prog 74 2 2 false 1 := ⟨fl74_2⟩
@[go_sem] theorem fl74_3 : fldv Tryz.prog 74 3 = some (3, true, 3) := by kernel_rfl
instance ifl74_3 : FlF Tryz.prog 74 3 3 true 3 := ⟨fl74_3⟩
@[go_sem] theorem fl74_4 : fldv Tryz.prog 74 4 = some (6, false, 1) := by kernel_rfl
instance ifl74_4 : FlF Tryz.prog 74 4 6 false 1 := ⟨fl74_4⟩
@[go_sem] theorem fl74_5 : fldv Tryz.prog 74 5 = some (7, false, 1) := by kernel_rfl
instance ifl74_5 : FlF Tryz.prog 74 5 7 false 1 := ⟨fl74_5⟩
@[go_sem] theorem fl74_6 : fldv Tryz.prog 74 6 = some (8, false, 1) := by kernel_rfl
instance ifl74_6 : FlF Tryz.prog 74 6 8 false 1 := ⟨fl74_6⟩
@[go_sem] theorem pl74 : places Tryz.prog 74 = some [(0, 1), (1, 1), (2, 1), (3, 3), (6, 1), (7, 1), (8, 1)] := by kernel_rfl
instance ipl74 : PlF Tryz.prog 74 [(0, 1), (1, 1), (2, 1), (3, 3), (6, 1), (7, 1), (8, 1)] := ⟨pl74⟩
@[go_sem] theorem zv74 : zv Tryz.prog 74 = some (.agg [.sc (.slice none 0 0), .sc (.slice none 0 0), .sc (.slice none 0 0), .sc (.int .i64 0), .sc (.int .i64 0), .sc (.int .i64 0), .sc (.int .i64 0), .sc (.int .i64 0), .sc (.int .i64 0)]) := by kernel_rfl
instance izv74 : ZvF Tryz.prog 74 (.agg [.sc (.slice none 0 0), .sc (.slice none 0 0), .sc (.slice none 0 0), .sc (.int .i64 0), .sc (.int .i64 0), .sc (.int .i64 0), .sc (.int .i64 0), .sc (.int .i64 0), .sc (.int .i64 0)]) := ⟨zv74⟩
@[go_sem] theorem sl79 : slv Tryz.prog 79 = some (58, 1, 24) := by kernel_rfl
instance isl79 : SlF Tryz.prog 79 58 1 24 := ⟨sl79⟩
@[go_sem] theorem sl82 : slv Tryz.prog 82 = some (4, 1, 1) := by kernel_rfl
instance isl82 : SlF Tryz.prog 82 4 1 1 := ⟨sl82⟩
@[go_sem] theorem ty90 : tyv Tryz.prog 90 = some (true, 5) := by kernel_rfl
instance ity90 : TyF Tryz.prog 90 true 5 := ⟨ty90⟩
@[go_sem] theorem fl90_0 : fldv Tryz.prog 90 0 = some (0, false, 1) := by kernel_rfl
instance ifl90_0 : FlF Tryz.prog 90 0 0 false 1 := ⟨fl90_0⟩
@[go_sem] theorem fl90_1 : fldv Tryz.prog 90 1 = some (1, false, 1) := by kernel_rfl
instance ifl90_1 : FlF Tryz.prog 90 1 1 false 1 := ⟨fl90_1⟩
@[go_sem] theorem fl90_2 : fldv Tryz.prog 90 2 = some (2, false, 1) := by kernel_rfl
instance ifl90_2 : FlF Tryz.prog 90 2 2 false 1 := ⟨fl90_2⟩
@[go_sem] theorem fl90_3 : fldv Tryz.prog 90 3 = some (3, false, 1) := by kernel_rfl
instance ifl90_3 : FlF Tryz.prog 90 3 3 false 1 := ⟨fl90_3⟩
@[go_sem] theorem fl90_4 : fldv Tryz.prog 90 4 = some (4, false, 1) := by kernel_rfl
instance ifl90_4 : FlF Tryz.prog 90 4 4 false 1 := ⟨fl90_4⟩
@[go_sem] theorem pl90 : places Tryz.prog 90 = some [(0, 1), (1, 1), (2, 1), (3, 1), (4, 1)] := by kernel_rfl
instance ipl90 : PlF Tryz.prog 90 [(0, 1), (1, 1), (2, 1), (3, 1), (4, 1)] := ⟨pl90⟩
@[go_sem] theorem zv90 : zv Tryz.prog 90 = some (.agg [.sc (.int .i64 0), .sc (.int .i64 0), .sc (.int .i64 0), .sc (.int .i64 0), .sc (.int .i64 0)]) := by kernel_rfl
instance izv90 : ZvF Tryz.prog 90 (.agg [.sc (.int .i64 0), .sc (.int .i64 0), .sc (.int .i64 0), .sc (.int .i64 0), .sc (.int .i64 0)]) := ⟨zv90⟩
@[go_sem] theorem zo90 : zok Tryz.prog 90 5 := by simp only [zok, zv90]; rfl
instance izo90 : ZoF Tryz.prog 90 5 := ⟨zo90⟩
@[go_sem] theorem mp106 : mpv Tryz.prog 106 = some ((.int .i64), 90) := by kernel_rfl
instance imp106 : MpF Tryz.prog 106 ((.int .i64)) 90 := ⟨mp106⟩
@[go_sem] theorem un116 : Tryz.prog.underlying 116 = some (.int .u64) := by kernel_rfl
instance iun116 : UnF Tryz.prog 116 (.int .u64) := ⟨un116⟩
theorem hb4 : hasBody Tryz.prog 4 := ⟨Tryz.f4, _, Tryz.func4, rfl, by decide +kernel⟩
instance ihb4 : HbF Tryz.prog 4 := ⟨hb4⟩
theorem hb5 : hasBody Tryz.prog 5 := ⟨Tryz.f5, _, Tryz.func5, rfl, by decide +kernel⟩
instance ihb5 : HbF Tryz.prog 5 := ⟨hb5⟩
theorem hb6 : hasBody Tryz.prog 6 := ⟨Tryz.f6, _, Tryz.func6, rfl, by decide +kernel⟩
instance ihb6 : HbF Tryz.prog 6 := ⟨hb6⟩
theorem hb7 : hasBody Tryz.prog 7 := ⟨Tryz.f7, _, Tryz.func7, rfl, by decide +kernel⟩
instance ihb7 : HbF Tryz.prog 7 := ⟨hb7⟩
theorem hb8 : hasBody Tryz.prog 8 := ⟨Tryz.f8, _, Tryz.func8, rfl, by decide +kernel⟩
instance ihb8 : HbF Tryz.prog 8 := ⟨hb8⟩
theorem hb9 : hasBody Tryz.prog 9 := ⟨Tryz.f9, _, Tryz.func9, rfl, by decide +kernel⟩
instance ihb9 : HbF Tryz.prog 9 := ⟨hb9⟩
theorem hb10 : hasBody Tryz.prog 10 := ⟨Tryz.f10, _, Tryz.func10, rfl, by decide +kernel⟩
instance ihb10 : HbF Tryz.prog 10 := ⟨hb10⟩
theorem hb11 : hasBody Tryz.prog 11 := ⟨Tryz.f11, _, Tryz.func11, rfl, by decide +kernel⟩
instance ihb11 : HbF Tryz.prog 11 := ⟨hb11⟩
theorem hb12 : hasBody Tryz.prog 12 := ⟨Tryz.f12, _, Tryz.func12, rfl, by decide +kernel⟩
instance ihb12 : HbF Tryz.prog 12 := ⟨hb12⟩
theorem hb13 : hasBody Tryz.prog 13 := ⟨Tryz.f13, _, Tryz.func13, rfl, by decide +kernel⟩
instance ihb13 : HbF Tryz.prog 13 := ⟨hb13⟩
theorem hb14 : hasBody Tryz.prog 14 := ⟨Tryz.f14, _, Tryz.func14, rfl, by decide +kernel⟩
instance ihb14 : HbF Tryz.prog 14 := ⟨hb14⟩
theorem hb15 : hasBody Tryz.prog 15 := ⟨Tryz.f15, _, Tryz.func15, rfl, by decide +kernel⟩
instance ihb15 : HbF Tryz.prog 15 := ⟨hb15⟩
theorem hb16 : hasBody Tryz.prog 16 := ⟨Tryz.f16, _, Tryz.func16, rfl, by decide +kernel⟩
instance ihb16 : HbF Tryz.prog 16 := ⟨hb16⟩
theorem hb17 : hasBody Tryz.prog 17 := ⟨Tryz.f17, _, Tryz.func17, rfl, by decide +kernel⟩
instance ihb17 : HbF Tryz.prog 17 := ⟨hb17⟩
theorem hb18 : hasBody Tryz.prog 18 := ⟨Tryz.f18, _, Tryz.func18, rfl, by decide +kernel⟩
instance ihb18 : HbF Tryz.prog 18 := ⟨hb18⟩
theorem hb19 : hasBody Tryz.prog 19 := ⟨Tryz.f19, _, Tryz.func19, rfl, by decide +kernel⟩
instance ihb19 : HbF Tryz.prog 19 := ⟨hb19⟩
theorem hb20 : hasBody Tryz.prog 20 := ⟨Tryz.f20, _, Tryz.func20, rfl, by decide +kernel⟩
instance ihb20 : HbF Tryz.prog 20 := ⟨hb20⟩
theorem hb21 : hasBody Tryz.prog 21 := ⟨Tryz.f21, _, Tryz.func21, rfl, by decide +kernel⟩
instance ihb21 : HbF Tryz.prog 21 := ⟨hb21⟩
theorem hb22 : hasBody Tryz.prog 22 := ⟨Tryz.f22, _, Tryz.func22, rfl, by decide +kernel⟩
instance ihb22 : HbF Tryz.prog 22 := ⟨hb22⟩
theorem hb23 : hasBody Tryz.prog 23 := ⟨Tryz.f23, _, Tryz.func23, rfl, by decide +kernel⟩
instance ihb23 : HbF Tryz.prog 23 := ⟨hb23⟩
theorem hb24 : hasBody Tryz.prog 24 := ⟨Tryz.f24, _, Tryz.func24, rfl, by decide +kernel⟩
instance ihb24 : HbF Tryz.prog 24 := ⟨hb24⟩
theorem hb25 : hasBody Tryz.prog 25 := ⟨Tryz.f25, _, Tryz.func25, rfl, by decide +kernel⟩
instance ihb25 : HbF Tryz.prog 25 := ⟨hb25⟩
theorem hb26 : hasBody Tryz.prog 26 := ⟨Tryz.f26, _, Tryz.func26, rfl, by decide +kernel⟩
instance ihb26 : HbF Tryz.prog 26 := ⟨hb26⟩
theorem hb27 : hasBody Tryz.prog 27 := ⟨Tryz.f27, _, Tryz.func27, rfl, by decide +kernel⟩
instance ihb27 : HbF Tryz.prog 27 := ⟨hb27⟩
theorem hb28 : hasBody Tryz.prog 28 := ⟨Tryz.f28, _, Tryz.func28, rfl, by decide +kernel⟩
instance ihb28 : HbF Tryz.prog 28 := ⟨hb28⟩
theorem hb29 : hasBody Tryz.prog 29 := ⟨Tryz.f29, _, Tryz.func29, rfl, by decide +kernel⟩
instance ihb29 : HbF Tryz.prog 29 := ⟨hb29⟩
theorem hb30 : hasBody Tryz.prog 30 := ⟨Tryz.f30, _, Tryz.func30, rfl, by decide +kernel⟩
instance ihb30 : HbF Tryz.prog 30 := ⟨hb30⟩
theorem hb31 : hasBody Tryz.prog 31 := ⟨Tryz.f31, _, Tryz.func31, rfl, by decide +kernel⟩
instance ihb31 : HbF Tryz.prog 31 := ⟨hb31⟩
theorem hb32 : hasBody Tryz.prog 32 := ⟨Tryz.f32, _, Tryz.func32, rfl, by decide +kernel⟩
instance ihb32 : HbF Tryz.prog 32 := ⟨hb32⟩
theorem hb33 : hasBody Tryz.prog 33 := ⟨Tryz.f33, _, Tryz.func33, rfl, by decide +kernel⟩
instance ihb33 : HbF Tryz.prog 33 := ⟨hb33⟩
theorem hb34 : hasBody Tryz.prog 34 := ⟨Tryz.f34, _, Tryz.func34, rfl, by decide +kernel⟩
instance ihb34 : HbF Tryz.prog 34 := ⟨hb34⟩
theorem hb35 : hasBody Tryz.prog 35 := ⟨Tryz.f35, _, Tryz.func35, rfl, by decide +kernel⟩
instance ihb35 : HbF Tryz.prog 35 := ⟨hb35⟩
theorem hb36 : hasBody Tryz.prog 36 := ⟨Tryz.f36, _, Tryz.func36, rfl, by decide +kernel⟩
instance ihb36 : HbF Tryz.prog 36 := ⟨hb36⟩
theorem hb37 : hasBody Tryz.prog 37 := ⟨Tryz.f37, _, Tryz.func37, rfl, by decide +kernel⟩
instance ihb37 : HbF Tryz.prog 37 := ⟨hb37⟩
theorem hb38 : hasBody Tryz.prog 38 := ⟨Tryz.f38, _, Tryz.func38, rfl, by decide +kernel⟩
instance ihb38 : HbF Tryz.prog 38 := ⟨hb38⟩
theorem hb39 : hasBody Tryz.prog 39 := ⟨Tryz.f39, _, Tryz.func39, rfl, by decide +kernel⟩
instance ihb39 : HbF Tryz.prog 39 := ⟨hb39⟩
theorem hb40 : hasBody Tryz.prog 40 := ⟨Tryz.f40, _, Tryz.func40, rfl, by decide +kernel⟩
instance ihb40 : HbF Tryz.prog 40 := ⟨hb40⟩
theorem hb41 : hasBody Tryz.prog 41 := ⟨Tryz.f41, _, Tryz.func41, rfl, by decide +kernel⟩
instance ihb41 : HbF Tryz.prog 41 := ⟨hb41⟩
theorem hb42 : hasBody Tryz.prog 42 := ⟨Tryz.f42, _, Tryz.func42, rfl, by decide +kernel⟩
instance ihb42 : HbF Tryz.prog 42 := ⟨hb42⟩
theorem hb43 : hasBody Tryz.prog 43 := ⟨Tryz.f43, _, Tryz.func43, rfl, by decide +kernel⟩
instance ihb43 : HbF Tryz.prog 43 := ⟨hb43⟩
theorem hb44 : hasBody Tryz.prog 44 := ⟨Tryz.f44, _, Tryz.func44, rfl, by decide +kernel⟩
instance ihb44 : HbF Tryz.prog 44 := ⟨hb44⟩
theorem hb45 : hasBody Tryz.prog 45 := ⟨Tryz.f45, _, Tryz.func45, rfl, by decide +kernel⟩
instance ihb45 : HbF Tryz.prog 45 := ⟨hb45⟩
theorem hb46 : hasBody Tryz.prog 46 := ⟨Tryz.f46, _, Tryz.func46, rfl, by decide +kernel⟩
instance ihb46 : HbF Tryz.prog 46 := ⟨hb46⟩
theorem hb47 : hasBody Tryz.prog 47 := ⟨Tryz.f47, _, Tryz.func47, rfl, by decide +kernel⟩
instance ihb47 : HbF Tryz.prog 47 := ⟨hb47⟩
theorem hb48 : hasBody Tryz.prog 48 := ⟨Tryz.f48, _, Tryz.func48, rfl, by decide +kernel⟩
instance ihb48 : HbF Tryz.prog 48 := ⟨hb48⟩
theorem hb49 : hasBody Tryz.prog 49 := ⟨Tryz.f49, _, Tryz.func49, rfl, by decide +kernel⟩
instance ihb49 : HbF Tryz.prog 49 := ⟨hb49⟩
theorem hb50 : hasBody Tryz.prog 50 := ⟨Tryz.f50, _, Tryz.func50, rfl, by decide +kernel⟩
instance ihb50 : HbF Tryz.prog 50 := ⟨hb50⟩
theorem hb51 : hasBody Tryz.prog 51 := ⟨Tryz.f51, _, Tryz.func51, rfl, by decide +kernel⟩
theorem hb52 : hasBody Tryz.prog 52 := ⟨Tryz.f52, _, Tryz.func52, rfl, by decide +kernel⟩
instance ihb52 : HbF Tryz.prog 52 := ⟨hb52⟩
theorem hb53 : hasBody Tryz.prog 53 := ⟨Tryz.f53, _, Tryz.func53, rfl, by decide +kernel⟩
instance ihb53 : HbF Tryz.prog 53 := ⟨hb53⟩
theorem hb54 : hasBody Tryz.prog 54 := ⟨Tryz.f54, _, Tryz.func54, rfl, by decide +kernel⟩
instance ihb54 : HbF Tryz.prog 54 := ⟨hb54⟩
theorem hb55 : hasBody Tryz.prog 55 := ⟨Tryz.f55, _, Tryz.func55, rfl, by decide +kernel⟩
instance ihb55 : HbF Tryz.prog 55 := ⟨hb55⟩
theorem hb56 : hasBody Tryz.prog 56 := ⟨Tryz.f56, _, Tryz.func56, rfl, by decide +kernel⟩
instance ihb56 : HbF Tryz.prog 56 := ⟨hb56⟩
theorem hb57 : hasBody Tryz.prog 57 := ⟨Tryz.f57, _, Tryz.func57, rfl, by decide +kernel⟩
instance ihb57 : HbF Tryz.prog 57 := ⟨hb57⟩
theorem hb58 : hasBody Tryz.prog 58 := ⟨Tryz.f58, _, Tryz.func58, rfl, by decide +kernel⟩
instance ihb58 : HbF Tryz.prog 58 := ⟨hb58⟩
theorem hb59 : hasBody Tryz.prog 59 := ⟨Tryz.f59, _, Tryz.func59, rfl, by decide +kernel⟩
instance ihb59 : HbF Tryz.prog 59 := ⟨hb59⟩
theorem hb60 : hasBody Tryz.prog 60 := ⟨Tryz.f60, _, Tryz.func60, rfl, by decide +kernel⟩
theorem hb61 : hasBody Tryz.prog 61 := ⟨Tryz.f61, _, Tryz.func61, rfl, by decide +kernel⟩
instance ihb61 : HbF Tryz.prog 61 := ⟨hb61⟩
theorem hb62 : hasBody Tryz.prog 62 := ⟨Tryz.f62, _, Tryz.func62, rfl, by decide +kernel⟩
instance ihb62 : HbF Tryz.prog 62 := ⟨hb62⟩
theorem hb63 : hasBody Tryz.prog 63 := ⟨Tryz.f63, _, Tryz.func63, rfl, by decide +kernel⟩
instance ihb63 : HbF Tryz.prog 63 := ⟨hb63⟩
theorem hb64 : hasBody Tryz.prog 64 := ⟨Tryz.f64, _, Tryz.func64, rfl, by decide +kernel⟩
instance ihb64 : HbF Tryz.prog 64 := ⟨hb64⟩
theorem hb65 : hasBody Tryz.prog 65 := ⟨Tryz.f65, _, Tryz.func65, rfl, by decide +kernel⟩
instance ihb65 : HbF Tryz.prog 65 := ⟨hb65⟩
theorem hb66 : hasBody Tryz.prog 66 := ⟨Tryz.f66, _, Tryz.func66, rfl, by decide +kernel⟩
instance ihb66 : HbF Tryz.prog 66 := ⟨hb66⟩
theorem hb67 : hasBody Tryz.prog 67 := ⟨Tryz.f67, _, Tryz.func67, rfl, by decide +kernel⟩
instance ihb67 : HbF Tryz.prog 67 := ⟨hb67⟩
theorem hb69 : hasBody Tryz.prog 69 := ⟨Tryz.f69, _, Tryz.func69, rfl, by decide +kernel⟩
instance ihb69 : HbF Tryz.prog 69 := ⟨hb69⟩
theorem hb70 : hasBody Tryz.prog 70 := ⟨Tryz.f70, _, Tryz.func70, rfl, by decide +kernel⟩
instance ihb70 : HbF Tryz.prog 70 := ⟨hb70⟩
theorem hb72 : hasBody Tryz.prog 72 := ⟨Tryz.f72, _, Tryz.func72, rfl, by decide +kernel⟩
instance ihb72 : HbF Tryz.prog 72 := ⟨hb72⟩
theorem hb73 : hasBody Tryz.prog 73 := ⟨Tryz.f73, _, Tryz.func73, rfl, by decide +kernel⟩
instance ihb73 : HbF Tryz.prog 73 := ⟨hb73⟩
theorem hb74 : hasBody Tryz.prog 74 := ⟨Tryz.f74, _, Tryz.func74, rfl, by decide +kernel⟩
instance ihb74 : HbF Tryz.prog 74 := ⟨hb74⟩
theorem hb75 : hasBody Tryz.prog 75 := ⟨Tryz.f75, _, Tryz.func75, rfl, by decide +kernel⟩
instance ihb75 : HbF Tryz.prog 75 := ⟨hb75⟩
theorem hb76 : hasBody Tryz.prog 76 := ⟨Tryz.f76, _, Tryz.func76, rfl, by decide +kernel⟩
instance ihb76 : HbF Tryz.prog 76 := ⟨hb76⟩
theorem hb77 : hasBody Tryz.prog 77 := ⟨Tryz.f77, _, Tryz.func77, rfl, by decide +kernel⟩
instance ihb77 : HbF Tryz.prog 77 := ⟨hb77⟩
theorem hb78 : hasBody Tryz.prog 78 := ⟨Tryz.f78, _, Tryz.func78, rfl, by decide +kernel⟩
instance ihb78 : HbF Tryz.prog 78 := ⟨hb78⟩
theorem hb79 : hasBody Tryz.prog 79 := ⟨Tryz.f79, _, Tryz.func79, rfl, by decide +kernel⟩
theorem hb80 : hasBody Tryz.prog 80 := ⟨Tryz.f80, _, Tryz.func80, rfl, by decide +kernel⟩
instance ihb80 : HbF Tryz.prog 80 := ⟨hb80⟩
theorem hb83 : hasBody Tryz.prog 83 := ⟨Tryz.f83, _, Tryz.func83, rfl, by decide +kernel⟩
instance ihb83 : HbF Tryz.prog 83 := ⟨hb83⟩
theorem hb84 : hasBody Tryz.prog 84 := ⟨Tryz.f84, _, Tryz.func84, rfl, by decide +kernel⟩
theorem hb87 : hasBody Tryz.prog 87 := ⟨Tryz.f87, _, Tryz.func87, rfl, by decide +kernel⟩
instance ihb87 : HbF Tryz.prog 87 := ⟨hb87⟩
theorem hb89 : hasBody Tryz.prog 89 := ⟨Tryz.f89, _, Tryz.func89, rfl, by decide +kernel⟩
instance ihb89 : HbF Tryz.prog 89 := ⟨hb89⟩
theorem hb90 : hasBody Tryz.prog 90 := ⟨Tryz.f90, _, Tryz.func90, rfl, by decide +kernel⟩
instance ihb90 : HbF Tryz.prog 90 := ⟨hb90⟩
theorem hb91 : hasBody Tryz.prog 91 := ⟨Tryz.f91, _, Tryz.func91, rfl, by decide +kernel⟩
instance ihb91 : HbF Tryz.prog 91 := ⟨hb91⟩
end Go.Proofs
