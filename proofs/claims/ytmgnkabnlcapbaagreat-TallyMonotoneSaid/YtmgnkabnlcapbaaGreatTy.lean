/- Facts about the types and functions of this seat, for the abstract machine (written by gentypes.py). -/
import Derived.Test.YtmgnkabnlcapbaaGreatMe
import Derived.Test.YtmgnkabnlcapbaaGreatProg
import Derived.KernelRfl
set_option maxRecDepth 8000
namespace Go.Proofs
open Go.AM
theorem mixed : Tryz.prog.follows .mixedOrders = true := by kernel_rfl
@[go_sem] theorem ty3 : tyv Tryz.prog 3 = some (false, 1) := by kernel_rfl
instance ity3 : TyF Tryz.prog 3 false 1 := ⟨ty3⟩
@[go_sem] theorem un3 : Tryz.prog.underlying 3 = some (.int .i64) := by kernel_rfl
instance iun3 : UnF Tryz.prog 3 (.int .i64) := ⟨un3⟩
@[go_sem] theorem zv3 : zv Tryz.prog 3 = some (.sc (.int .i64 0)) := by kernel_rfl
instance izv3 : ZvF Tryz.prog 3 (.sc (.int .i64 0)) := ⟨zv3⟩
@[go_sem] theorem zo3 : zok Tryz.prog 3 1 := by simp only [zok, zv3]; rfl
instance izo3 : ZoF Tryz.prog 3 1 := ⟨zo3⟩
@[go_sem] theorem ty4 : tyv Tryz.prog 4 = some (false, 1) := by kernel_rfl
instance ity4 : TyF Tryz.prog 4 false 1 := ⟨ty4⟩
@[go_sem] theorem zv4 : zv Tryz.prog 4 = some (.sc (.bool false)) := by kernel_rfl
instance izv4 : ZvF Tryz.prog 4 (.sc (.bool false)) := ⟨zv4⟩
@[go_sem] theorem ty22 : tyv Tryz.prog 22 = some (false, 1) := by kernel_rfl
instance ity22 : TyF Tryz.prog 22 false 1 := ⟨ty22⟩
@[go_sem] theorem sl22 : slv Tryz.prog 22 = some (3, 1, 8) := by kernel_rfl
instance isl22 : SlF Tryz.prog 22 3 1 8 := ⟨sl22⟩
@[go_sem] theorem ty23 : tyv Tryz.prog 23 = some (false, 1) := by kernel_rfl
instance ity23 : TyF Tryz.prog 23 false 1 := ⟨ty23⟩
@[go_sem] theorem sl23 : slv Tryz.prog 23 = some (48, 2, 16) := by kernel_rfl
instance isl23 : SlF Tryz.prog 23 48 2 16 := ⟨sl23⟩
@[go_sem] theorem ty25 : tyv Tryz.prog 25 = some (true, 3) := by kernel_rfl
instance ity25 : TyF Tryz.prog 25 true 3 := ⟨ty25⟩
@[go_sem] theorem fl25_0 : fldv Tryz.prog 25 0 = some (0, false, 1) := by kernel_rfl
instance ifl25_0 : FlF Tryz.prog 25 0 0 false 1 := ⟨fl25_0⟩
@[go_sem] theorem fl25_1 : fldv Tryz.prog 25 1 = some (1, false, 1) := by kernel_rfl
instance ifl25_1 : FlF Tryz.prog 25 1 1 false 1 := ⟨fl25_1⟩
@[go_sem] theorem fl25_2 : fldv Tryz.prog 25 2 = some (2, false, 1) := by kernel_rfl
instance ifl25_2 : FlF Tryz.prog 25 2 2 false 1 := ⟨fl25_2⟩
@[go_sem] theorem pl25 : places Tryz.prog 25 = some [(0, 1), (1, 1), (2, 1)] := by kernel_rfl
instance ipl25 : PlF Tryz.prog 25 [(0, 1), (1, 1), (2, 1)] := ⟨pl25⟩
theorem eq25 : eqlT Tryz.prog 25 [.sc (.int .i64 0), .sc (.int .i64 0), .sc (.int .i64 0)] := eqlT_of (by kernel_rfl) ty25 (by kernel_rfl)
instance ieq25 : EqF Tryz.prog 25 ([.sc (.int .i64 0), .sc (.int .i64 0), .sc (.int .i64 0)]) := ⟨eq25⟩
@[go_sem] theorem zv25 : zv Tryz.prog 25 = some (.agg [.sc (.int .i64 0), .sc (.int .i64 0), .sc (.int .i64 0)]) := by kernel_rfl
instance izv25 : ZvF Tryz.prog 25 (.agg [.sc (.int .i64 0), .sc (.int .i64 0), .sc (.int .i64 0)]) := ⟨zv25⟩
@[go_sem] theorem ty27 : tyv Tryz.prog 27 = some (true, 4) := by kernel_rfl
instance ity27 : TyF Tryz.prog 27 true 4 := ⟨ty27⟩
@[go_sem] theorem fl27_0 : fldv Tryz.prog 27 0 = some (0, false, 1) := by kernel_rfl
instance ifl27_0 : FlF Tryz.prog 27 0 0 false 1 := ⟨fl27_0⟩
@[go_sem] theorem fl27_1 : fldv Tryz.prog 27 1 = some (1, true, 3) := by kernel_rfl
instance ifl27_1 : FlF Tryz.prog 27 1 1 true 3 := ⟨fl27_1⟩
@[go_sem] theorem pl27 : places Tryz.prog 27 = some [(0, 1), (1, 3)] := by kernel_rfl
instance ipl27 : PlF Tryz.prog 27 [(0, 1), (1, 3)] := ⟨pl27⟩
@[go_sem] theorem zv27 : zv Tryz.prog 27 = some (.agg [.sc (.slice none 0 0), .sc (.int .i64 0), .sc (.int .i64 0), .sc (.int .i64 0)]) := by kernel_rfl
instance izv27 : ZvF Tryz.prog 27 (.agg [.sc (.slice none 0 0), .sc (.int .i64 0), .sc (.int .i64 0), .sc (.int .i64 0)]) := ⟨zv27⟩
@[go_sem] theorem ty30 : tyv Tryz.prog 30 = some (false, 1) := by kernel_rfl
instance ity30 : TyF Tryz.prog 30 false 1 := ⟨ty30⟩
@[go_sem] theorem sl30 : slv Tryz.prog 30 = some (58, 3, 40) := by kernel_rfl
instance isl30 : SlF Tryz.prog 30 58 3 40 := ⟨sl30⟩
@[go_sem] theorem zv30 : zv Tryz.prog 30 = some (.sc (.slice none 0 0)) := by kernel_rfl
@[go_sem] theorem zo30 : zok Tryz.prog 30 1 := by simp only [zok, zv30]; rfl
instance izo30 : ZoF Tryz.prog 30 1 := ⟨zo30⟩
@[go_sem] theorem sl33 : slv Tryz.prog 33 = some (65, 2, 16) := by kernel_rfl
instance isl33 : SlF Tryz.prog 33 65 2 16 := ⟨sl33⟩
@[go_sem] theorem sl36 : slv Tryz.prog 36 = some (30, 1, 24) := by kernel_rfl
instance isl36 : SlF Tryz.prog 36 30 1 24 := ⟨sl36⟩
@[go_sem] theorem ty42 : tyv Tryz.prog 42 = some (true, 4) := by kernel_rfl
instance ity42 : TyF Tryz.prog 42 true 4 := ⟨ty42⟩
@[go_sem] theorem fl42_0 : fldv Tryz.prog 42 0 = some (0, false, 1) := by kernel_rfl
instance ifl42_0 : FlF Tryz.prog 42 0 0 false 1 := ⟨fl42_0⟩
@[go_sem] theorem fl42_1 : fldv Tryz.prog 42 1 = some (1, true, 3) := by kernel_rfl
instance ifl42_1 : FlF Tryz.prog 42 1 1 true 3 := ⟨fl42_1⟩
@[go_sem] theorem pl42 : places Tryz.prog 42 = some [(0, 1), (1, 3)] := by kernel_rfl
instance ipl42 : PlF Tryz.prog 42 [(0, 1), (1, 3)] := ⟨pl42⟩
@[go_sem] theorem zv42 : zv Tryz.prog 42 = some (.agg [.sc (.slice none 0 0), .sc (.int .i64 0), .sc (.int .i64 0), .sc (.int .i64 0)]) := by kernel_rfl
instance izv42 : ZvF Tryz.prog 42 (.agg [.sc (.slice none 0 0), .sc (.int .i64 0), .sc (.int .i64 0), .sc (.int .i64 0)]) := ⟨zv42⟩
@[go_sem] theorem ty48 : tyv Tryz.prog 48 = some (true, 2) := by kernel_rfl
instance ity48 : TyF Tryz.prog 48 true 2 := ⟨ty48⟩
@[go_sem] theorem fl48_0 : fldv Tryz.prog 48 0 = some (0, false, 1) := by kernel_rfl
instance ifl48_0 : FlF Tryz.prog 48 0 0 false 1 := ⟨fl48_0⟩
@[go_sem] theorem fl48_1 : fldv Tryz.prog 48 1 = some (1, false, 1) := by kernel_rfl
instance ifl48_1 : FlF Tryz.prog 48 1 1 false 1 := ⟨fl48_1⟩
@[go_sem] theorem pl48 : places Tryz.prog 48 = some [(0, 1), (1, 1)] := by kernel_rfl
instance ipl48 : PlF Tryz.prog 48 [(0, 1), (1, 1)] := ⟨pl48⟩
@[go_sem] theorem zv48 : zv Tryz.prog 48 = some (.agg [.sc (.int .i64 0), .sc (.int .i64 0)]) := by kernel_rfl
instance izv48 : ZvF Tryz.prog 48 (.agg [.sc (.int .i64 0), .sc (.int .i64 0)]) := ⟨zv48⟩
@[go_sem] theorem zo48 : zok Tryz.prog 48 2 := by simp only [zok, zv48]; rfl
instance izo48 : ZoF Tryz.prog 48 2 := ⟨zo48⟩
@[go_sem] theorem ty54 : tyv Tryz.prog 54 = some (true, 7) := by kernel_rfl
instance ity54 : TyF Tryz.prog 54 true 7 := ⟨ty54⟩
@[go_sem] theorem fl54_0 : fldv Tryz.prog 54 0 = some (0, false, 1) := by kernel_rfl
instance ifl54_0 : FlF Tryz.prog 54 0 0 false 1 := ⟨fl54_0⟩
@[go_sem] theorem fl54_1 : fldv Tryz.prog 54 1 = some (1, false, 1) := by kernel_rfl
instance ifl54_1 : FlF Tryz.prog 54 1 1 false 1 := ⟨fl54_1⟩
@[go_sem] theorem fl54_2 : fldv Tryz.prog 54 2 = some (2, false, 1) := by kernel_rfl
instance ifl54_2 : FlF Tryz.prog 54 2 2 false 1 := ⟨fl54_2⟩
@[go_sem] theorem fl54_3 : fldv Tryz.prog 54 3 = some (3, false, 1) := by kernel_rfl
instance ifl54_3 : FlF Tryz.prog 54 3 3 false 1 := ⟨fl54_3⟩
@[go_sem] theorem fl54_4 : fldv Tryz.prog 54 4 = some (4, true, 3) := by kernel_rfl
instance ifl54_4 : FlF Tryz.prog 54 4 4 true 3 := ⟨fl54_4⟩
@[go_sem] theorem pl54 : places Tryz.prog 54 = some [(0, 1), (1, 1), (2, 1), (3, 1), (4, 3)] := by kernel_rfl
instance ipl54 : PlF Tryz.prog 54 [(0, 1), (1, 1), (2, 1), (3, 1), (4, 3)] := ⟨pl54⟩
@[go_sem] theorem zv54 : zv Tryz.prog 54 = some (.agg [.sc (.int .i64 0), .sc (.int .i64 0), .sc (.int .i64 0), .sc (.int .i64 0), .sc (.int .i64 0), .sc (.int .i64 0), .sc (.int .i64 0)]) := by kernel_rfl
instance izv54 : ZvF Tryz.prog 54 (.agg [.sc (.int .i64 0), .sc (.int .i64 0), .sc (.int .i64 0), .sc (.int .i64 0), .sc (.int .i64 0), .sc (.int .i64 0), .sc (.int .i64 0)]) := ⟨zv54⟩
@[go_sem] theorem zo54 : zok Tryz.prog 54 7 := by simp only [zok, zv54]; rfl
instance izo54 : ZoF Tryz.prog 54 7 := ⟨zo54⟩
@[go_sem] theorem ty56 : tyv Tryz.prog 56 = some (false, 1) := by kernel_rfl
instance ity56 : TyF Tryz.prog 56 false 1 := ⟨ty56⟩
@[go_sem] theorem sl56 : slv Tryz.prog 56 = some (54, 7, 56) := by kernel_rfl
instance isl56 : SlF Tryz.prog 56 54 7 56 := ⟨sl56⟩
@[go_sem] theorem ty58 : tyv Tryz.prog 58 = some (true, 3) := by kernel_rfl
instance ity58 : TyF Tryz.prog 58 true 3 := ⟨ty58⟩
@[go_sem] theorem fl58_0 : fldv Tryz.prog 58 0 = some (0, false, 1) := by kernel_rfl
instance ifl58_0 : FlF Tryz.prog 58 0 0 false 1 := ⟨fl58_0⟩
@[go_sem] theorem fl58_1 : fldv Tryz.prog 58 1 = some (1, false, 1) := by kernel_rfl
instance ifl58_1 : FlF Tryz.prog 58 1 1 false 1 := ⟨fl58_1⟩
@[go_sem] theorem fl58_2 : fldv Tryz.prog 58 2 = some (2, false, 1) := by kernel_rfl
instance ifl58_2 : FlF Tryz.prog 58 2 2 false 1 := ⟨fl58_2⟩
@[go_sem] theorem pl58 : places Tryz.prog 58 = some [(0, 1), (1, 1), (2, 1)] := by kernel_rfl
instance ipl58 : PlF Tryz.prog 58 [(0, 1), (1, 1), (2, 1)] := ⟨pl58⟩
@[go_sem] theorem zv58 : zv Tryz.prog 58 = some (.agg [.sc (.int .i64 0), .sc (.int .i64 0), .sc (.slice none 0 0)]) := by kernel_rfl
instance izv58 : ZvF Tryz.prog 58 (.agg [.sc (.int .i64 0), .sc (.int .i64 0), .sc (.slice none 0 0)]) := ⟨zv58⟩
@[go_sem] theorem zo58 : zok Tryz.prog 58 3 := by simp only [zok, zv58]; rfl
instance izo58 : ZoF Tryz.prog 58 3 := ⟨zo58⟩
@[go_sem] theorem sl59 : slv Tryz.prog 59 = some (62, 2, 16) := by kernel_rfl
instance isl59 : SlF Tryz.prog 59 62 2 16 := ⟨sl59⟩
@[go_sem] theorem ty60 : tyv Tryz.prog 60 = some (false, 1) := by kernel_rfl
instance ity60 : TyF Tryz.prog 60 false 1 := ⟨ty60⟩
@[go_sem] theorem sl60 : slv Tryz.prog 60 = some (62, 2, 16) := by kernel_rfl
instance isl60 : SlF Tryz.prog 60 62 2 16 := ⟨sl60⟩
@[go_sem] theorem zv60 : zv Tryz.prog 60 = some (.sc (.slice none 0 0)) := by kernel_rfl
@[go_sem] theorem zo60 : zok Tryz.prog 60 1 := by simp only [zok, zv60]; rfl
instance izo60 : ZoF Tryz.prog 60 1 := ⟨zo60⟩
@[go_sem] theorem ty62 : tyv Tryz.prog 62 = some (true, 2) := by kernel_rfl
instance ity62 : TyF Tryz.prog 62 true 2 := ⟨ty62⟩
@[go_sem] theorem fl62_0 : fldv Tryz.prog 62 0 = some (0, false, 1) := by kernel_rfl
instance ifl62_0 : FlF Tryz.prog 62 0 0 false 1 := ⟨fl62_0⟩
@[go_sem] theorem fl62_1 : fldv Tryz.prog 62 1 = some (1, false, 1) := by kernel_rfl
instance ifl62_1 : FlF Tryz.prog 62 1 1 false 1 := ⟨fl62_1⟩
@[go_sem] theorem pl62 : places Tryz.prog 62 = some [(0, 1), (1, 1)] := by kernel_rfl
instance ipl62 : PlF Tryz.prog 62 [(0, 1), (1, 1)] := ⟨pl62⟩
@[go_sem] theorem zv62 : zv Tryz.prog 62 = some (.agg [.sc (.int .i64 0), .sc (.int .i64 0)]) := by kernel_rfl
instance izv62 : ZvF Tryz.prog 62 (.agg [.sc (.int .i64 0), .sc (.int .i64 0)]) := ⟨zv62⟩
@[go_sem] theorem zo62 : zok Tryz.prog 62 2 := by simp only [zok, zv62]; rfl
instance izo62 : ZoF Tryz.prog 62 2 := ⟨zo62⟩
@[go_sem] theorem ty65 : tyv Tryz.prog 65 = some (true, 2) := by kernel_rfl
instance ity65 : TyF Tryz.prog 65 true 2 := ⟨ty65⟩
@[go_sem] theorem fl65_0 : fldv Tryz.prog 65 0 = some (0, false, 1) := by kernel_rfl
instance ifl65_0 : FlF Tryz.prog 65 0 0 false 1 := ⟨fl65_0⟩
@[go_sem] theorem fl65_1 : fldv Tryz.prog 65 1 = some (1, false, 1) := by kernel_rfl
instance ifl65_1 : FlF Tryz.prog 65 1 1 false 1 := ⟨fl65_1⟩
@[go_sem] theorem pl65 : places Tryz.prog 65 = some [(0, 1), (1, 1)] := by kernel_rfl
instance ipl65 : PlF Tryz.prog 65 [(0, 1), (1, 1)] := ⟨pl65⟩
@[go_sem] theorem zv65 : zv Tryz.prog 65 = some (.agg [.sc (.int .i64 0), .sc (.bool false)]) := by kernel_rfl
instance izv65 : ZvF Tryz.prog 65 (.agg [.sc (.int .i64 0), .sc (.bool false)]) := ⟨zv65⟩
@[go_sem] theorem zo65 : zok Tryz.prog 65 2 := by simp only [zok, zv65]; rfl
instance izo65 : ZoF Tryz.prog 65 2 := ⟨zo65⟩
@[go_sem] theorem ty67 : tyv Tryz.prog 67 = some (false, 1) := by kernel_rfl
instance ity67 : TyF Tryz.prog 67 false 1 := ⟨ty67⟩
@[go_sem] theorem ty69 : tyv Tryz.prog 69 = some (true, 13) := by kernel_rfl
instance ity69 : TyF Tryz.prog 69 true 13 := ⟨ty69⟩
@[go_sem] theorem sl69 : slv Tryz.prog 69 = none := by kernel_rfl
instance isl69 : SlN Tryz.prog 69 := ⟨sl69⟩
@[go_sem] theorem ar69 : arv Tryz.prog 69 = some (13, false, 1) := by kernel_rfl
instance iar69 : ArF Tryz.prog 69 13 false 1 := ⟨ar69⟩
@[go_sem] theorem zv69 : zv Tryz.prog 69 = some (.agg [.sc (.int .i64 0), .sc (.int .i64 0), .sc (.int .i64 0), .sc (.int .i64 0), .sc (.int .i64 0), .sc (.int .i64 0), .sc (.int .i64 0), .sc (.int .i64 0), .sc (.int .i64 0), .sc (.int .i64 0), .sc (.int .i64 0), .sc (.int .i64 0), .sc (.int .i64 0)]) := by kernel_rfl
instance izv69 : ZvF Tryz.prog 69 (.agg [.sc (.int .i64 0), .sc (.int .i64 0), .sc (.int .i64 0), .sc (.int .i64 0), .sc (.int .i64 0), .sc (.int .i64 0), .sc (.int .i64 0), .sc (.int .i64 0), .sc (.int .i64 0), .sc (.int .i64 0), .sc (.int .i64 0), .sc (.int .i64 0), .sc (.int .i64 0)]) := ⟨zv69⟩
@[go_sem] theorem ty77 : tyv Tryz.prog 77 = some (false, 1) := by kernel_rfl
instance ity77 : TyF Tryz.prog 77 false 1 := ⟨ty77⟩
@[go_sem] theorem sl77 : slv Tryz.prog 77 = some (100, 5, 40) := by kernel_rfl
instance isl77 : SlF Tryz.prog 77 100 5 40 := ⟨sl77⟩
@[go_sem] theorem ty79 : tyv Tryz.prog 79 = some (true, 9) := by kernel_rfl
instance ity79 : TyF Tryz.prog 79 true 9 := ⟨ty79⟩
@[go_sem] theorem fl79_0 : fldv Tryz.prog 79 0 = some (0, false, 1) := by kernel_rfl
instance ifl79_0 : FlF Tryz.prog 79 0 0 false 1 := ⟨fl79_0⟩
@[go_sem] theorem fl79_1 : fldv Tryz.prog 79 1 = some (1, false, 1) := by kernel_rfl
instance ifl79_1 : FlF Tryz.prog 79 1 1 false 1 := ⟨fl79_1⟩
@[go_sem] theorem fl79_2 : fldv Tryz.prog 79 2 = some (2, false, 1) := by kernel_rfl
instance ifl79_2 : FlF Tryz.prog 79 2 2 false 1 := ⟨fl79_2⟩
@[go_sem] theorem fl79_3 : fldv Tryz.prog 79 3 = some (3, true, 3) := by kernel_rfl
instance ifl79_3 : FlF Tryz.prog 79 3 3 true 3 := ⟨fl79_3⟩
@[go_sem] theorem fl79_4 : fldv Tryz.prog 79 4 = some (6, false, 1) := by kernel_rfl
instance ifl79_4 : FlF Tryz.prog 79 4 6 false 1 := ⟨fl79_4⟩
@[go_sem] theorem fl79_5 : fldv Tryz.prog 79 5 = some (7, false, 1) := by kernel_rfl
instance ifl79_5 : FlF Tryz.prog 79 5 7 false 1 := ⟨fl79_5⟩
@[go_sem] theorem fl79_6 : fldv Tryz.prog 79 6 = some (8, false, 1) := by kernel_rfl
instance ifl79_6 : FlF Tryz.prog 79 6 8 false 1 := ⟨fl79_6⟩
@[go_sem] theorem pl79 : places Tryz.prog 79 = some [(0, 1), (1, 1), (2, 1), (3, 3), (6, 1), (7, 1), (8, 1)] := by kernel_rfl
instance ipl79 : PlF Tryz.prog 79 [(0, 1), (1, 1), (2, 1), (3, 3), (6, 1), (7, 1), (8, 1)] := ⟨pl79⟩
@[go_sem] theorem zv79 : zv Tryz.prog 79 = some (.agg [.sc (.slice none 0 0), .sc (.slice none 0 0), .sc (.slice none 0 0), .sc (.int .i64 0), .sc (.int .i64 0), .sc (.int .i64 0), .sc (.int .i64 0), .sc (.int .i64 0), .sc (.int .i64 0)]) := by kernel_rfl
instance izv79 : ZvF Tryz.prog 79 (.agg [.sc (.slice none 0 0), .sc (.slice none 0 0), .sc (.slice none 0 0), .sc (.int .i64 0), .sc (.int .i64 0), .sc (.int .i64 0), .sc (.int .i64 0), .sc (.int .i64 0), .sc (.int .i64 0)]) := ⟨zv79⟩
@[go_sem] theorem sl82 : slv Tryz.prog 82 = some (60, 1, 24) := by kernel_rfl
instance isl82 : SlF Tryz.prog 82 60 1 24 := ⟨sl82⟩
@[go_sem] theorem sl85 : slv Tryz.prog 85 = some (4, 1, 1) := by kernel_rfl
instance isl85 : SlF Tryz.prog 85 4 1 1 := ⟨sl85⟩
@[go_sem] theorem ty87 : tyv Tryz.prog 87 = some (true, 13) := by kernel_rfl
instance ity87 : TyF Tryz.prog 87 true 13 := ⟨ty87⟩
@[go_sem] theorem sl87 : slv Tryz.prog 87 = none := by kernel_rfl
instance isl87 : SlN Tryz.prog 87 := ⟨sl87⟩
@[go_sem] theorem ar87 : arv Tryz.prog 87 = some (13, false, 1) := by kernel_rfl
instance iar87 : ArF Tryz.prog 87 13 false 1 := ⟨ar87⟩
@[go_sem] theorem zv87 : zv Tryz.prog 87 = some (.agg [.sc (.bool false), .sc (.bool false), .sc (.bool false), .sc (.bool false), .sc (.bool false), .sc (.bool false), .sc (.bool false), .sc (.bool false), .sc (.bool false), .sc (.bool false), .sc (.bool false), .sc (.bool false), .sc (.bool false)]) := by kernel_rfl
instance izv87 : ZvF Tryz.prog 87 (.agg [.sc (.bool false), .sc (.bool false), .sc (.bool false), .sc (.bool false), .sc (.bool false), .sc (.bool false), .sc (.bool false), .sc (.bool false), .sc (.bool false), .sc (.bool false), .sc (.bool false), .sc (.bool false), .sc (.bool false)]) := ⟨zv87⟩
@[go_sem] theorem ty100 : tyv Tryz.prog 100 = some (true, 5) := by kernel_rfl
instance ity100 : TyF Tryz.prog 100 true 5 := ⟨ty100⟩
@[go_sem] theorem fl100_0 : fldv Tryz.prog 100 0 = some (0, false, 1) := by kernel_rfl
instance ifl100_0 : FlF Tryz.prog 100 0 0 false 1 := ⟨fl100_0⟩
@[go_sem] theorem fl100_1 : fldv Tryz.prog 100 1 = some (1, false, 1) := by kernel_rfl
instance ifl100_1 : FlF Tryz.prog 100 1 1 false 1 := ⟨fl100_1⟩
@[go_sem] theorem fl100_2 : fldv Tryz.prog 100 2 = some (2, false, 1) := by kernel_rfl
instance ifl100_2 : FlF Tryz.prog 100 2 2 false 1 := ⟨fl100_2⟩
@[go_sem] theorem fl100_3 : fldv Tryz.prog 100 3 = some (3, false, 1) := by kernel_rfl
instance ifl100_3 : FlF Tryz.prog 100 3 3 false 1 := ⟨fl100_3⟩
@[go_sem] theorem fl100_4 : fldv Tryz.prog 100 4 = some (4, false, 1) := by kernel_rfl
instance ifl100_4 : FlF Tryz.prog 100 4 4 false 1 := ⟨fl100_4⟩
@[go_sem] theorem pl100 : places Tryz.prog 100 = some [(0, 1), (1, 1), (2, 1), (3, 1), (4, 1)] := by kernel_rfl
instance ipl100 : PlF Tryz.prog 100 [(0, 1), (1, 1), (2, 1), (3, 1), (4, 1)] := ⟨pl100⟩
@[go_sem] theorem zv100 : zv Tryz.prog 100 = some (.agg [.sc (.int .i64 0), .sc (.int .i64 0), .sc (.int .i64 0), .sc (.int .i64 0), .sc (.int .i64 0)]) := by kernel_rfl
instance izv100 : ZvF Tryz.prog 100 (.agg [.sc (.int .i64 0), .sc (.int .i64 0), .sc (.int .i64 0), .sc (.int .i64 0), .sc (.int .i64 0)]) := ⟨zv100⟩
@[go_sem] theorem zo100 : zok Tryz.prog 100 5 := by simp only [zok, zv100]; rfl
instance izo100 : ZoF Tryz.prog 100 5 := ⟨zo100⟩
@[go_sem] theorem mp116 : mpv Tryz.prog 116 = some ((.int .i64), 100) := by kernel_rfl
instance imp116 : MpF Tryz.prog 116 ((.int .i64)) 100 := ⟨mp116⟩
@[go_sem] theorem un119 : Tryz.prog.underlying 119 = some (.int .u64) := by kernel_rfl
instance iun119 : UnF Tryz.prog 119 (.int .u64) := ⟨un119⟩
theorem hb6 : hasBody Tryz.prog 6 := ⟨Tryz.f6, _, Tryz.func6, rfl, by decide +kernel⟩
instance ihb6 : HbF Tryz.prog 6 := ⟨hb6⟩
theorem hb7 : hasBody Tryz.prog 7 := ⟨Tryz.f7, _, Tryz.func7, rfl, by decide +kernel⟩
instance ihb7 : HbF Tryz.prog 7 := ⟨hb7⟩
theorem hb8 : hasBody Tryz.prog 8 := ⟨Tryz.f8, _, Tryz.func8, rfl, by decide +kernel⟩
instance ihb8 : HbF Tryz.prog 8 := ⟨hb8⟩
theorem hb9 : hasBody Tryz.prog 9 := ⟨Tryz.f9, _, Tryz.func9, rfl, by decide +kernel⟩
instance ihb9 : HbF Tryz.prog 9 := ⟨hb9⟩
theorem hb10 : hasBody Tryz.prog 10 := ⟨Tryz.f10, _, Tryz.func10, rfl, by decide +kernel⟩
instance ihb10 : HbF Tryz.prog 10 := ⟨hb10⟩
theorem hb11 : hasBody Tryz.prog 11 := ⟨Tryz.f11, _, Tryz.func11, rfl, by decide +kernel⟩
instance ihb11 : HbF Tryz.prog 11 := ⟨hb11⟩
theorem hb12 : hasBody Tryz.prog 12 := ⟨Tryz.f12, _, Tryz.func12, rfl, by decide +kernel⟩
instance ihb12 : HbF Tryz.prog 12 := ⟨hb12⟩
theorem hb13 : hasBody Tryz.prog 13 := ⟨Tryz.f13, _, Tryz.func13, rfl, by decide +kernel⟩
instance ihb13 : HbF Tryz.prog 13 := ⟨hb13⟩
theorem hb14 : hasBody Tryz.prog 14 := ⟨Tryz.f14, _, Tryz.func14, rfl, by decide +kernel⟩
instance ihb14 : HbF Tryz.prog 14 := ⟨hb14⟩
theorem hb15 : hasBody Tryz.prog 15 := ⟨Tryz.f15, _, Tryz.func15, rfl, by decide +kernel⟩
instance ihb15 : HbF Tryz.prog 15 := ⟨hb15⟩
theorem hb16 : hasBody Tryz.prog 16 := ⟨Tryz.f16, _, Tryz.func16, rfl, by decide +kernel⟩
instance ihb16 : HbF Tryz.prog 16 := ⟨hb16⟩
theorem hb17 : hasBody Tryz.prog 17 := ⟨Tryz.f17, _, Tryz.func17, rfl, by decide +kernel⟩
instance ihb17 : HbF Tryz.prog 17 := ⟨hb17⟩
theorem hb18 : hasBody Tryz.prog 18 := ⟨Tryz.f18, _, Tryz.func18, rfl, by decide +kernel⟩
instance ihb18 : HbF Tryz.prog 18 := ⟨hb18⟩
theorem hb19 : hasBody Tryz.prog 19 := ⟨Tryz.f19, _, Tryz.func19, rfl, by decide +kernel⟩
instance ihb19 : HbF Tryz.prog 19 := ⟨hb19⟩
theorem hb20 : hasBody Tryz.prog 20 := ⟨Tryz.f20, _, Tryz.func20, rfl, by decide +kernel⟩
instance ihb20 : HbF Tryz.prog 20 := ⟨hb20⟩
theorem hb21 : hasBody Tryz.prog 21 := ⟨Tryz.f21, _, Tryz.func21, rfl, by decide +kernel⟩
instance ihb21 : HbF Tryz.prog 21 := ⟨hb21⟩
theorem hb22 : hasBody Tryz.prog 22 := ⟨Tryz.f22, _, Tryz.func22, rfl, by decide +kernel⟩
instance ihb22 : HbF Tryz.prog 22 := ⟨hb22⟩
theorem hb23 : hasBody Tryz.prog 23 := ⟨Tryz.f23, _, Tryz.func23, rfl, by decide +kernel⟩
instance ihb23 : HbF Tryz.prog 23 := ⟨hb23⟩
theorem hb24 : hasBody Tryz.prog 24 := ⟨Tryz.f24, _, Tryz.func24, rfl, by decide +kernel⟩
instance ihb24 : HbF Tryz.prog 24 := ⟨hb24⟩
theorem hb25 : hasBody Tryz.prog 25 := ⟨Tryz.f25, _, Tryz.func25, rfl, by decide +kernel⟩
instance ihb25 : HbF Tryz.prog 25 := ⟨hb25⟩
theorem hb26 : hasBody Tryz.prog 26 := ⟨Tryz.f26, _, Tryz.func26, rfl, by decide +kernel⟩
instance ihb26 : HbF Tryz.prog 26 := ⟨hb26⟩
theorem hb27 : hasBody Tryz.prog 27 := ⟨Tryz.f27, _, Tryz.func27, rfl, by decide +kernel⟩
instance ihb27 : HbF Tryz.prog 27 := ⟨hb27⟩
theorem hb28 : hasBody Tryz.prog 28 := ⟨Tryz.f28, _, Tryz.func28, rfl, by decide +kernel⟩
instance ihb28 : HbF Tryz.prog 28 := ⟨hb28⟩
theorem hb29 : hasBody Tryz.prog 29 := ⟨Tryz.f29, _, Tryz.func29, rfl, by decide +kernel⟩
instance ihb29 : HbF Tryz.prog 29 := ⟨hb29⟩
theorem hb30 : hasBody Tryz.prog 30 := ⟨Tryz.f30, _, Tryz.func30, rfl, by decide +kernel⟩
instance ihb30 : HbF Tryz.prog 30 := ⟨hb30⟩
theorem hb31 : hasBody Tryz.prog 31 := ⟨Tryz.f31, _, Tryz.func31, rfl, by decide +kernel⟩
instance ihb31 : HbF Tryz.prog 31 := ⟨hb31⟩
theorem hb32 : hasBody Tryz.prog 32 := ⟨Tryz.f32, _, Tryz.func32, rfl, by decide +kernel⟩
instance ihb32 : HbF Tryz.prog 32 := ⟨hb32⟩
theorem hb33 : hasBody Tryz.prog 33 := ⟨Tryz.f33, _, Tryz.func33, rfl, by decide +kernel⟩
instance ihb33 : HbF Tryz.prog 33 := ⟨hb33⟩
theorem hb34 : hasBody Tryz.prog 34 := ⟨Tryz.f34, _, Tryz.func34, rfl, by decide +kernel⟩
instance ihb34 : HbF Tryz.prog 34 := ⟨hb34⟩
theorem hb35 : hasBody Tryz.prog 35 := ⟨Tryz.f35, _, Tryz.func35, rfl, by decide +kernel⟩
instance ihb35 : HbF Tryz.prog 35 := ⟨hb35⟩
theorem hb36 : hasBody Tryz.prog 36 := ⟨Tryz.f36, _, Tryz.func36, rfl, by decide +kernel⟩
instance ihb36 : HbF Tryz.prog 36 := ⟨hb36⟩
theorem hb37 : hasBody Tryz.prog 37 := ⟨Tryz.f37, _, Tryz.func37, rfl, by decide +kernel⟩
instance ihb37 : HbF Tryz.prog 37 := ⟨hb37⟩
theorem hb38 : hasBody Tryz.prog 38 := ⟨Tryz.f38, _, Tryz.func38, rfl, by decide +kernel⟩
instance ihb38 : HbF Tryz.prog 38 := ⟨hb38⟩
theorem hb39 : hasBody Tryz.prog 39 := ⟨Tryz.f39, _, Tryz.func39, rfl, by decide +kernel⟩
instance ihb39 : HbF Tryz.prog 39 := ⟨hb39⟩
theorem hb40 : hasBody Tryz.prog 40 := ⟨Tryz.f40, _, Tryz.func40, rfl, by decide +kernel⟩
instance ihb40 : HbF Tryz.prog 40 := ⟨hb40⟩
theorem hb41 : hasBody Tryz.prog 41 := ⟨Tryz.f41, _, Tryz.func41, rfl, by decide +kernel⟩
instance ihb41 : HbF Tryz.prog 41 := ⟨hb41⟩
theorem hb42 : hasBody Tryz.prog 42 := ⟨Tryz.f42, _, Tryz.func42, rfl, by decide +kernel⟩
instance ihb42 : HbF Tryz.prog 42 := ⟨hb42⟩
theorem hb43 : hasBody Tryz.prog 43 := ⟨Tryz.f43, _, Tryz.func43, rfl, by decide +kernel⟩
instance ihb43 : HbF Tryz.prog 43 := ⟨hb43⟩
theorem hb44 : hasBody Tryz.prog 44 := ⟨Tryz.f44, _, Tryz.func44, rfl, by decide +kernel⟩
instance ihb44 : HbF Tryz.prog 44 := ⟨hb44⟩
theorem hb45 : hasBody Tryz.prog 45 := ⟨Tryz.f45, _, Tryz.func45, rfl, by decide +kernel⟩
instance ihb45 : HbF Tryz.prog 45 := ⟨hb45⟩
theorem hb46 : hasBody Tryz.prog 46 := ⟨Tryz.f46, _, Tryz.func46, rfl, by decide +kernel⟩
instance ihb46 : HbF Tryz.prog 46 := ⟨hb46⟩
theorem hb47 : hasBody Tryz.prog 47 := ⟨Tryz.f47, _, Tryz.func47, rfl, by decide +kernel⟩
instance ihb47 : HbF Tryz.prog 47 := ⟨hb47⟩
theorem hb48 : hasBody Tryz.prog 48 := ⟨Tryz.f48, _, Tryz.func48, rfl, by decide +kernel⟩
instance ihb48 : HbF Tryz.prog 48 := ⟨hb48⟩
theorem hb49 : hasBody Tryz.prog 49 := ⟨Tryz.f49, _, Tryz.func49, rfl, by decide +kernel⟩
instance ihb49 : HbF Tryz.prog 49 := ⟨hb49⟩
theorem hb50 : hasBody Tryz.prog 50 := ⟨Tryz.f50, _, Tryz.func50, rfl, by decide +kernel⟩
instance ihb50 : HbF Tryz.prog 50 := ⟨hb50⟩
theorem hb51 : hasBody Tryz.prog 51 := ⟨Tryz.f51, _, Tryz.func51, rfl, by decide +kernel⟩
instance ihb51 : HbF Tryz.prog 51 := ⟨hb51⟩
theorem hb52 : hasBody Tryz.prog 52 := ⟨Tryz.f52, _, Tryz.func52, rfl, by decide +kernel⟩
instance ihb52 : HbF Tryz.prog 52 := ⟨hb52⟩
theorem hb53 : hasBody Tryz.prog 53 := ⟨Tryz.f53, _, Tryz.func53, rfl, by decide +kernel⟩
theorem hb54 : hasBody Tryz.prog 54 := ⟨Tryz.f54, _, Tryz.func54, rfl, by decide +kernel⟩
instance ihb54 : HbF Tryz.prog 54 := ⟨hb54⟩
theorem hb55 : hasBody Tryz.prog 55 := ⟨Tryz.f55, _, Tryz.func55, rfl, by decide +kernel⟩
instance ihb55 : HbF Tryz.prog 55 := ⟨hb55⟩
theorem hb56 : hasBody Tryz.prog 56 := ⟨Tryz.f56, _, Tryz.func56, rfl, by decide +kernel⟩
instance ihb56 : HbF Tryz.prog 56 := ⟨hb56⟩
theorem hb57 : hasBody Tryz.prog 57 := ⟨Tryz.f57, _, Tryz.func57, rfl, by decide +kernel⟩
instance ihb57 : HbF Tryz.prog 57 := ⟨hb57⟩
theorem hb58 : hasBody Tryz.prog 58 := ⟨Tryz.f58, _, Tryz.func58, rfl, by decide +kernel⟩
instance ihb58 : HbF Tryz.prog 58 := ⟨hb58⟩
theorem hb59 : hasBody Tryz.prog 59 := ⟨Tryz.f59, _, Tryz.func59, rfl, by decide +kernel⟩
instance ihb59 : HbF Tryz.prog 59 := ⟨hb59⟩
theorem hb60 : hasBody Tryz.prog 60 := ⟨Tryz.f60, _, Tryz.func60, rfl, by decide +kernel⟩
instance ihb60 : HbF Tryz.prog 60 := ⟨hb60⟩
theorem hb61 : hasBody Tryz.prog 61 := ⟨Tryz.f61, _, Tryz.func61, rfl, by decide +kernel⟩
instance ihb61 : HbF Tryz.prog 61 := ⟨hb61⟩
theorem hb62 : hasBody Tryz.prog 62 := ⟨Tryz.f62, _, Tryz.func62, rfl, by decide +kernel⟩
instance ihb62 : HbF Tryz.prog 62 := ⟨hb62⟩
theorem hb63 : hasBody Tryz.prog 63 := ⟨Tryz.f63, _, Tryz.func63, rfl, by decide +kernel⟩
instance ihb63 : HbF Tryz.prog 63 := ⟨hb63⟩
theorem hb64 : hasBody Tryz.prog 64 := ⟨Tryz.f64, _, Tryz.func64, rfl, by decide +kernel⟩
instance ihb64 : HbF Tryz.prog 64 := ⟨hb64⟩
theorem hb65 : hasBody Tryz.prog 65 := ⟨Tryz.f65, _, Tryz.func65, rfl, by decide +kernel⟩
theorem hb66 : hasBody Tryz.prog 66 := ⟨Tryz.f66, _, Tryz.func66, rfl, by decide +kernel⟩
instance ihb66 : HbF Tryz.prog 66 := ⟨hb66⟩
theorem hb67 : hasBody Tryz.prog 67 := ⟨Tryz.f67, _, Tryz.func67, rfl, by decide +kernel⟩
instance ihb67 : HbF Tryz.prog 67 := ⟨hb67⟩
theorem hb69 : hasBody Tryz.prog 69 := ⟨Tryz.f69, _, Tryz.func69, rfl, by decide +kernel⟩
instance ihb69 : HbF Tryz.prog 69 := ⟨hb69⟩
theorem hb70 : hasBody Tryz.prog 70 := ⟨Tryz.f70, _, Tryz.func70, rfl, by decide +kernel⟩
instance ihb70 : HbF Tryz.prog 70 := ⟨hb70⟩
theorem hb72 : hasBody Tryz.prog 72 := ⟨Tryz.f72, _, Tryz.func72, rfl, by decide +kernel⟩
instance ihb72 : HbF Tryz.prog 72 := ⟨hb72⟩
theorem hb73 : hasBody Tryz.prog 73 := ⟨Tryz.f73, _, Tryz.func73, rfl, by decide +kernel⟩
instance ihb73 : HbF Tryz.prog 73 := ⟨hb73⟩
theorem hb74 : hasBody Tryz.prog 74 := ⟨Tryz.f74, _, Tryz.func74, rfl, by decide +kernel⟩
instance ihb74 : HbF Tryz.prog 74 := ⟨hb74⟩
theorem hb75 : hasBody Tryz.prog 75 := ⟨Tryz.f75, _, Tryz.func75, rfl, by decide +kernel⟩
instance ihb75 : HbF Tryz.prog 75 := ⟨hb75⟩
theorem hb76 : hasBody Tryz.prog 76 := ⟨Tryz.f76, _, Tryz.func76, rfl, by decide +kernel⟩
instance ihb76 : HbF Tryz.prog 76 := ⟨hb76⟩
theorem hb77 : hasBody Tryz.prog 77 := ⟨Tryz.f77, _, Tryz.func77, rfl, by decide +kernel⟩
instance ihb77 : HbF Tryz.prog 77 := ⟨hb77⟩
theorem hb78 : hasBody Tryz.prog 78 := ⟨Tryz.f78, _, Tryz.func78, rfl, by decide +kernel⟩
instance ihb78 : HbF Tryz.prog 78 := ⟨hb78⟩
theorem hb79 : hasBody Tryz.prog 79 := ⟨Tryz.f79, _, Tryz.func79, rfl, by decide +kernel⟩
instance ihb79 : HbF Tryz.prog 79 := ⟨hb79⟩
theorem hb80 : hasBody Tryz.prog 80 := ⟨Tryz.f80, _, Tryz.func80, rfl, by decide +kernel⟩
theorem hb83 : hasBody Tryz.prog 83 := ⟨Tryz.f83, _, Tryz.func83, rfl, by decide +kernel⟩
instance ihb83 : HbF Tryz.prog 83 := ⟨hb83⟩
theorem hb85 : hasBody Tryz.prog 85 := ⟨Tryz.f85, _, Tryz.func85, rfl, by decide +kernel⟩
instance ihb85 : HbF Tryz.prog 85 := ⟨hb85⟩
theorem hb86 : hasBody Tryz.prog 86 := ⟨Tryz.f86, _, Tryz.func86, rfl, by decide +kernel⟩
instance ihb86 : HbF Tryz.prog 86 := ⟨hb86⟩
theorem hb87 : hasBody Tryz.prog 87 := ⟨Tryz.f87, _, Tryz.func87, rfl, by decide +kernel⟩
instance ihb87 : HbF Tryz.prog 87 := ⟨hb87⟩
theorem hb88 : hasBody Tryz.prog 88 := ⟨Tryz.f88, _, Tryz.func88, rfl, by decide +kernel⟩
instance ihb88 : HbF Tryz.prog 88 := ⟨hb88⟩
theorem hb89 : hasBody Tryz.prog 89 := ⟨Tryz.f89, _, Tryz.func89, rfl, by decide +kernel⟩
instance ihb89 : HbF Tryz.prog 89 := ⟨hb89⟩
theorem hb90 : hasBody Tryz.prog 90 := ⟨Tryz.f90, _, Tryz.func90, rfl, by decide +kernel⟩
theorem hb91 : hasBody Tryz.prog 91 := ⟨Tryz.f91, _, Tryz.func91, rfl, by decide +kernel⟩
instance ihb91 : HbF Tryz.prog 91 := ⟨hb91⟩
theorem hb94 : hasBody Tryz.prog 94 := ⟨Tryz.f94, _, Tryz.func94, rfl, by decide +kernel⟩
instance ihb94 : HbF Tryz.prog 94 := ⟨hb94⟩
theorem hb96 : hasBody Tryz.prog 96 := ⟨Tryz.f96, _, Tryz.func96, rfl, by decide +kernel⟩
instance ihb96 : HbF Tryz.prog 96 := ⟨hb96⟩
theorem hb97 : hasBody Tryz.prog 97 := ⟨Tryz.f97, _, Tryz.func97, rfl, by decide +kernel⟩
instance ihb97 : HbF Tryz.prog 97 := ⟨hb97⟩
end Go.Proofs
