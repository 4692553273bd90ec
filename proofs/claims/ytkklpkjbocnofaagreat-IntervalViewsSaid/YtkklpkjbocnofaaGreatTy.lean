/- Facts about the types and functions of this seat, for the abstract machine (written by gentypes.py). -/
import Derived.Test.YtkklpkjbocnofaaGreatMe
import Derived.Test.YtkklpkjbocnofaaGreatProg
import Derived.KernelRfl
set_option maxRecDepth 8000
namespace Go.Proofs
open Go.AM
theorem mixed : Tryz.prog.follows .mixedOrders = true := by kernel_rfl
@[go_sem] theorem ty3 : tyv Tryz.prog 3 = some (false, 1) := by kernel_rfl
instance ity3 : TyF Tryz.prog 3 false 1 := ⟨ty3⟩
@[go_sem] theorem un3 : Tryz.prog.underlying 3 = some (.int .i64) := by kernel_rfl
instance iun3 : UnF Tryz.prog 3 (.int .i64) := ⟨un3⟩
@[go_sem] theorem zv3 : zv Tryz.prog 3 = some (.sc (.int .i64 0)) := by kernel_rfl
instance izv3 : ZvF Tryz.prog 3 (.sc (.int .i64 0)) := ⟨zv3⟩
@[go_sem] theorem zo3 : zok Tryz.prog 3 1 := by simp only [zok, zv3]; rfl
instance izo3 : ZoF Tryz.prog 3 1 := ⟨zo3⟩
@[go_sem] theorem ty23 : tyv Tryz.prog 23 = some (false, 1) := by kernel_rfl
instance ity23 : TyF Tryz.prog 23 false 1 := ⟨ty23⟩
@[go_sem] theorem sl23 : slv Tryz.prog 23 = some (62, 3, 40) := by kernel_rfl
instance isl23 : SlF Tryz.prog 23 62 3 40 := ⟨sl23⟩
@[go_sem] theorem zv23 : zv Tryz.prog 23 = some (.sc (.slice none 0 0)) := by kernel_rfl
@[go_sem] theorem zo23 : zok Tryz.prog 23 1 := by simp only [zok, zv23]; rfl
instance izo23 : ZoF Tryz.prog 23 1 := ⟨zo23⟩
@[go_sem] theorem sl25 : slv Tryz.prog 25 = some (23, 1, 24) := by kernel_rfl
instance isl25 : SlF Tryz.prog 25 23 1 24 := ⟨sl25⟩
@[go_sem] theorem ty31 : tyv Tryz.prog 31 = some (false, 1) := by kernel_rfl
instance ity31 : TyF Tryz.prog 31 false 1 := ⟨ty31⟩
@[go_sem] theorem sl31 : slv Tryz.prog 31 = some (53, 2, 16) := by kernel_rfl
instance isl31 : SlF Tryz.prog 31 53 2 16 := ⟨sl31⟩
@[go_sem] theorem ty33 : tyv Tryz.prog 33 = some (true, 3) := by kernel_rfl
instance ity33 : TyF Tryz.prog 33 true 3 := ⟨ty33⟩
@[go_sem] theorem fl33_0 : fldv Tryz.prog 33 0 = some (0, false, 1) := by kernel_rfl
instance ifl33_0 : FlF Tryz.prog 33 0 0 false 1 := ⟨fl33_0⟩
@[go_sem] theorem fl33_1 : fldv Tryz.prog 33 1 = some (1, false, 1) := by kernel_rfl
instance ifl33_1 : FlF Tryz.prog 33 1 1 false 1 := ⟨fl33_1⟩
@[go_sem] theorem fl33_2 : fldv Tryz.prog 33 2 = some (2, false, 1) := by kernel_rfl
instance ifl33_2 : FlF Tryz.prog 33 2 2 false 1 := ⟨fl33_2⟩
@[go_sem] theorem pl33 : places Tryz.prog 33 = some [(0, 1), (1, 1), (2, 1)] := by kernel_rfl
instance ipl33 : PlF Tryz.prog 33 [(0, 1), (1, 1), (2, 1)] := ⟨pl33⟩
theorem eq33 : eqlT Tryz.prog 33 [.sc (.int .i64 0), .sc (.int .i64 0), .sc (.int .i64 0)] := eqlT_of (by kernel_rfl) ty33 (by kernel_rfl)
instance ieq33 : EqF Tryz.prog 33 ([.sc (.int .i64 0), .sc (.int .i64 0), .sc (.int .i64 0)]) := ⟨eq33⟩
@[go_sem] theorem zv33 : zv Tryz.prog 33 = some (.agg [.sc (.int .i64 0), .sc (.int .i64 0), .sc (.int .i64 0)]) := by kernel_rfl
instance izv33 : ZvF Tryz.prog 33 (.agg [.sc (.int .i64 0), .sc (.int .i64 0), .sc (.int .i64 0)]) := ⟨zv33⟩
@[go_sem] theorem ty35 : tyv Tryz.prog 35 = some (true, 4) := by kernel_rfl
instance ity35 : TyF Tryz.prog 35 true 4 := ⟨ty35⟩
@[go_sem] theorem fl35_0 : fldv Tryz.prog 35 0 = some (0, false, 1) := by kernel_rfl
instance ifl35_0 : FlF Tryz.prog 35 0 0 false 1 := ⟨fl35_0⟩
@[go_sem] theorem fl35_1 : fldv Tryz.prog 35 1 = some (1, true, 3) := by kernel_rfl
instance ifl35_1 : FlF Tryz.prog 35 1 1 true 3 := ⟨fl35_1⟩
@[go_sem] theorem pl35 : places Tryz.prog 35 = some [(0, 1), (1, 3)] := by kernel_rfl
instance ipl35 : PlF Tryz.prog 35 [(0, 1), (1, 3)] := ⟨pl35⟩
@[go_sem] theorem zv35 : zv Tryz.prog 35 = some (.agg [.sc (.slice none 0 0), .sc (.int .i64 0), .sc (.int .i64 0), .sc (.int .i64 0)]) := by kernel_rfl
instance izv35 : ZvF Tryz.prog 35 (.agg [.sc (.slice none 0 0), .sc (.int .i64 0), .sc (.int .i64 0), .sc (.int .i64 0)]) := ⟨zv35⟩
@[go_sem] theorem sl38 : slv Tryz.prog 38 = some (41, 4, 48) := by kernel_rfl
instance isl38 : SlF Tryz.prog 38 41 4 48 := ⟨sl38⟩
@[go_sem] theorem ty41 : tyv Tryz.prog 41 = some (true, 4) := by kernel_rfl
instance ity41 : TyF Tryz.prog 41 true 4 := ⟨ty41⟩
@[go_sem] theorem fl41_0 : fldv Tryz.prog 41 0 = some (0, false, 1) := by kernel_rfl
instance ifl41_0 : FlF Tryz.prog 41 0 0 false 1 := ⟨fl41_0⟩
@[go_sem] theorem fl41_1 : fldv Tryz.prog 41 1 = some (1, true, 3) := by kernel_rfl
instance ifl41_1 : FlF Tryz.prog 41 1 1 true 3 := ⟨fl41_1⟩
@[go_sem] theorem pl41 : places Tryz.prog 41 = some [(0, 1), (1, 3)] := by kernel_rfl
instance ipl41 : PlF Tryz.prog 41 [(0, 1), (1, 3)] := ⟨pl41⟩
@[go_sem] theorem zv41 : zv Tryz.prog 41 = some (.agg [.sc (.slice none 0 0), .sc (.int .i64 0), .sc (.int .i64 0), .sc (.int .i64 0)]) := by kernel_rfl
instance izv41 : ZvF Tryz.prog 41 (.agg [.sc (.slice none 0 0), .sc (.int .i64 0), .sc (.int .i64 0), .sc (.int .i64 0)]) := ⟨zv41⟩
@[go_sem] theorem zo41 : zok Tryz.prog 41 4 := by simp only [zok, zv41]; rfl
instance izo41 : ZoF Tryz.prog 41 4 := ⟨zo41⟩
@[go_sem] theorem ty44 : tyv Tryz.prog 44 = some (false, 1) := by kernel_rfl
instance ity44 : TyF Tryz.prog 44 false 1 := ⟨ty44⟩
@[go_sem] theorem sl44 : slv Tryz.prog 44 = some (3, 1, 8) := by kernel_rfl
instance isl44 : SlF Tryz.prog 44 3 1 8 := ⟨sl44⟩
@[go_sem] theorem zv44 : zv Tryz.prog 44 = some (.sc (.slice none 0 0)) := by kernel_rfl
@[go_sem] theorem zo44 : zok Tryz.prog 44 1 := by simp only [zok, zv44]; rfl
instance izo44 : ZoF Tryz.prog 44 1 := ⟨zo44⟩
@[go_sem] theorem ty53 : tyv Tryz.prog 53 = some (true, 2) := by kernel_rfl
instance ity53 : TyF Tryz.prog 53 true 2 := ⟨ty53⟩
@[go_sem] theorem fl53_0 : fldv Tryz.prog 53 0 = some (0, false, 1) := by kernel_rfl
instance ifl53_0 : FlF Tryz.prog 53 0 0 false 1 := ⟨fl53_0⟩
@[go_sem] theorem fl53_1 : fldv Tryz.prog 53 1 = some (1, false, 1) := by kernel_rfl
instance ifl53_1 : FlF Tryz.prog 53 1 1 false 1 := ⟨fl53_1⟩
@[go_sem] theorem pl53 : places Tryz.prog 53 = some [(0, 1), (1, 1)] := by kernel_rfl
instance ipl53 : PlF Tryz.prog 53 [(0, 1), (1, 1)] := ⟨pl53⟩
theorem eq53 : eqlT Tryz.prog 53 [.sc (.int .i64 0), .sc (.int .i64 0)] := eqlT_of (by kernel_rfl) ty53 (by kernel_rfl)
instance ieq53 : EqF Tryz.prog 53 ([.sc (.int .i64 0), .sc (.int .i64 0)]) := ⟨eq53⟩
@[go_sem] theorem zv53 : zv Tryz.prog 53 = some (.agg [.sc (.int .i64 0), .sc (.int .i64 0)]) := by kernel_rfl
instance izv53 : ZvF Tryz.prog 53 (.agg [.sc (.int .i64 0), .sc (.int .i64 0)]) := ⟨zv53⟩
@[go_sem] theorem zo53 : zok Tryz.prog 53 2 := by simp only [zok, zv53]; rfl
instance izo53 : ZoF Tryz.prog 53 2 := ⟨zo53⟩
@[go_sem] theorem ty59 : tyv Tryz.prog 59 = some (true, 7) := by kernel_rfl
instance ity59 : TyF Tryz.prog 59 true 7 := ⟨ty59⟩
@[go_sem] theorem fl59_0 : fldv Tryz.prog 59 0 = some (0, false, 1) := by kernel_rfl
instance ifl59_0 : FlF Tryz.prog 59 0 0 false 1 := ⟨fl59_0⟩
@[go_sem] theorem fl59_1 : fldv Tryz.prog 59 1 = some (1, false, 1) := by kernel_rfl
instance ifl59_1 : FlF Tryz.prog 59 1 1 false 1 := ⟨fl59_1⟩
@[go_sem] theorem fl59_2 : fldv Tryz.prog 59 2 = some (2, false, 1) := by kernel_rfl
instance ifl59_2 : FlF Tryz.prog 59 2 2 false 1 := ⟨fl59_2⟩
@[go_sem] theorem fl59_3 : fldv Tryz.prog 59 3 = some (3, false, 1) := by kernel_rfl
instance ifl59_3 : FlF Tryz.prog 59 3 3 false 1 := ⟨fl59_3⟩
@[go_sem] theorem fl59_4 : fldv Tryz.prog 59 4 = some (4, true, 3) := by kernel_rfl
instance ifl59_4 : FlF Tryz.prog 59 4 4 true 3 := ⟨fl59_4⟩
@[go_sem] theorem pl59 : places Tryz.prog 59 = some [(0, 1), (1, 1), (2, 1), (3, 1), (4, 3)] := by kernel_rfl
instance ipl59 : PlF Tryz.prog 59 [(0, 1), (1, 1), (2, 1), (3, 1), (4, 3)] := ⟨pl59⟩
theorem eq59 : eqlT Tryz.prog 59 [.sc (.int .i64 0), .sc (.int .i64 0), .sc (.int .i64 0), .sc (.int .i64 0), .sc (.int .i64 0), .sc (.int .i64 0), .sc (.int .i64 0)] := eqlT_of (by kernel_rfl) ty59 (by kernel_rfl)
instance ieq59 : EqF Tryz.prog 59 ([.sc (.int .i64 0), .sc (.int .i64 0), .sc (.int .i64 0), .sc (.int .i64 0), .sc (.int .i64 0), .sc (.int .i64 0), .sc (.int .i64 0)]) := ⟨eq59⟩
@[go_sem] theorem zv59 : zv Tryz.prog 59 = some (.agg [.sc (.int .i64 0), .sc (.int .i64 0), .sc (.int .i64 0), .sc (.int .i64 0), .sc (.int .i64 0), .sc (.int .i64 0), .sc (.int .i64 0)]) := by kernel_rfl
instance izv59 : ZvF Tryz.prog 59 (.agg [.sc (.int .i64 0), .sc (.int .i64 0), .sc (.int .i64 0), .sc (.int .i64 0), .sc (.int .i64 0), .sc (.int .i64 0), .sc (.int .i64 0)]) := ⟨zv59⟩
@[go_sem] theorem zo59 : zok Tryz.prog 59 7 := by simp only [zok, zv59]; rfl
instance izo59 : ZoF Tryz.prog 59 7 := ⟨zo59⟩
@[go_sem] theorem ty60 : tyv Tryz.prog 60 = some (false, 1) := by kernel_rfl
instance ity60 : TyF Tryz.prog 60 false 1 := ⟨ty60⟩
@[go_sem] theorem sl60 : slv Tryz.prog 60 = some (59, 7, 56) := by kernel_rfl
instance isl60 : SlF Tryz.prog 60 59 7 56 := ⟨sl60⟩
@[go_sem] theorem ty62 : tyv Tryz.prog 62 = some (true, 3) := by kernel_rfl
instance ity62 : TyF Tryz.prog 62 true 3 := ⟨ty62⟩
@[go_sem] theorem fl62_0 : fldv Tryz.prog 62 0 = some (0, false, 1) := by kernel_rfl
instance ifl62_0 : FlF Tryz.prog 62 0 0 false 1 := ⟨fl62_0⟩
@[go_sem] theorem fl62_1 : fldv Tryz.prog 62 1 = some (1, false, 1) := by kernel_rfl
instance ifl62_1 : FlF Tryz.prog 62 1 1 false 1 := ⟨fl62_1⟩
@[go_sem] theorem fl62_2 : fldv Tryz.prog 62 2 = some (2, false, 1) := by kernel_rfl
instance ifl62_2 : FlF Tryz.prog 62 2 2 false 1 := ⟨fl62_2⟩
@[go_sem] theorem pl62 : places Tryz.prog 62 = some [(0, 1), (1, 1), (2, 1)] := by kernel_rfl
instance ipl62 : PlF Tryz.prog 62 [(0, 1), (1, 1), (2, 1)] := ⟨pl62⟩
@[go_sem] theorem zv62 : zv Tryz.prog 62 = some (.agg [.sc (.int .i64 0), .sc (.int .i64 0), .sc (.slice none 0 0)]) := by kernel_rfl
instance izv62 : ZvF Tryz.prog 62 (.agg [.sc (.int .i64 0), .sc (.int .i64 0), .sc (.slice none 0 0)]) := ⟨zv62⟩
@[go_sem] theorem zo62 : zok Tryz.prog 62 3 := by simp only [zok, zv62]; rfl
instance izo62 : ZoF Tryz.prog 62 3 := ⟨zo62⟩
@[go_sem] theorem sl64 : slv Tryz.prog 64 = some (72, 2, 16) := by kernel_rfl
instance isl64 : SlF Tryz.prog 64 72 2 16 := ⟨sl64⟩
@[go_sem] theorem ty65 : tyv Tryz.prog 65 = some (false, 1) := by kernel_rfl
instance ity65 : TyF Tryz.prog 65 false 1 := ⟨ty65⟩
@[go_sem] theorem sl65 : slv Tryz.prog 65 = some (72, 2, 16) := by kernel_rfl
instance isl65 : SlF Tryz.prog 65 72 2 16 := ⟨sl65⟩
@[go_sem] theorem zv65 : zv Tryz.prog 65 = some (.sc (.slice none 0 0)) := by kernel_rfl
@[go_sem] theorem zo65 : zok Tryz.prog 65 1 := by simp only [zok, zv65]; rfl
instance izo65 : ZoF Tryz.prog 65 1 := ⟨zo65⟩
@[go_sem] theorem sl68 : slv Tryz.prog 68 = some (65, 1, 24) := by kernel_rfl
instance isl68 : SlF Tryz.prog 68 65 1 24 := ⟨sl68⟩
@[go_sem] theorem ty72 : tyv Tryz.prog 72 = some (true, 2) := by kernel_rfl
instance ity72 : TyF Tryz.prog 72 true 2 := ⟨ty72⟩
@[go_sem] theorem fl72_0 : fldv Tryz.prog 72 0 = some (0, false, 1) := by kernel_rfl
instance ifl72_0 : FlF Tryz.prog 72 0 0 false 1 := ⟨fl72_0⟩
@[go_sem] theorem fl72_1 : fldv Tryz.prog 72 1 = some (1, false, 1) := by kernel_rfl
instance ifl72_1 : FlF Tryz.prog 72 1 1 false 1 := ⟨fl72_1⟩
@[go_sem] theorem pl72 : places Tryz.prog 72 = some [(0, 1), (1, 1)] := by kernel_rfl
instance ipl72 : PlF Tryz.prog 72 [(0, 1), (1, 1)] := ⟨pl72⟩
@[go_sem] theorem zv72 : zv Tryz.prog 72 = some (.agg [.sc (.int .i64 0), .sc (.int .i64 0)]) := by kernel_rfl
instance izv72 : ZvF Tryz.prog 72 (.agg [.sc (.int .i64 0), .sc (.int .i64 0)]) := ⟨zv72⟩
@[go_sem] theorem zo72 : zok Tryz.prog 72 2 := by simp only [zok, zv72]; rfl
instance izo72 : ZoF Tryz.prog 72 2 := ⟨zo72⟩
@[go_sem] theorem ty76 : tyv Tryz.prog 76 = some (false, 1) := by kernel_rfl
instance ity76 : TyF Tryz.prog 76 false 1 := ⟨ty76⟩
@[go_sem] theorem sl76 : slv Tryz.prog 76 = some (98, 5, 40) := by kernel_rfl
instance isl76 : SlF Tryz.prog 76 98 5 40 := ⟨sl76⟩
@[go_sem] theorem ty78 : tyv Tryz.prog 78 = some (true, 9) := by kernel_rfl
instance ity78 : TyF Tryz.prog 78 true 9 := ⟨ty78⟩
@[go_sem] theorem fl78_0 : fldv Tryz.prog 78 0 = some (0, false, 1) := by kernel_rfl
instance ifl78_0 : FlF Tryz.prog 78 0 0 false 1 := ⟨fl78_0⟩
@[go_sem] theorem fl78_1 : fldv Tryz.prog 78 1 = some (1, false, 1) := by kernel_rfl
instance ifl78_1 : FlF Tryz.prog 78 1 1 false 1 := ⟨fl78_1⟩
@[go_sem] theorem fl78_2 : fldv Tryz.prog 78 2 = some (2, false, 1) := by kernel_rfl
instance ifl78_2 : FlF Tryz.prog 78 2 2 false 1 := ⟨fl78_2⟩
@[go_sem] theorem fl78_3 : fldv Tryz.prog 78 3 = some (3, true, 3) := by kernel_rfl
instance ifl78_3 : FlF Tryz.prog 78 3 3 true 3 := ⟨fl78_3⟩
@[go_sem] theorem fl78_4 : fldv Tryz.prog 78 4 = some (6, false, 1) := by kernel_rfl
instance ifl78_4 : FlF Tryz.prog 78 4 6 false 1 := ⟨fl78_4⟩
@[go_sem] theorem fl78_5 : fldv Tryz.prog 78 5 = some (7, false, 1) := by kernel_rfl
instance ifl78_5 : FlF Tryz.prog 78 5 7 false 1 := ⟨fl78_5⟩
@[go_sem] theorem fl78_6 : fldv Tryz.prog 78 6 = some (8, false, 1) := by kernel_rfl
instance ifl78_6 : FlF Tryz.prog 78 6 8 false 1 := ⟨fl78_6⟩
@[go_sem] theorem pl78 : places Tryz.prog 78 = some [(0, 1), (1, 1), (2, 1), (3, 3), (6, 1), (7, 1), (8, 1)] := by kernel_rfl
instance ipl78 : PlF Tryz.prog 78 [(0, 1), (1, 1), (2, 1), (3, 3), (6, 1), (7, 1), (8, 1)] := ⟨pl78⟩
@[go_sem] theorem zv78 : zv Tryz.prog 78 = some (.agg [.sc (.slice none 0 0), .sc (.slice none 0 0), .sc (.slice none 0 0), .sc (.int .i64 0), .sc (.int .i64 0), .sc (.int .i64 0), .sc (.int .i64 0), .sc (.int .i64 0), .sc (.int .i64 0)]) := by kernel_rfl
instance izv78 : ZvF Tryz.prog 78 (.agg [.sc (.slice none 0 0), .sc (.slice none 0 0), .sc (.slice none 0 0), .sc (.int .i64 0), .sc (.int .i64 0), .sc (.int .i64 0), .sc (.int .i64 0), .sc (.int .i64 0), .sc (.int .i64 0)]) := ⟨zv78⟩
@[go_sem] theorem sl80 : slv Tryz.prog 80 = some (44, 1, 24) := by kernel_rfl
instance isl80 : SlF Tryz.prog 80 44 1 24 := ⟨sl80⟩
@[go_sem] theorem ty98 : tyv Tryz.prog 98 = some (true, 5) := by kernel_rfl
instance ity98 : TyF Tryz.prog 98 true 5 := ⟨ty98⟩
@[go_sem] theorem fl98_0 : fldv Tryz.prog 98 0 = some (0, false, 1) := by kernel_rfl
instance ifl98_0 : FlF Tryz.prog 98 0 0 false 1 := ⟨fl98_0⟩
@[go_sem] theorem fl98_1 : fldv Tryz.prog 98 1 = some (1, false, 1) := by kernel_rfl
instance ifl98_1 : FlF Tryz.prog 98 1 1 false 1 := ⟨fl98_1⟩
@[go_sem] theorem fl98_2 : fldv Tryz.prog 98 2 = some (2, false, 1) := by kernel_rfl
instance ifl98_2 : FlF Tryz.prog 98 2 2 false 1 := ⟨fl98_2⟩
@[go_sem] theorem fl98_3 : fldv Tryz.prog 98 3 = some (3, false, 1) := by kernel_rfl
instance ifl98_3 : FlF Tryz.prog 98 3 3 false 1 := ⟨fl98_3⟩
@[go_sem] theorem fl98_4 : fldv Tryz.prog 98 4 = some (4, false, 1) := by kernel_rfl
instance ifl98_4 : FlF Tryz.prog 98 4 4 false 1 := ⟨fl98_4⟩
@[go_sem] theorem pl98 : places Tryz.prog 98 = some [(0, 1), (1, 1), (2, 1), (3, 1), (4, 1)] := by kernel_rfl
instance ipl98 : PlF Tryz.prog 98 [(0, 1), (1, 1), (2, 1), (3, 1), (4, 1)] := ⟨pl98⟩
@[go_sem] theorem zv98 : zv Tryz.prog 98 = some (.agg [.sc (.int .i64 0), .sc (.int .i64 0), .sc (.int .i64 0), .sc (.int .i64 0), .sc (.int .i64 0)]) := by kernel_rfl
instance izv98 : ZvF Tryz.prog 98 (.agg [.sc (.int .i64 0), .sc (.int .i64 0), .sc (.int .i64 0), .sc (.int .i64 0), .sc (.int .i64 0)]) := ⟨zv98⟩
@[go_sem] theorem zo98 : zok Tryz.prog 98 5 := by simp only [zok, zv98]; rfl
instance izo98 : ZoF Tryz.prog 98 5 := ⟨zo98⟩
@[go_sem] theorem mp117 : mpv Tryz.prog 117 = some ((.int .i64), 98) := by kernel_rfl
instance imp117 : MpF Tryz.prog 117 ((.int .i64)) 98 := ⟨mp117⟩
@[go_sem] theorem un122 : Tryz.prog.underlying 122 = some (.int .u64) := by kernel_rfl
instance iun122 : UnF Tryz.prog 122 (.int .u64) := ⟨un122⟩
theorem hb6 : hasBody Tryz.prog 6 := ⟨Tryz.f6, _, Tryz.func6, rfl, by decide +kernel⟩
instance ihb6 : HbF Tryz.prog 6 := ⟨hb6⟩
theorem hb7 : hasBody Tryz.prog 7 := ⟨Tryz.f7, _, Tryz.func7, rfl, by decide +kernel⟩
instance ihb7 : HbF Tryz.prog 7 := ⟨hb7⟩
theorem hb8 : hasBody Tryz.prog 8 := ⟨Tryz.f8, _, Tryz.func8, rfl, by decide +kernel⟩
instance ihb8 : HbF Tryz.prog 8 := ⟨hb8⟩
theorem hb10 : hasBody Tryz.prog 10 := ⟨Tryz.f10, _, Tryz.func10, rfl, by decide +kernel⟩
instance ihb10 : HbF Tryz.prog 10 := ⟨hb10⟩
theorem hb11 : hasBody Tryz.prog 11 := ⟨Tryz.f11, _, Tryz.func11, rfl, by decide +kernel⟩
instance ihb11 : HbF Tryz.prog 11 := ⟨hb11⟩
theorem hb12 : hasBody Tryz.prog 12 := ⟨Tryz.f12, _, Tryz.func12, rfl, by decide +kernel⟩
instance ihb12 : HbF Tryz.prog 12 := ⟨hb12⟩
theorem hb14 : hasBody Tryz.prog 14 := ⟨Tryz.f14, _, Tryz.func14, rfl, by decide +kernel⟩
instance ihb14 : HbF Tryz.prog 14 := ⟨hb14⟩
theorem hb15 : hasBody Tryz.prog 15 := ⟨Tryz.f15, _, Tryz.func15, rfl, by decide +kernel⟩
instance ihb15 : HbF Tryz.prog 15 := ⟨hb15⟩
theorem hb16 : hasBody Tryz.prog 16 := ⟨Tryz.f16, _, Tryz.func16, rfl, by decide +kernel⟩
instance ihb16 : HbF Tryz.prog 16 := ⟨hb16⟩
theorem hb17 : hasBody Tryz.prog 17 := ⟨Tryz.f17, _, Tryz.func17, rfl, by decide +kernel⟩
instance ihb17 : HbF Tryz.prog 17 := ⟨hb17⟩
theorem hb18 : hasBody Tryz.prog 18 := ⟨Tryz.f18, _, Tryz.func18, rfl, by decide +kernel⟩
instance ihb18 : HbF Tryz.prog 18 := ⟨hb18⟩
theorem hb19 : hasBody Tryz.prog 19 := ⟨Tryz.f19, _, Tryz.func19, rfl, by decide +kernel⟩
instance ihb19 : HbF Tryz.prog 19 := ⟨hb19⟩
theorem hb20 : hasBody Tryz.prog 20 := ⟨Tryz.f20, _, Tryz.func20, rfl, by decide +kernel⟩
instance ihb20 : HbF Tryz.prog 20 := ⟨hb20⟩
theorem hb25 : hasBody Tryz.prog 25 := ⟨Tryz.f25, _, Tryz.func25, rfl, by decide +kernel⟩
instance ihb25 : HbF Tryz.prog 25 := ⟨hb25⟩
theorem hb27 : hasBody Tryz.prog 27 := ⟨Tryz.f27, _, Tryz.func27, rfl, by decide +kernel⟩
instance ihb27 : HbF Tryz.prog 27 := ⟨hb27⟩
theorem hb28 : hasBody Tryz.prog 28 := ⟨Tryz.f28, _, Tryz.func28, rfl, by decide +kernel⟩
instance ihb28 : HbF Tryz.prog 28 := ⟨hb28⟩
theorem hb29 : hasBody Tryz.prog 29 := ⟨Tryz.f29, _, Tryz.func29, rfl, by decide +kernel⟩
instance ihb29 : HbF Tryz.prog 29 := ⟨hb29⟩
theorem hb30 : hasBody Tryz.prog 30 := ⟨Tryz.f30, _, Tryz.func30, rfl, by decide +kernel⟩
instance ihb30 : HbF Tryz.prog 30 := ⟨hb30⟩
theorem hb31 : hasBody Tryz.prog 31 := ⟨Tryz.f31, _, Tryz.func31, rfl, by decide +kernel⟩
instance ihb31 : HbF Tryz.prog 31 := ⟨hb31⟩
theorem hb32 : hasBody Tryz.prog 32 := ⟨Tryz.f32, _, Tryz.func32, rfl, by decide +kernel⟩
instance ihb32 : HbF Tryz.prog 32 := ⟨hb32⟩
theorem hb34 : hasBody Tryz.prog 34 := ⟨Tryz.f34, _, Tryz.func34, rfl, by decide +kernel⟩
instance ihb34 : HbF Tryz.prog 34 := ⟨hb34⟩
theorem hb35 : hasBody Tryz.prog 35 := ⟨Tryz.f35, _, Tryz.func35, rfl, by decide +kernel⟩
instance ihb35 : HbF Tryz.prog 35 := ⟨hb35⟩
theorem hb36 : hasBody Tryz.prog 36 := ⟨Tryz.f36, _, Tryz.func36, rfl, by decide +kernel⟩
instance ihb36 : HbF Tryz.prog 36 := ⟨hb36⟩
theorem hb37 : hasBody Tryz.prog 37 := ⟨Tryz.f37, _, Tryz.func37, rfl, by decide +kernel⟩
instance ihb37 : HbF Tryz.prog 37 := ⟨hb37⟩
theorem hb38 : hasBody Tryz.prog 38 := ⟨Tryz.f38, _, Tryz.func38, rfl, by decide +kernel⟩
instance ihb38 : HbF Tryz.prog 38 := ⟨hb38⟩
theorem hb39 : hasBody Tryz.prog 39 := ⟨Tryz.f39, _, Tryz.func39, rfl, by decide +kernel⟩
instance ihb39 : HbF Tryz.prog 39 := ⟨hb39⟩
theorem hb40 : hasBody Tryz.prog 40 := ⟨Tryz.f40, _, Tryz.func40, rfl, by decide +kernel⟩
instance ihb40 : HbF Tryz.prog 40 := ⟨hb40⟩
theorem hb41 : hasBody Tryz.prog 41 := ⟨Tryz.f41, _, Tryz.func41, rfl, by decide +kernel⟩
instance ihb41 : HbF Tryz.prog 41 := ⟨hb41⟩
theorem hb42 : hasBody Tryz.prog 42 := ⟨Tryz.f42, _, Tryz.func42, rfl, by decide +kernel⟩
instance ihb42 : HbF Tryz.prog 42 := ⟨hb42⟩
theorem hb43 : hasBody Tryz.prog 43 := ⟨Tryz.f43, _, Tryz.func43, rfl, by decide +kernel⟩
instance ihb43 : HbF Tryz.prog 43 := ⟨hb43⟩
theorem hb44 : hasBody Tryz.prog 44 := ⟨Tryz.f44, _, Tryz.func44, rfl, by decide +kernel⟩
instance ihb44 : HbF Tryz.prog 44 := ⟨hb44⟩
theorem hb45 : hasBody Tryz.prog 45 := ⟨Tryz.f45, _, Tryz.func45, rfl, by decide +kernel⟩
instance ihb45 : HbF Tryz.prog 45 := ⟨hb45⟩
theorem hb50 : hasBody Tryz.prog 50 := ⟨Tryz.f50, _, Tryz.func50, rfl, by decide +kernel⟩
instance ihb50 : HbF Tryz.prog 50 := ⟨hb50⟩
theorem hb51 : hasBody Tryz.prog 51 := ⟨Tryz.f51, _, Tryz.func51, rfl, by decide +kernel⟩
instance ihb51 : HbF Tryz.prog 51 := ⟨hb51⟩
theorem hb52 : hasBody Tryz.prog 52 := ⟨Tryz.f52, _, Tryz.func52, rfl, by decide +kernel⟩
instance ihb52 : HbF Tryz.prog 52 := ⟨hb52⟩
theorem hb53 : hasBody Tryz.prog 53 := ⟨Tryz.f53, _, Tryz.func53, rfl, by decide +kernel⟩
instance ihb53 : HbF Tryz.prog 53 := ⟨hb53⟩
theorem hb54 : hasBody Tryz.prog 54 := ⟨Tryz.f54, _, Tryz.func54, rfl, by decide +kernel⟩
instance ihb54 : HbF Tryz.prog 54 := ⟨hb54⟩
theorem hb55 : hasBody Tryz.prog 55 := ⟨Tryz.f55, _, Tryz.func55, rfl, by decide +kernel⟩
instance ihb55 : HbF Tryz.prog 55 := ⟨hb55⟩
theorem hb56 : hasBody Tryz.prog 56 := ⟨Tryz.f56, _, Tryz.func56, rfl, by decide +kernel⟩
instance ihb56 : HbF Tryz.prog 56 := ⟨hb56⟩
theorem hb57 : hasBody Tryz.prog 57 := ⟨Tryz.f57, _, Tryz.func57, rfl, by decide +kernel⟩
instance ihb57 : HbF Tryz.prog 57 := ⟨hb57⟩
theorem hb58 : hasBody Tryz.prog 58 := ⟨Tryz.f58, _, Tryz.func58, rfl, by decide +kernel⟩
instance ihb58 : HbF Tryz.prog 58 := ⟨hb58⟩
theorem hb59 : hasBody Tryz.prog 59 := ⟨Tryz.f59, _, Tryz.func59, rfl, by decide +kernel⟩
theorem hb60 : hasBody Tryz.prog 60 := ⟨Tryz.f60, _, Tryz.func60, rfl, by decide +kernel⟩
instance ihb60 : HbF Tryz.prog 60 := ⟨hb60⟩
theorem hb61 : hasBody Tryz.prog 61 := ⟨Tryz.f61, _, Tryz.func61, rfl, by decide +kernel⟩
instance ihb61 : HbF Tryz.prog 61 := ⟨hb61⟩
theorem hb62 : hasBody Tryz.prog 62 := ⟨Tryz.f62, _, Tryz.func62, rfl, by decide +kernel⟩
instance ihb62 : HbF Tryz.prog 62 := ⟨hb62⟩
theorem hb63 : hasBody Tryz.prog 63 := ⟨Tryz.f63, _, Tryz.func63, rfl, by decide +kernel⟩
instance ihb63 : HbF Tryz.prog 63 := ⟨hb63⟩
theorem hb64 : hasBody Tryz.prog 64 := ⟨Tryz.f64, _, Tryz.func64, rfl, by decide +kernel⟩
instance ihb64 : HbF Tryz.prog 64 := ⟨hb64⟩
theorem hb65 : hasBody Tryz.prog 65 := ⟨Tryz.f65, _, Tryz.func65, rfl, by decide +kernel⟩
instance ihb65 : HbF Tryz.prog 65 := ⟨hb65⟩
theorem hb66 : hasBody Tryz.prog 66 := ⟨Tryz.f66, _, Tryz.func66, rfl, by decide +kernel⟩
instance ihb66 : HbF Tryz.prog 66 := ⟨hb66⟩
theorem hb67 : hasBody Tryz.prog 67 := ⟨Tryz.f67, _, Tryz.func67, rfl, by decide +kernel⟩
instance ihb67 : HbF Tryz.prog 67 := ⟨hb67⟩
theorem hb68 : hasBody Tryz.prog 68 := ⟨Tryz.f68, _, Tryz.func68, rfl, by decide +kernel⟩
instance ihb68 : HbF Tryz.prog 68 := ⟨hb68⟩
theorem hb69 : hasBody Tryz.prog 69 := ⟨Tryz.f69, _, Tryz.func69, rfl, by decide +kernel⟩
instance ihb69 : HbF Tryz.prog 69 := ⟨hb69⟩
theorem hb70 : hasBody Tryz.prog 70 := ⟨Tryz.f70, _, Tryz.func70, rfl, by decide +kernel⟩
instance ihb70 : HbF Tryz.prog 70 := ⟨hb70⟩
theorem hb71 : hasBody Tryz.prog 71 := ⟨Tryz.f71, _, Tryz.func71, rfl, by decide +kernel⟩
instance ihb71 : HbF Tryz.prog 71 := ⟨hb71⟩
theorem hb72 : hasBody Tryz.prog 72 := ⟨Tryz.f72, _, Tryz.func72, rfl, by decide +kernel⟩
instance ihb72 : HbF Tryz.prog 72 := ⟨hb72⟩
theorem hb73 : hasBody Tryz.prog 73 := ⟨Tryz.f73, _, Tryz.func73, rfl, by decide +kernel⟩
instance ihb73 : HbF Tryz.prog 73 := ⟨hb73⟩
theorem hb75 : hasBody Tryz.prog 75 := ⟨Tryz.f75, _, Tryz.func75, rfl, by decide +kernel⟩
instance ihb75 : HbF Tryz.prog 75 := ⟨hb75⟩
theorem hb76 : hasBody Tryz.prog 76 := ⟨Tryz.f76, _, Tryz.func76, rfl, by decide +kernel⟩
instance ihb76 : HbF Tryz.prog 76 := ⟨hb76⟩
theorem hb77 : hasBody Tryz.prog 77 := ⟨Tryz.f77, _, Tryz.func77, rfl, by decide +kernel⟩
instance ihb77 : HbF Tryz.prog 77 := ⟨hb77⟩
theorem hb78 : hasBody Tryz.prog 78 := ⟨Tryz.f78, _, Tryz.func78, rfl, by decide +kernel⟩
theorem hb79 : hasBody Tryz.prog 79 := ⟨Tryz.f79, _, Tryz.func79, rfl, by decide +kernel⟩
instance ihb79 : HbF Tryz.prog 79 := ⟨hb79⟩
theorem hb81 : hasBody Tryz.prog 81 := ⟨Tryz.f81, _, Tryz.func81, rfl, by decide +kernel⟩
instance ihb81 : HbF Tryz.prog 81 := ⟨hb81⟩
theorem hb82 : hasBody Tryz.prog 82 := ⟨Tryz.f82, _, Tryz.func82, rfl, by decide +kernel⟩
instance ihb82 : HbF Tryz.prog 82 := ⟨hb82⟩
theorem hb83 : hasBody Tryz.prog 83 := ⟨Tryz.f83, _, Tryz.func83, rfl, by decide +kernel⟩
instance ihb83 : HbF Tryz.prog 83 := ⟨hb83⟩
theorem hb84 : hasBody Tryz.prog 84 := ⟨Tryz.f84, _, Tryz.func84, rfl, by decide +kernel⟩
theorem hb85 : hasBody Tryz.prog 85 := ⟨Tryz.f85, _, Tryz.func85, rfl, by decide +kernel⟩
instance ihb85 : HbF Tryz.prog 85 := ⟨hb85⟩
theorem hb86 : hasBody Tryz.prog 86 := ⟨Tryz.f86, _, Tryz.func86, rfl, by decide +kernel⟩
instance ihb86 : HbF Tryz.prog 86 := ⟨hb86⟩
theorem hb87 : hasBody Tryz.prog 87 := ⟨Tryz.f87, _, Tryz.func87, rfl, by decide +kernel⟩
instance ihb87 : HbF Tryz.prog 87 := ⟨hb87⟩
theorem hb88 : hasBody Tryz.prog 88 := ⟨Tryz.f88, _, Tryz.func88, rfl, by decide +kernel⟩
instance ihb88 : HbF Tryz.prog 88 := ⟨hb88⟩
theorem hb89 : hasBody Tryz.prog 89 := ⟨Tryz.f89, _, Tryz.func89, rfl, by decide +kernel⟩
instance ihb89 : HbF Tryz.prog 89 := ⟨hb89⟩
theorem hb90 : hasBody Tryz.prog 90 := ⟨Tryz.f90, _, Tryz.func90, rfl, by decide +kernel⟩
instance ihb90 : HbF Tryz.prog 90 := ⟨hb90⟩
theorem hb91 : hasBody Tryz.prog 91 := ⟨Tryz.f91, _, Tryz.func91, rfl, by decide +kernel⟩
instance ihb91 : HbF Tryz.prog 91 := ⟨hb91⟩
theorem hb92 : hasBody Tryz.prog 92 := ⟨Tryz.f92, _, Tryz.func92, rfl, by decide +kernel⟩
instance ihb92 : HbF Tryz.prog 92 := ⟨hb92⟩
theorem hb93 : hasBody Tryz.prog 93 := ⟨Tryz.f93, _, Tryz.func93, rfl, by decide +kernel⟩
instance ihb93 : HbF Tryz.prog 93 := ⟨hb93⟩
theorem hb96 : hasBody Tryz.prog 96 := ⟨Tryz.f96, _, Tryz.func96, rfl, by decide +kernel⟩
instance ihb96 : HbF Tryz.prog 96 := ⟨hb96⟩
theorem hb99 : hasBody Tryz.prog 99 := ⟨Tryz.f99, _, Tryz.func99, rfl, by decide +kernel⟩
instance ihb99 : HbF Tryz.prog 99 := ⟨hb99⟩
theorem hb100 : hasBody Tryz.prog 100 := ⟨Tryz.f100, _, Tryz.func100, rfl, by decide +kernel⟩
instance ihb100 : HbF Tryz.prog 100 := ⟨hb100⟩
theorem hb101 : hasBody Tryz.prog 101 := ⟨Tryz.f101, _, Tryz.func101, rfl, by decide +kernel⟩
instance ihb101 : HbF Tryz.prog 101 := ⟨hb101⟩
theorem hb102 : hasBody Tryz.prog 102 := ⟨Tryz.f102, _, Tryz.func102, rfl, by decide +kernel⟩
instance ihb102 : HbF Tryz.prog 102 := ⟨hb102⟩
theorem hb103 : hasBody Tryz.prog 103 := ⟨Tryz.f103, _, Tryz.func103, rfl, by decide +kernel⟩
instance ihb103 : HbF Tryz.prog 103 := ⟨hb103⟩
theorem hb104 : hasBody Tryz.prog 104 := ⟨Tryz.f104, _, Tryz.func104, rfl, by decide +kernel⟩
instance ihb104 : HbF Tryz.prog 104 := ⟨hb104⟩
theorem hb105 : hasBody Tryz.prog 105 := ⟨Tryz.f105, _, Tryz.func105, rfl, by decide +kernel⟩
instance ihb105 : HbF Tryz.prog 105 := ⟨hb105⟩
theorem hb106 : hasBody Tryz.prog 106 := ⟨Tryz.f106, _, Tryz.func106, rfl, by decide +kernel⟩
theorem hb107 : hasBody Tryz.prog 107 := ⟨Tryz.f107, _, Tryz.func107, rfl, by decide +kernel⟩
instance ihb107 : HbF Tryz.prog 107 := ⟨hb107⟩
theorem hb114 : hasBody Tryz.prog 114 := ⟨Tryz.f114, _, Tryz.func114, rfl, by decide +kernel⟩
instance ihb114 : HbF Tryz.prog 114 := ⟨hb114⟩
theorem hb120 : hasBody Tryz.prog 120 := ⟨Tryz.f120, _, Tryz.func120, rfl, by decide +kernel⟩
instance ihb120 : HbF Tryz.prog 120 := ⟨hb120⟩
end Go.Proofs
