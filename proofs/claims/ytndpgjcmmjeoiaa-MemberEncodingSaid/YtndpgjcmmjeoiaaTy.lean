/- Facts about the types and functions of this seat, for the abstract machine (written by gentypes.py). -/
import Derived.Test.YtndpgjcmmjeoiaaMe
import Derived.Test.YtndpgjcmmjeoiaaProg
import Derived.KernelRfl
set_option maxRecDepth 8000
namespace Go.Proofs
open Go.AM
theorem mixed : Try.prog.follows .mixedOrders = true := by kernel_rfl
@[go_sem] theorem ty3 : tyv Try.prog 3 = some (false, 1) := by kernel_rfl
instance ity3 : TyF Try.prog 3 false 1 := ⟨ty3⟩
@[go_sem] theorem un3 : Try.prog.underlying 3 = some (.int .i64) := by kernel_rfl
instance iun3 : UnF Try.prog 3 (.int .i64) := ⟨un3⟩
@[go_sem] theorem zv3 : zv Try.prog 3 = some (.sc (.int .i64 0)) := by kernel_rfl
instance izv3 : ZvF Try.prog 3 (.sc (.int .i64 0)) := ⟨zv3⟩
@[go_sem] theorem zo3 : zok Try.prog 3 1 := by simp only [zok, zv3]; rfl
instance izo3 : ZoF Try.prog 3 1 := ⟨zo3⟩
@[go_sem] theorem ty5 : tyv Try.prog 5 = some (false, 1) := by kernel_rfl
instance ity5 : TyF Try.prog 5 false 1 := ⟨ty5⟩
@[go_sem] theorem un5 : Try.prog.underlying 5 = some (.int .u8) := by kernel_rfl
instance iun5 : UnF Try.prog 5 (.int .u8) := ⟨un5⟩
@[go_sem] theorem zv5 : zv Try.prog 5 = some (.sc (.int .u8 0)) := by kernel_rfl
@[go_sem] theorem zo5 : zok Try.prog 5 1 := by simp only [zok, zv5]; rfl
instance izo5 : ZoF Try.prog 5 1 := ⟨zo5⟩
@[go_sem] theorem ty22 : tyv Try.prog 22 = some (false, 1) := by kernel_rfl
instance ity22 : TyF Try.prog 22 false 1 := ⟨ty22⟩
@[go_sem] theorem sl22 : slv Try.prog 22 = some (38, 2, 16) := by kernel_rfl
instance isl22 : SlF Try.prog 22 38 2 16 := ⟨sl22⟩
@[go_sem] theorem ty24 : tyv Try.prog 24 = some (true, 3) := by kernel_rfl
instance ity24 : TyF Try.prog 24 true 3 := ⟨ty24⟩
@[go_sem] theorem fl24_0 : fldv Try.prog 24 0 = some (0, false, 1) := by kernel_rfl
instance ifl24_0 : FlF Try.prog 24 0 0 false 1 := ⟨fl24_0⟩
@[go_sem] theorem fl24_1 : fldv Try.prog 24 1 = some (1, false, 1) := by kernel_rfl
instance ifl24_1 : FlF Try.prog 24 1 1 false 1 := ⟨fl24_1⟩
@[go_sem] theorem fl24_2 : fldv Try.prog 24 2 = some (2, false, 1) := by kernel_rfl
instance ifl24_2 : FlF Try.prog 24 2 2 false 1 := ⟨fl24_2⟩
@[go_sem] theorem pl24 : places Try.prog 24 = some [(0, 1), (1, 1), (2, 1)] := by kernel_rfl
instance ipl24 : PlF Try.prog 24 [(0, 1), (1, 1), (2, 1)] := ⟨pl24⟩
theorem eq24 : eqlT Try.prog 24 [.sc (.int .i64 0), .sc (.int .i64 0), .sc (.int .i64 0)] := eqlT_of (by kernel_rfl) ty24 (by kernel_rfl)
instance ieq24 : EqF Try.prog 24 ([.sc (.int .i64 0), .sc (.int .i64 0), .sc (.int .i64 0)]) := ⟨eq24⟩
@[go_sem] theorem zv24 : zv Try.prog 24 = some (.agg [.sc (.int .i64 0), .sc (.int .i64 0), .sc (.int .i64 0)]) := by kernel_rfl
instance izv24 : ZvF Try.prog 24 (.agg [.sc (.int .i64 0), .sc (.int .i64 0), .sc (.int .i64 0)]) := ⟨zv24⟩
@[go_sem] theorem ty26 : tyv Try.prog 26 = some (true, 4) := by kernel_rfl
instance ity26 : TyF Try.prog 26 true 4 := ⟨ty26⟩
@[go_sem] theorem fl26_0 : fldv Try.prog 26 0 = some (0, false, 1) := by kernel_rfl
instance ifl26_0 : FlF Try.prog 26 0 0 false 1 := ⟨fl26_0⟩
@[go_sem] theorem fl26_1 : fldv Try.prog 26 1 = some (1, true, 3) := by kernel_rfl
instance ifl26_1 : FlF Try.prog 26 1 1 true 3 := ⟨fl26_1⟩
@[go_sem] theorem pl26 : places Try.prog 26 = some [(0, 1), (1, 3)] := by kernel_rfl
instance ipl26 : PlF Try.prog 26 [(0, 1), (1, 3)] := ⟨pl26⟩
@[go_sem] theorem zv26 : zv Try.prog 26 = some (.agg [.sc (.slice none 0 0), .sc (.int .i64 0), .sc (.int .i64 0), .sc (.int .i64 0)]) := by kernel_rfl
instance izv26 : ZvF Try.prog 26 (.agg [.sc (.slice none 0 0), .sc (.int .i64 0), .sc (.int .i64 0), .sc (.int .i64 0)]) := ⟨zv26⟩
@[go_sem] theorem ty27 : tyv Try.prog 27 = some (false, 1) := by kernel_rfl
instance ity27 : TyF Try.prog 27 false 1 := ⟨ty27⟩
@[go_sem] theorem sl27 : slv Try.prog 27 = some (5, 1, 1) := by kernel_rfl
instance isl27 : SlF Try.prog 27 5 1 1 := ⟨sl27⟩
@[go_sem] theorem ty33 : tyv Try.prog 33 = some (true, 4) := by kernel_rfl
instance ity33 : TyF Try.prog 33 true 4 := ⟨ty33⟩
@[go_sem] theorem fl33_0 : fldv Try.prog 33 0 = some (0, false, 1) := by kernel_rfl
instance ifl33_0 : FlF Try.prog 33 0 0 false 1 := ⟨fl33_0⟩
@[go_sem] theorem fl33_1 : fldv Try.prog 33 1 = some (1, true, 3) := by kernel_rfl
instance ifl33_1 : FlF Try.prog 33 1 1 true 3 := ⟨fl33_1⟩
@[go_sem] theorem pl33 : places Try.prog 33 = some [(0, 1), (1, 3)] := by kernel_rfl
instance ipl33 : PlF Try.prog 33 [(0, 1), (1, 3)] := ⟨pl33⟩
@[go_sem] theorem zv33 : zv Try.prog 33 = some (.agg [.sc (.slice none 0 0), .sc (.int .i64 0), .sc (.int .i64 0), .sc (.int .i64 0)]) := by kernel_rfl
instance izv33 : ZvF Try.prog 33 (.agg [.sc (.slice none 0 0), .sc (.int .i64 0), .sc (.int .i64 0), .sc (.int .i64 0)]) := ⟨zv33⟩
@[go_sem] theorem ty38 : tyv Try.prog 38 = some (true, 2) := by kernel_rfl
instance ity38 : TyF Try.prog 38 true 2 := ⟨ty38⟩
@[go_sem] theorem fl38_0 : fldv Try.prog 38 0 = some (0, false, 1) := by kernel_rfl
instance ifl38_0 : FlF Try.prog 38 0 0 false 1 := ⟨fl38_0⟩
@[go_sem] theorem fl38_1 : fldv Try.prog 38 1 = some (1, false, 1) := by kernel_rfl
instance ifl38_1 : FlF Try.prog 38 1 1 false 1 := ⟨fl38_1⟩
@[go_sem] theorem pl38 : places Try.prog 38 = some [(0, 1), (1, 1)] := by kernel_rfl
instance ipl38 : PlF Try.prog 38 [(0, 1), (1, 1)] := ⟨pl38⟩
theorem eq38 : eqlT Try.prog 38 [.sc (.int .i64 0), .sc (.int .i64 0)] := eqlT_of (by kernel_rfl) ty38 (by kernel_rfl)
instance ieq38 : EqF Try.prog 38 ([.sc (.int .i64 0), .sc (.int .i64 0)]) := ⟨eq38⟩
@[go_sem] theorem zv38 : zv Try.prog 38 = some (.agg [.sc (.int .i64 0), .sc (.int .i64 0)]) := by kernel_rfl
instance izv38 : ZvF Try.prog 38 (.agg [.sc (.int .i64 0), .sc (.int .i64 0)]) := ⟨zv38⟩
@[go_sem] theorem zo38 : zok Try.prog 38 2 := by simp only [zok, zv38]; rfl
instance izo38 : ZoF Try.prog 38 2 := ⟨zo38⟩
@[go_sem] theorem ty40 : tyv Try.prog 40 = some (true, 7) := by kernel_rfl
instance ity40 : TyF Try.prog 40 true 7 := ⟨ty40⟩
@[go_sem] theorem fl40_0 : fldv Try.prog 40 0 = some (0, false, 1) := by kernel_rfl
instance ifl40_0 : FlF Try.prog 40 0 0 false 1 := ⟨fl40_0⟩
@[go_sem] theorem fl40_1 : fldv Try.prog 40 1 = some (1, false, 1) := by kernel_rfl
instance ifl40_1 : FlF Try.prog 40 1 1 false 1 := ⟨fl40_1⟩
@[go_sem] theorem fl40_2 : fldv Try.prog 40 2 = some (2, false, 1) := by kernel_rfl
instance ifl40_2 : FlF Try.prog 40 2 2 false 1 := ⟨fl40_2⟩
@[go_sem] theorem fl40_3 : fldv Try.prog 40 3 = some (3, false, 1) := by kernel_rfl
instance ifl40_3 : FlF Try.prog 40 3 3 false 1 := ⟨fl40_3⟩
@[go_sem] theorem fl40_4 : fldv Try.prog 40 4 = some (4, true, 3) := by kernel_rfl
instance ifl40_4 : FlF Try.prog 40 4 4 true 3 := ⟨fl40_4⟩
@[go_sem] theorem pl40 : places Try.prog 40 = some [(0, 1), (1, 1), (2, 1), (3, 1), (4, 3)] := by kernel_rfl
instance ipl40 : PlF Try.prog 40 [(0, 1), (1, 1), (2, 1), (3, 1), (4, 3)] := ⟨pl40⟩
@[go_sem] theorem zv40 : zv Try.prog 40 = some (.agg [.sc (.int .i64 0), .sc (.int .i64 0), .sc (.int .i64 0), .sc (.int .i64 0), .sc (.int .i64 0), .sc (.int .i64 0), .sc (.int .i64 0)]) := by kernel_rfl
instance izv40 : ZvF Try.prog 40 (.agg [.sc (.int .i64 0), .sc (.int .i64 0), .sc (.int .i64 0), .sc (.int .i64 0), .sc (.int .i64 0), .sc (.int .i64 0), .sc (.int .i64 0)]) := ⟨zv40⟩
@[go_sem] theorem zo40 : zok Try.prog 40 7 := by simp only [zok, zv40]; rfl
instance izo40 : ZoF Try.prog 40 7 := ⟨zo40⟩
@[go_sem] theorem ty41 : tyv Try.prog 41 = some (false, 1) := by kernel_rfl
instance ity41 : TyF Try.prog 41 false 1 := ⟨ty41⟩
@[go_sem] theorem sl41 : slv Try.prog 41 = some (40, 7, 56) := by kernel_rfl
instance isl41 : SlF Try.prog 41 40 7 56 := ⟨sl41⟩
@[go_sem] theorem ty43 : tyv Try.prog 43 = some (true, 3) := by kernel_rfl
instance ity43 : TyF Try.prog 43 true 3 := ⟨ty43⟩
@[go_sem] theorem fl43_0 : fldv Try.prog 43 0 = some (0, false, 1) := by kernel_rfl
instance ifl43_0 : FlF Try.prog 43 0 0 false 1 := ⟨fl43_0⟩
@[go_sem] theorem fl43_1 : fldv Try.prog 43 1 = some (1, false, 1) := by kernel_rfl
instance ifl43_1 : FlF Try.prog 43 1 1 false 1 := ⟨fl43_1⟩
@[go_sem] theorem fl43_2 : fldv Try.prog 43 2 = some (2, false, 1) := by kernel_rfl
instance ifl43_2 : FlF Try.prog 43 2 2 false 1 := ⟨fl43_2⟩
@[go_sem] theorem pl43 : places Try.prog 43 = some [(0, 1), (1, 1), (2, 1)] := by kernel_rfl
instance ipl43 : PlF Try.prog 43 [(0, 1), (1, 1), (2, 1)] := ⟨pl43⟩
@[go_sem] theorem zv43 : zv Try.prog 43 = some (.agg [.sc (.int .i64 0), .sc (.int .i64 0), .sc (.slice none 0 0)]) := by kernel_rfl
instance izv43 : ZvF Try.prog 43 (.agg [.sc (.int .i64 0), .sc (.int .i64 0), .sc (.slice none 0 0)]) := ⟨zv43⟩
@[go_sem] theorem zo43 : zok Try.prog 43 3 := by simp only [zok, zv43]; rfl
instance izo43 : ZoF Try.prog 43 3 := ⟨zo43⟩
@[go_sem] theorem sl45 : slv Try.prog 45 = some (43, 3, 40) := by kernel_rfl
instance isl45 : SlF Try.prog 45 43 3 40 := ⟨sl45⟩
@[go_sem] theorem ty46 : tyv Try.prog 46 = some (false, 1) := by kernel_rfl
instance ity46 : TyF Try.prog 46 false 1 := ⟨ty46⟩
@[go_sem] theorem sl46 : slv Try.prog 46 = some (3, 1, 8) := by kernel_rfl
instance isl46 : SlF Try.prog 46 3 1 8 := ⟨sl46⟩
@[go_sem] theorem zv46 : zv Try.prog 46 = some (.sc (.slice none 0 0)) := by kernel_rfl
@[go_sem] theorem zo46 : zok Try.prog 46 1 := by simp only [zok, zv46]; rfl
instance izo46 : ZoF Try.prog 46 1 := ⟨zo46⟩
@[go_sem] theorem ty47 : tyv Try.prog 47 = some (false, 1) := by kernel_rfl
instance ity47 : TyF Try.prog 47 false 1 := ⟨ty47⟩
@[go_sem] theorem sl47 : slv Try.prog 47 = some (72, 5, 40) := by kernel_rfl
instance isl47 : SlF Try.prog 47 72 5 40 := ⟨sl47⟩
@[go_sem] theorem ty49 : tyv Try.prog 49 = some (true, 9) := by kernel_rfl
instance ity49 : TyF Try.prog 49 true 9 := ⟨ty49⟩
@[go_sem] theorem fl49_0 : fldv Try.prog 49 0 = some (0, false, 1) := by kernel_rfl
instance ifl49_0 : FlF Try.prog 49 0 0 false 1 := ⟨fl49_0⟩
@[go_sem] theorem fl49_1 : fldv Try.prog 49 1 = some (1, false, 1) := by kernel_rfl
instance ifl49_1 : FlF Try.prog 49 1 1 false 1 := ⟨fl49_1⟩
@[go_sem] theorem fl49_2 : fldv Try.prog 49 2 = some (2, false, 1) := by kernel_rfl
instance ifl49_2 : FlF Try.prog 49 2 2 false 1 := ⟨fl49_2⟩
@[go_sem] theorem fl49_3 : fldv Try.prog 49 3 = some (3, true, 3) := by kernel_rfl
instance ifl49_3 : FlF Try.prog 49 3 3 true 3 := ⟨fl49_3⟩
@[go_sem] theorem fl49_4 : fldv Try.prog 49 4 = some (6, false, 1) := by kernel_rfl
instance ifl49_4 : FlF Try.prog 49 4 6 false 1 := ⟨fl49_4⟩
@[go_sem] theorem fl49_5 : fldv Try.prog 49 5 = some (7, false, 1) := by kernel_rfl
instance ifl49_5 : FlF Try.prog 49 5 7 false 1 := ⟨fl49_5⟩
@[go_sem] theorem fl49_6 : fldv Try.prog 49 6 = some (8, false, 1) := by kernel_rfl
instance ifl49_6 : FlF Try.prog 49 6 8 false 1 := ⟨fl49_6⟩
@[go_sem] theorem pl49 : places Try.prog 49 = some [(0, 1), (1, 1), (2, 1), (3, 3), (6, 1), (7, 1), (8, 1)] := by kernel_rfl
instance ipl49 : PlF Try.prog 49 [(0, 1), (1, 1), (2, 1), (3, 3), (6, 1), (7, 1), (8, 1)] := ⟨pl49⟩
@[go_sem] theorem zv49 : zv Try.prog 49 = some (.agg [.sc (.slice none 0 0), .sc (.slice none 0 0), .sc (.slice none 0 0), .sc (.int .i64 0), .sc (.int .i64 0), .sc (.int .i64 0), .sc (.int .i64 0), .sc (.int .i64 0), .sc (.int .i64 0)]) := by kernel_rfl
instance izv49 : ZvF Try.prog 49 (.agg [.sc (.slice none 0 0), .sc (.slice none 0 0), .sc (.slice none 0 0), .sc (.int .i64 0), .sc (.int .i64 0), .sc (.int .i64 0), .sc (.int .i64 0), .sc (.int .i64 0), .sc (.int .i64 0)]) := ⟨zv49⟩
@[go_sem] theorem ty57 : tyv Try.prog 57 = some (false, 1) := by kernel_rfl
instance ity57 : TyF Try.prog 57 false 1 := ⟨ty57⟩
@[go_sem] theorem zv57 : zv Try.prog 57 = some (.sc (.pointer none)) := by kernel_rfl
@[go_sem] theorem zo57 : zok Try.prog 57 1 := by simp only [zok, zv57]; rfl
instance izo57 : ZoF Try.prog 57 1 := ⟨zo57⟩
@[go_sem] theorem un58 : Try.prog.underlying 58 = some (.int .u64) := by kernel_rfl
instance iun58 : UnF Try.prog 58 (.int .u64) := ⟨un58⟩
@[go_sem] theorem sl62 : slv Try.prog 62 = some (57, 1, 8) := by kernel_rfl
instance isl62 : SlF Try.prog 62 57 1 8 := ⟨sl62⟩
@[go_sem] theorem ty72 : tyv Try.prog 72 = some (true, 5) := by kernel_rfl
instance ity72 : TyF Try.prog 72 true 5 := ⟨ty72⟩
@[go_sem] theorem fl72_0 : fldv Try.prog 72 0 = some (0, false, 1) := by kernel_rfl
instance ifl72_0 : FlF Try.prog 72 0 0 false 1 := ⟨fl72_0⟩
@[go_sem] theorem fl72_1 : fldv Try.prog 72 1 = some (1, false, 1) := by kernel_rfl
instance ifl72_1 : FlF Try.prog 72 1 1 false 1 := ⟨fl72_1⟩
@[go_sem] theorem fl72_2 : fldv Try.prog 72 2 = some (2, false, 1) := by kernel_rfl
instance ifl72_2 : FlF Try.prog 72 2 2 false 1 := ⟨fl72_2⟩
@[go_sem] theorem fl72_3 : fldv Try.prog 72 3 = some (3, false, 1) := by kernel_rfl
instance ifl72_3 : FlF Try.prog 72 3 3 false 1 := ⟨fl72_3⟩
@[go_sem] theorem fl72_4 : fldv Try.prog 72 4 = some (4, false, 1) := by kernel_rfl
instance ifl72_4 : FlF Try.prog 72 4 4 false 1 := ⟨fl72_4⟩
@[go_sem] theorem pl72 : places Try.prog 72 = some [(0, 1), (1, 1), (2, 1), (3, 1), (4, 1)] := by kernel_rfl
instance ipl72 : PlF Try.prog 72 [(0, 1), (1, 1), (2, 1), (3, 1), (4, 1)] := ⟨pl72⟩
theorem eq72 : eqlT Try.prog 72 [.sc (.int .i64 0), .sc (.int .i64 0), .sc (.int .i64 0), .sc (.int .i64 0), .sc (.int .i64 0)] := eqlT_of (by kernel_rfl) ty72 (by kernel_rfl)
instance ieq72 : EqF Try.prog 72 ([.sc (.int .i64 0), .sc (.int .i64 0), .sc (.int .i64 0), .sc (.int .i64 0), .sc (.int .i64 0)]) := ⟨eq72⟩
@[go_sem] theorem zv72 : zv Try.prog 72 = some (.agg [.sc (.int .i64 0), .sc (.int .i64 0), .sc (.int .i64 0), .sc (.int .i64 0), .sc (.int .i64 0)]) := by kernel_rfl
instance izv72 : ZvF Try.prog 72 (.agg [.sc (.int .i64 0), .sc (.int .i64 0), .sc (.int .i64 0), .sc (.int .i64 0), .sc (.int .i64 0)]) := ⟨zv72⟩
@[go_sem] theorem zo72 : zok Try.prog 72 5 := by simp only [zok, zv72]; rfl
instance izo72 : ZoF Try.prog 72 5 := ⟨zo72⟩
@[go_sem] theorem mp80 : mpv Try.prog 80 = some ((.int .i64), 72) := by kernel_rfl
instance imp80 : MpF Try.prog 80 ((.int .i64)) 72 := ⟨mp80⟩
@[go_sem] theorem un87 : Try.prog.underlying 87 = some (.int .u64) := by kernel_rfl
instance iun87 : UnF Try.prog 87 (.int .u64) := ⟨un87⟩
@[go_sem] theorem sl89 : slv Try.prog 89 = some (46, 1, 24) := by kernel_rfl
instance isl89 : SlF Try.prog 89 46 1 24 := ⟨sl89⟩
theorem hb3 : hasBody Try.prog 3 := ⟨Try.f3, _, Try.func3, rfl, by decide +kernel⟩
theorem hb4 : hasBody Try.prog 4 := ⟨Try.f4, _, Try.func4, rfl, by decide +kernel⟩
instance ihb4 : HbF Try.prog 4 := ⟨hb4⟩
theorem hb5 : hasBody Try.prog 5 := ⟨Try.f5, _, Try.func5, rfl, by decide +kernel⟩
instance ihb5 : HbF Try.prog 5 := ⟨hb5⟩
theorem hb6 : hasBody Try.prog 6 := ⟨Try.f6, _, Try.func6, rfl, by decide +kernel⟩
instance ihb6 : HbF Try.prog 6 := ⟨hb6⟩
theorem hb7 : hasBody Try.prog 7 := ⟨Try.f7, _, Try.func7, rfl, by decide +kernel⟩
instance ihb7 : HbF Try.prog 7 := ⟨hb7⟩
theorem hb8 : hasBody Try.prog 8 := ⟨Try.f8, _, Try.func8, rfl, by decide +kernel⟩
instance ihb8 : HbF Try.prog 8 := ⟨hb8⟩
theorem hb9 : hasBody Try.prog 9 := ⟨Try.f9, _, Try.func9, rfl, by decide +kernel⟩
instance ihb9 : HbF Try.prog 9 := ⟨hb9⟩
theorem hb10 : hasBody Try.prog 10 := ⟨Try.f10, _, Try.func10, rfl, by decide +kernel⟩
instance ihb10 : HbF Try.prog 10 := ⟨hb10⟩
theorem hb11 : hasBody Try.prog 11 := ⟨Try.f11, _, Try.func11, rfl, by decide +kernel⟩
instance ihb11 : HbF Try.prog 11 := ⟨hb11⟩
theorem hb12 : hasBody Try.prog 12 := ⟨Try.f12, _, Try.func12, rfl, by decide +kernel⟩
instance ihb12 : HbF Try.prog 12 := ⟨hb12⟩
theorem hb13 : hasBody Try.prog 13 := ⟨Try.f13, _, Try.func13, rfl, by decide +kernel⟩
instance ihb13 : HbF Try.prog 13 := ⟨hb13⟩
theorem hb14 : hasBody Try.prog 14 := ⟨Try.f14, _, Try.func14, rfl, by decide +kernel⟩
instance ihb14 : HbF Try.prog 14 := ⟨hb14⟩
theorem hb15 : hasBody Try.prog 15 := ⟨Try.f15, _, Try.func15, rfl, by decide +kernel⟩
instance ihb15 : HbF Try.prog 15 := ⟨hb15⟩
theorem hb16 : hasBody Try.prog 16 := ⟨Try.f16, _, Try.func16, rfl, by decide +kernel⟩
instance ihb16 : HbF Try.prog 16 := ⟨hb16⟩
theorem hb17 : hasBody Try.prog 17 := ⟨Try.f17, _, Try.func17, rfl, by decide +kernel⟩
instance ihb17 : HbF Try.prog 17 := ⟨hb17⟩
theorem hb18 : hasBody Try.prog 18 := ⟨Try.f18, _, Try.func18, rfl, by decide +kernel⟩
instance ihb18 : HbF Try.prog 18 := ⟨hb18⟩
theorem hb19 : hasBody Try.prog 19 := ⟨Try.f19, _, Try.func19, rfl, by decide +kernel⟩
instance ihb19 : HbF Try.prog 19 := ⟨hb19⟩
theorem hb20 : hasBody Try.prog 20 := ⟨Try.f20, _, Try.func20, rfl, by decide +kernel⟩
instance ihb20 : HbF Try.prog 20 := ⟨hb20⟩
theorem hb21 : hasBody Try.prog 21 := ⟨Try.f21, _, Try.func21, rfl, by decide +kernel⟩
instance ihb21 : HbF Try.prog 21 := ⟨hb21⟩
theorem hb22 : hasBody Try.prog 22 := ⟨Try.f22, _, Try.func22, rfl, by decide +kernel⟩
instance ihb22 : HbF Try.prog 22 := ⟨hb22⟩
theorem hb23 : hasBody Try.prog 23 := ⟨Try.f23, _, Try.func23, rfl, by decide +kernel⟩
instance ihb23 : HbF Try.prog 23 := ⟨hb23⟩
theorem hb24 : hasBody Try.prog 24 := ⟨Try.f24, _, Try.func24, rfl, by decide +kernel⟩
instance ihb24 : HbF Try.prog 24 := ⟨hb24⟩
theorem hb25 : hasBody Try.prog 25 := ⟨Try.f25, _, Try.func25, rfl, by decide +kernel⟩
instance ihb25 : HbF Try.prog 25 := ⟨hb25⟩
theorem hb26 : hasBody Try.prog 26 := ⟨Try.f26, _, Try.func26, rfl, by decide +kernel⟩
instance ihb26 : HbF Try.prog 26 := ⟨hb26⟩
theorem hb27 : hasBody Try.prog 27 := ⟨Try.f27, _, Try.func27, rfl, by decide +kernel⟩
instance ihb27 : HbF Try.prog 27 := ⟨hb27⟩
theorem hb28 : hasBody Try.prog 28 := ⟨Try.f28, _, Try.func28, rfl, by decide +kernel⟩
instance ihb28 : HbF Try.prog 28 := ⟨hb28⟩
theorem hb29 : hasBody Try.prog 29 := ⟨Try.f29, _, Try.func29, rfl, by decide +kernel⟩
instance ihb29 : HbF Try.prog 29 := ⟨hb29⟩
theorem hb30 : hasBody Try.prog 30 := ⟨Try.f30, _, Try.func30, rfl, by decide +kernel⟩
instance ihb30 : HbF Try.prog 30 := ⟨hb30⟩
theorem hb31 : hasBody Try.prog 31 := ⟨Try.f31, _, Try.func31, rfl, by decide +kernel⟩
instance ihb31 : HbF Try.prog 31 := ⟨hb31⟩
theorem hb32 : hasBody Try.prog 32 := ⟨Try.f32, _, Try.func32, rfl, by decide +kernel⟩
instance ihb32 : HbF Try.prog 32 := ⟨hb32⟩
theorem hb33 : hasBody Try.prog 33 := ⟨Try.f33, _, Try.func33, rfl, by decide +kernel⟩
instance ihb33 : HbF Try.prog 33 := ⟨hb33⟩
theorem hb34 : hasBody Try.prog 34 := ⟨Try.f34, _, Try.func34, rfl, by decide +kernel⟩
instance ihb34 : HbF Try.prog 34 := ⟨hb34⟩
theorem hb35 : hasBody Try.prog 35 := ⟨Try.f35, _, Try.func35, rfl, by decide +kernel⟩
instance ihb35 : HbF Try.prog 35 := ⟨hb35⟩
theorem hb36 : hasBody Try.prog 36 := ⟨Try.f36, _, Try.func36, rfl, by decide +kernel⟩
instance ihb36 : HbF Try.prog 36 := ⟨hb36⟩
theorem hb37 : hasBody Try.prog 37 := ⟨Try.f37, _, Try.func37, rfl, by decide +kernel⟩
instance ihb37 : HbF Try.prog 37 := ⟨hb37⟩
theorem hb38 : hasBody Try.prog 38 := ⟨Try.f38, _, Try.func38, rfl, by decide +kernel⟩
instance ihb38 : HbF Try.prog 38 := ⟨hb38⟩
theorem hb39 : hasBody Try.prog 39 := ⟨Try.f39, _, Try.func39, rfl, by decide +kernel⟩
instance ihb39 : HbF Try.prog 39 := ⟨hb39⟩
theorem hb40 : hasBody Try.prog 40 := ⟨Try.f40, _, Try.func40, rfl, by decide +kernel⟩
instance ihb40 : HbF Try.prog 40 := ⟨hb40⟩
theorem hb41 : hasBody Try.prog 41 := ⟨Try.f41, _, Try.func41, rfl, by decide +kernel⟩
instance ihb41 : HbF Try.prog 41 := ⟨hb41⟩
theorem hb42 : hasBody Try.prog 42 := ⟨Try.f42, _, Try.func42, rfl, by decide +kernel⟩
instance ihb42 : HbF Try.prog 42 := ⟨hb42⟩
theorem hb43 : hasBody Try.prog 43 := ⟨Try.f43, _, Try.func43, rfl, by decide +kernel⟩
instance ihb43 : HbF Try.prog 43 := ⟨hb43⟩
theorem hb44 : hasBody Try.prog 44 := ⟨Try.f44, _, Try.func44, rfl, by decide +kernel⟩
instance ihb44 : HbF Try.prog 44 := ⟨hb44⟩
theorem hb45 : hasBody Try.prog 45 := ⟨Try.f45, _, Try.func45, rfl, by decide +kernel⟩
instance ihb45 : HbF Try.prog 45 := ⟨hb45⟩
theorem hb48 : hasBody Try.prog 48 := ⟨Try.f48, _, Try.func48, rfl, by decide +kernel⟩
instance ihb48 : HbF Try.prog 48 := ⟨hb48⟩
theorem hb49 : hasBody Try.prog 49 := ⟨Try.f49, _, Try.func49, rfl, by decide +kernel⟩
instance ihb49 : HbF Try.prog 49 := ⟨hb49⟩
theorem hb50 : hasBody Try.prog 50 := ⟨Try.f50, _, Try.func50, rfl, by decide +kernel⟩
instance ihb50 : HbF Try.prog 50 := ⟨hb50⟩
theorem hb51 : hasBody Try.prog 51 := ⟨Try.f51, _, Try.func51, rfl, by decide +kernel⟩
instance ihb51 : HbF Try.prog 51 := ⟨hb51⟩
theorem hb52 : hasBody Try.prog 52 := ⟨Try.f52, _, Try.func52, rfl, by decide +kernel⟩
instance ihb52 : HbF Try.prog 52 := ⟨hb52⟩
theorem hb53 : hasBody Try.prog 53 := ⟨Try.f53, _, Try.func53, rfl, by decide +kernel⟩
instance ihb53 : HbF Try.prog 53 := ⟨hb53⟩
theorem hb54 : hasBody Try.prog 54 := ⟨Try.f54, _, Try.func54, rfl, by decide +kernel⟩
instance ihb54 : HbF Try.prog 54 := ⟨hb54⟩
theorem hb55 : hasBody Try.prog 55 := ⟨Try.f55, _, Try.func55, rfl, by decide +kernel⟩
theorem hb56 : hasBody Try.prog 56 := ⟨Try.f56, _, Try.func56, rfl, by decide +kernel⟩
instance ihb56 : HbF Try.prog 56 := ⟨hb56⟩
theorem hb63 : hasBody Try.prog 63 := ⟨Try.f63, _, Try.func63, rfl, by decide +kernel⟩
instance ihb63 : HbF Try.prog 63 := ⟨hb63⟩
theorem hb68 : hasBody Try.prog 68 := ⟨Try.f68, _, Try.func68, rfl, by decide +kernel⟩
instance ihb68 : HbF Try.prog 68 := ⟨hb68⟩
theorem hb69 : hasBody Try.prog 69 := ⟨Try.f69, _, Try.func69, rfl, by decide +kernel⟩
instance ihb69 : HbF Try.prog 69 := ⟨hb69⟩
end Go.Proofs
