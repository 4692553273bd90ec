/- Plain values of the program's types and how they stand in memory. -/
import Derived.Test.YtndpgjcmmjeoiaaGreatTy
import Derived.Test.YtndpgjcmmjeoiaaGreatMg
set_option linter.unusedVariables false
set_option linter.unusedSimpArgs false
namespace Go.Proofs
open Go.AM
structure Rule where
  kind : Int
  columns : Int
  faulty : Int
  deriving DecidableEq, Inhabited
structure Change where
  kind : Int
  server : Int
  weight : Int
  version : Int
  rule : Rule
  deriving DecidableEq, Inhabited
structure Proposal where
  admin : Int
  number : Int
  changes : List Change
  deriving DecidableEq, Inhabited
structure Entry where
  author : Int
  count : Int
  deriving DecidableEq, Inhabited
abbrev Config := List Proposal
abbrev Vector := List Entry
structure Graph where
  nodes : List Config
  edges : List (Int × Int)
  deriving DecidableEq, Inhabited
structure WeightEntry where
  server : Int
  weight : Int
  version : Int
  admin : Int
  number : Int
  deriving DecidableEq, Inhabited
structure Member where
  server : Int
  weight : Int
  deriving DecidableEq, Inhabited
structure Summary where
  joined : List Int
  removed : List Int
  weights : List WeightEntry
  rule : Rule
  version : Int
  admin : Int
  number : Int
  deriving DecidableEq, Inhabited
structure View where
  members : List Member
  rule : Rule
  deriving DecidableEq, Inhabited
def chV (c : Change) : V := .agg [.i c.kind, .i c.server, .i c.weight, .i c.version, .i c.rule.kind, .i c.rule.columns, .i c.rule.faulty]
def ruV (r : Rule) : V := .agg [.i r.kind, .i r.columns, .i r.faulty]
def prV (p : Proposal) : V := .agg [.i p.admin, .i p.number, .sl false (p.changes.map chV)]
def enV (e : Entry) : V := .agg [.i e.author, .i e.count]
@[reducible] def cfV (c : Config) : V := .sl false (c.map prV)
@[reducible] def veV (v : Vector) : V := .sl false (v.map enV)
@[reducible] def inV (l : List Int) : V := .sl false (l.map .i)
def edV (e : Int × Int) : V := .agg [.i e.1, .i e.2]
def grV (g : Graph) : V := .agg [.sl false (g.nodes.map cfV), .sl false (g.edges.map edV)]
def weV (w : WeightEntry) : V := .agg [.i w.server, .i w.weight, .i w.version, .i w.admin, .i w.number]
def mbV (m : Member) : V := .agg [.i m.server, .i m.weight]
def suV (s : Summary) : V := .agg [.sl false (s.joined.map .i), .sl false (s.removed.map .i), .sl false (s.weights.map weV), .i s.rule.kind, .i s.rule.columns, .i s.rule.faulty, .i s.version, .i s.admin, .i s.number]
def viV (v : View) : V := .agg [.sl false (v.members.map mbV), .i v.rule.kind, .i v.rule.columns, .i v.rule.faulty]
theorem da_i (x : Int) : (V.i x).data = true := rfl
theorem st_i (xs : List Int) : Storable (xs.map V.i) := Storable_map _ _ fun _ => rfl
theorem sd_i (xs : List Int) : Stride 1 (xs.map V.i) := Stride_map _ _ fun _ => rfl
theorem dl_i (xs : List Int) : V.dataL (xs.map V.i) = true := dataL_map _ _ fun _ => rfl
theorem ce_chV (x : Change) : (chV x).cells = [.i x.kind, .i x.server, .i x.weight, .i x.version, .i x.rule.kind, .i x.rule.columns, .i x.rule.faulty] := rfl
theorem ok_chV (x : Change) : (chV x).okCells = true := rfl
theorem da_chV (x : Change) : (chV x).data = true := rfl
theorem st_chV (xs : List Change) : Storable (xs.map chV) := Storable_map _ _ fun _ => rfl
theorem sd_chV (xs : List Change) : Stride 7 (xs.map chV) := Stride_map _ _ fun _ => rfl
theorem dl_chV (xs : List Change) : V.dataL (xs.map chV) = true := dataL_map _ _ da_chV
theorem ce_ruV (x : Rule) : (ruV x).cells = [.i x.kind, .i x.columns, .i x.faulty] := rfl
theorem ok_ruV (x : Rule) : (ruV x).okCells = true := rfl
theorem da_ruV (x : Rule) : (ruV x).data = true := rfl
theorem st_ruV (xs : List Rule) : Storable (xs.map ruV) := Storable_map _ _ fun _ => rfl
theorem sd_ruV (xs : List Rule) : Stride 3 (xs.map ruV) := Stride_map _ _ fun _ => rfl
theorem dl_ruV (xs : List Rule) : V.dataL (xs.map ruV) = true := dataL_map _ _ da_ruV
theorem ce_prV (x : Proposal) : (prV x).cells = [.i x.admin, .i x.number, .sl false (x.changes.map chV)] := rfl
theorem ok_prV (x : Proposal) : (prV x).okCells = true := rfl
theorem da_prV (x : Proposal) : (prV x).data = true := by simp [prV, V.data, V.dataL, dl_chV]
theorem st_prV (xs : List Proposal) : Storable (xs.map prV) := Storable_map _ _ fun _ => rfl
theorem sd_prV (xs : List Proposal) : Stride 3 (xs.map prV) := Stride_map _ _ fun _ => rfl
theorem dl_prV (xs : List Proposal) : V.dataL (xs.map prV) = true := dataL_map _ _ da_prV
theorem ce_enV (x : Entry) : (enV x).cells = [.i x.author, .i x.count] := rfl
theorem ok_enV (x : Entry) : (enV x).okCells = true := rfl
theorem da_enV (x : Entry) : (enV x).data = true := rfl
theorem st_enV (xs : List Entry) : Storable (xs.map enV) := Storable_map _ _ fun _ => rfl
theorem sd_enV (xs : List Entry) : Stride 2 (xs.map enV) := Stride_map _ _ fun _ => rfl
theorem dl_enV (xs : List Entry) : V.dataL (xs.map enV) = true := dataL_map _ _ da_enV
theorem da_cfV (x : Config) : (cfV x).data = true := by simp [cfV, V.data, dl_prV]
theorem st_cfV (xs : List Config) : Storable (xs.map cfV) := Storable_map _ _ fun _ => rfl
theorem sd_cfV (xs : List Config) : Stride 1 (xs.map cfV) := Stride_map _ _ fun _ => rfl
theorem dl_cfV (xs : List Config) : V.dataL (xs.map cfV) = true := dataL_map _ _ da_cfV
theorem da_veV (x : Vector) : (veV x).data = true := by simp [veV, V.data, dl_enV]
theorem st_veV (xs : List Vector) : Storable (xs.map veV) := Storable_map _ _ fun _ => rfl
theorem sd_veV (xs : List Vector) : Stride 1 (xs.map veV) := Stride_map _ _ fun _ => rfl
theorem dl_veV (xs : List Vector) : V.dataL (xs.map veV) = true := dataL_map _ _ da_veV
theorem da_inV (x : List Int) : (inV x).data = true := by simp [inV, V.data, dl_i]
theorem st_inV (xs : List (List Int)) : Storable (xs.map inV) := Storable_map _ _ fun _ => rfl
theorem sd_inV (xs : List (List Int)) : Stride 1 (xs.map inV) := Stride_map _ _ fun _ => rfl
theorem dl_inV (xs : List (List Int)) : V.dataL (xs.map inV) = true := dataL_map _ _ da_inV
theorem ce_edV (x : (Int × Int)) : (edV x).cells = [.i x.1, .i x.2] := rfl
theorem ok_edV (x : (Int × Int)) : (edV x).okCells = true := rfl
theorem da_edV (x : (Int × Int)) : (edV x).data = true := rfl
theorem st_edV (xs : List (Int × Int)) : Storable (xs.map edV) := Storable_map _ _ fun _ => rfl
theorem sd_edV (xs : List (Int × Int)) : Stride 2 (xs.map edV) := Stride_map _ _ fun _ => rfl
theorem dl_edV (xs : List (Int × Int)) : V.dataL (xs.map edV) = true := dataL_map _ _ da_edV
theorem ce_grV (x : Graph) : (grV x).cells = [.sl false (x.nodes.map cfV), .sl false (x.edges.map edV)] := rfl
theorem ok_grV (x : Graph) : (grV x).okCells = true := rfl
theorem da_grV (x : Graph) : (grV x).data = true := by simp [grV, V.data, V.dataL, dl_cfV, dl_edV]
theorem st_grV (xs : List Graph) : Storable (xs.map grV) := Storable_map _ _ fun _ => rfl
theorem sd_grV (xs : List Graph) : Stride 2 (xs.map grV) := Stride_map _ _ fun _ => rfl
theorem dl_grV (xs : List Graph) : V.dataL (xs.map grV) = true := dataL_map _ _ da_grV
theorem sp_chV (x : Change) (fo : Nat) (cs : List V) : splice (chV x) fo cs = .agg ((chV x).cells.take fo ++ cs ++ (chV x).cells.drop (fo + cs.length)) := rfl
theorem sp_ruV (x : Rule) (fo : Nat) (cs : List V) : splice (ruV x) fo cs = .agg ((ruV x).cells.take fo ++ cs ++ (ruV x).cells.drop (fo + cs.length)) := rfl
theorem sp_prV (x : Proposal) (fo : Nat) (cs : List V) : splice (prV x) fo cs = .agg ((prV x).cells.take fo ++ cs ++ (prV x).cells.drop (fo + cs.length)) := rfl
theorem sp_enV (x : Entry) (fo : Nat) (cs : List V) : splice (enV x) fo cs = .agg ((enV x).cells.take fo ++ cs ++ (enV x).cells.drop (fo + cs.length)) := rfl
theorem sp_edV (x : (Int × Int)) (fo : Nat) (cs : List V) : splice (edV x) fo cs = .agg ((edV x).cells.take fo ++ cs ++ (edV x).cells.drop (fo + cs.length)) := rfl
theorem sp_grV (x : Graph) (fo : Nat) (cs : List V) : splice (grV x) fo cs = .agg ((grV x).cells.take fo ++ cs ++ (grV x).cells.drop (fo + cs.length)) := rfl
attribute [go_sem] sp_chV sp_ruV sp_prV sp_enV sp_edV sp_grV
attribute [go_sem] st_i sd_i da_i dl_i st_chV sd_chV da_chV dl_chV ce_chV ok_chV st_ruV sd_ruV da_ruV dl_ruV ce_ruV ok_ruV st_prV sd_prV da_prV dl_prV ce_prV ok_prV st_enV sd_enV da_enV dl_enV ce_enV ok_enV st_cfV sd_cfV da_cfV dl_cfV st_veV sd_veV da_veV dl_veV st_inV sd_inV da_inV dl_inV st_edV sd_edV da_edV dl_edV ce_edV ok_edV st_grV sd_grV da_grV dl_grV ce_grV ok_grV
theorem eqc_ch (a b : Change) : eqCells [.i a.kind, .i a.server, .i a.weight, .i a.version, .i a.rule.kind, .i a.rule.columns, .i a.rule.faulty] [.i b.kind, .i b.server, .i b.weight, .i b.version, .i b.rule.kind, .i b.rule.columns, .i b.rule.faulty] = decide (a = b) := by
  obtain ⟨a1, a2, a3, a4, a5, a6, a7⟩ := a
  obtain ⟨b1, b2, b3, b4, b5, b6, b7⟩ := b
  simp [eqCells, Change.mk.injEq, Rule.mk.injEq, Bool.decide_and]
theorem eqc_ru (a b : Rule) : eqCells [.i a.kind, .i a.columns, .i a.faulty] [.i b.kind, .i b.columns, .i b.faulty] = decide (a = b) := by
  obtain ⟨a1, a2, a3⟩ := a
  obtain ⟨b1, b2, b3⟩ := b
  simp [eqCells, Rule.mk.injEq, Bool.decide_and]
theorem eqc_ed (a b : Int × Int) : eqCells [.i a.1, .i a.2] [.i b.1, .i b.2] = decide (a = b) := by
  obtain ⟨a1, a2⟩ := a
  obtain ⟨b1, b2⟩ := b
  simp [eqCells, Prod.mk.injEq, Bool.decide_and]
theorem ce_weV (x : WeightEntry) : (weV x).cells = [.i x.server, .i x.weight, .i x.version, .i x.admin, .i x.number] := rfl
theorem ok_weV (x : WeightEntry) : (weV x).okCells = true := rfl
theorem da_weV (x : WeightEntry) : (weV x).data = true := rfl
theorem st_weV (xs : List WeightEntry) : Storable (xs.map weV) := Storable_map _ _ fun _ => rfl
theorem sd_weV (xs : List WeightEntry) : Stride 5 (xs.map weV) := Stride_map _ _ fun _ => rfl
theorem dl_weV (xs : List WeightEntry) : V.dataL (xs.map weV) = true := dataL_map _ _ da_weV
theorem sp_weV (x : WeightEntry) (fo : Nat) (cs : List V) : splice (weV x) fo cs = .agg ((weV x).cells.take fo ++ cs ++ (weV x).cells.drop (fo + cs.length)) := rfl
attribute [go_sem] sp_weV st_weV sd_weV da_weV dl_weV ce_weV ok_weV
theorem ce_mbV (x : Member) : (mbV x).cells = [.i x.server, .i x.weight] := rfl
theorem ok_mbV (x : Member) : (mbV x).okCells = true := rfl
theorem da_mbV (x : Member) : (mbV x).data = true := rfl
theorem st_mbV (xs : List Member) : Storable (xs.map mbV) := Storable_map _ _ fun _ => rfl
theorem sd_mbV (xs : List Member) : Stride 2 (xs.map mbV) := Stride_map _ _ fun _ => rfl
theorem dl_mbV (xs : List Member) : V.dataL (xs.map mbV) = true := dataL_map _ _ da_mbV
theorem sp_mbV (x : Member) (fo : Nat) (cs : List V) : splice (mbV x) fo cs = .agg ((mbV x).cells.take fo ++ cs ++ (mbV x).cells.drop (fo + cs.length)) := rfl
attribute [go_sem] sp_mbV st_mbV sd_mbV da_mbV dl_mbV ce_mbV ok_mbV
theorem ce_suV (x : Summary) : (suV x).cells = [.sl false (x.joined.map .i), .sl false (x.removed.map .i), .sl false (x.weights.map weV), .i x.rule.kind, .i x.rule.columns, .i x.rule.faulty, .i x.version, .i x.admin, .i x.number] := rfl
theorem ok_suV (x : Summary) : (suV x).okCells = true := rfl
theorem da_suV (x : Summary) : (suV x).data = true := by simp [suV, V.data, V.dataL, dl_i, dl_weV]
theorem st_suV (xs : List Summary) : Storable (xs.map suV) := Storable_map _ _ fun _ => rfl
theorem sd_suV (xs : List Summary) : Stride 9 (xs.map suV) := Stride_map _ _ fun _ => rfl
theorem dl_suV (xs : List Summary) : V.dataL (xs.map suV) = true := dataL_map _ _ da_suV
theorem sp_suV (x : Summary) (fo : Nat) (cs : List V) : splice (suV x) fo cs = .agg ((suV x).cells.take fo ++ cs ++ (suV x).cells.drop (fo + cs.length)) := rfl
attribute [go_sem] sp_suV st_suV sd_suV da_suV dl_suV ce_suV ok_suV
theorem ce_viV (x : View) : (viV x).cells = [.sl false (x.members.map mbV), .i x.rule.kind, .i x.rule.columns, .i x.rule.faulty] := rfl
theorem ok_viV (x : View) : (viV x).okCells = true := rfl
theorem da_viV (x : View) : (viV x).data = true := by simp [viV, V.data, V.dataL, dl_mbV]
theorem st_viV (xs : List View) : Storable (xs.map viV) := Storable_map _ _ fun _ => rfl
theorem sd_viV (xs : List View) : Stride 4 (xs.map viV) := Stride_map _ _ fun _ => rfl
theorem dl_viV (xs : List View) : V.dataL (xs.map viV) = true := dataL_map _ _ da_viV
theorem sp_viV (x : View) (fo : Nat) (cs : List V) : splice (viV x) fo cs = .agg ((viV x).cells.take fo ++ cs ++ (viV x).cells.drop (fo + cs.length)) := rfl
attribute [go_sem] sp_viV st_viV sd_viV da_viV dl_viV ce_viV ok_viV
theorem eqc_we (a b : WeightEntry) : eqCells [.i a.server, .i a.weight, .i a.version, .i a.admin, .i a.number] [.i b.server, .i b.weight, .i b.version, .i b.admin, .i b.number] = decide (a = b) := by
  obtain ⟨a1, a2, a3, a4, a5⟩ := a
  obtain ⟨b1, b2, b3, b4, b5⟩ := b
  simp [eqCells, WeightEntry.mk.injEq, Bool.decide_and]
theorem eqc_mb (a b : Member) : eqCells [.i a.server, .i a.weight] [.i b.server, .i b.weight] = decide (a = b) := by
  obtain ⟨a1, a2⟩ := a
  obtain ⟨b1, b2⟩ := b
  simp [eqCells, Member.mk.injEq, Bool.decide_and]
theorem eqc_ru0 (a : Rule) : eqCells [.i a.kind, .i a.columns, .i a.faulty] [.i 0, .i 0, .i 0] = decide (a = ⟨0, 0, 0⟩) := eqc_ru a ⟨0, 0, 0⟩
theorem kl_chV (d : Nat) (x : Change) : V.kill d (chV x) = chV x := rfl
theorem kl_ruV (d : Nat) (x : Rule) : V.kill d (ruV x) = ruV x := rfl
theorem kl_prV (d : Nat) (x : Proposal) : V.kill d (prV x) = prV x := rfl
theorem kl_enV (d : Nat) (x : Entry) : V.kill d (enV x) = enV x := rfl
theorem kl_edV (d : Nat) (x : (Int × Int)) : V.kill d (edV x) = edV x := rfl
theorem kl_grV (d : Nat) (x : Graph) : V.kill d (grV x) = grV x := rfl
theorem kl_weV (d : Nat) (x : WeightEntry) : V.kill d (weV x) = weV x := rfl
theorem kl_mbV (d : Nat) (x : Member) : V.kill d (mbV x) = mbV x := rfl
theorem kl_suV (d : Nat) (x : Summary) : V.kill d (suV x) = suV x := rfl
theorem kl_viV (d : Nat) (x : View) : V.kill d (viV x) = viV x := rfl
attribute [go_sem] kl_chV kl_ruV kl_prV kl_enV kl_edV kl_grV kl_weV kl_mbV kl_suV kl_viV
attribute [go_sem] List.drop List.take catV
theorem drop_getD {α : Type} [Inhabited α] {xs : List α} {i : Nat} (h : i < xs.length) : xs.drop i = xs.getD i default :: xs.drop (i + 1) := by
  rw [List.drop_eq_getElem_cons h]; simp [List.getD_eq_getElem?_getD, h]
theorem take_getD {α : Type} [Inhabited α] {xs : List α} {i : Nat} (h : i < xs.length) : xs.take (i + 1) = xs.take i ++ [xs.getD i default] := by
  rw [List.take_succ_eq_append_getElem h]; simp [List.getD_eq_getElem?_getD, h]
theorem zT {p : Prop} (h : p := by first | exact Nat.le_of_ble_eq_true rfl | first | omega | rfl | assumption | (simp only [go_sem, List.length_map, List.length_append, List.length_take, List.length_set, List.length_replicate, Int.toNat_natCast, true_and, and_true] <;> omega)) : p := h
theorem zS {p : Prop} (h : p := by first | omega | rfl | assumption | (simp only [go_sem, List.length_map, List.length_append, List.length_take, List.length_set, List.length_replicate, Int.toNat_natCast, true_and, and_true] <;> omega)) : p := h
theorem zN {p : Prop} (h : p := by (try dsimp only [go_sem, Nat.reduceAdd, Nat.reduceMul, Int.reduceToNat]) <;> rfl) : p := h
theorem zM {p : Prop} (h : p := by (try dsimp only [go_sem]) <;> rfl) : p := h
theorem zH {p : Prop} (h : p := by (try simp only [go_sem, Nat.reduceEqDiff, if_true, if_false, ↓reduceIte]) <;> rfl) : p := h
theorem zL5 {p : Prop} (h : p := by first | exact V.LeL.refl _ | exact V.LeL5 (by first | exact V.Le.refl _ | exact V.Le.full _ | exact V.Le.nil _ | exact V.Le.any _ | exact V.Le.aggL (V.LeL.refl _) | fail) (by first | exact V.Le.refl _ | exact V.Le.full _ | exact V.Le.nil _ | exact V.Le.any _ | exact V.Le.aggL (V.LeL.refl _) | fail) (by first | exact V.Le.refl _ | exact V.Le.full _ | exact V.Le.nil _ | exact V.Le.any _ | exact V.Le.aggL (V.LeL.refl _) | fail) (by first | exact V.Le.refl _ | exact V.Le.full _ | exact V.Le.nil _ | exact V.Le.any _ | exact V.Le.aggL (V.LeL.refl _) | fail) (by first | exact V.Le.refl _ | exact V.Le.full _ | exact V.Le.nil _ | exact V.Le.any _ | exact V.Le.aggL (V.LeL.refl _) | fail) | fail) : p := h
theorem zL4 {p : Prop} (h : p := by first | exact V.LeL.refl _ | exact V.LeL4 (by first | exact V.Le.refl _ | exact V.Le.full _ | exact V.Le.nil _ | exact V.Le.any _ | exact V.Le.aggL (V.LeL.refl _) | fail) (by first | exact V.Le.refl _ | exact V.Le.full _ | exact V.Le.nil _ | exact V.Le.any _ | exact V.Le.aggL (V.LeL.refl _) | fail) (by first | exact V.Le.refl _ | exact V.Le.full _ | exact V.Le.nil _ | exact V.Le.any _ | exact V.Le.aggL (V.LeL.refl _) | fail) (by first | exact V.Le.refl _ | exact V.Le.full _ | exact V.Le.nil _ | exact V.Le.any _ | exact V.Le.aggL (V.LeL.refl _) | fail) | fail) : p := h
theorem zL3 {p : Prop} (h : p := by first | exact V.LeL.refl _ | exact V.LeL3 (by first | exact V.Le.refl _ | exact V.Le.full _ | exact V.Le.nil _ | exact V.Le.any _ | exact V.Le.aggL (V.LeL.refl _) | fail) (by first | exact V.Le.refl _ | exact V.Le.full _ | exact V.Le.nil _ | exact V.Le.any _ | exact V.Le.aggL (V.LeL.refl _) | fail) (by first | exact V.Le.refl _ | exact V.Le.full _ | exact V.Le.nil _ | exact V.Le.any _ | exact V.Le.aggL (V.LeL.refl _) | fail) | fail) : p := h
theorem zL2 {p : Prop} (h : p := by first | exact V.LeL.refl _ | exact V.LeL2 (by first | exact V.Le.refl _ | exact V.Le.full _ | exact V.Le.nil _ | exact V.Le.any _ | exact V.Le.aggL (V.LeL.refl _) | fail) (by first | exact V.Le.refl _ | exact V.Le.full _ | exact V.Le.nil _ | exact V.Le.any _ | exact V.Le.aggL (V.LeL.refl _) | fail) | fail) : p := h
theorem zL1 {p : Prop} (h : p := by first | exact V.LeL.refl _ | exact V.LeL1 (by first | exact V.Le.refl _ | exact V.Le.full _ | exact V.Le.nil _ | exact V.Le.any _ | exact V.Le.aggL (V.LeL.refl _) | fail) | fail) : p := h
theorem zL0 {p : Prop} (h : p := by first | exact V.LeL.refl _ | fail) : p := h
theorem zE {p : Prop} (h : p := by exact Nat.le_of_ble_eq_true rfl) : p := h
theorem zD {p : Prop} (h : p := by first | rfl | assumption | (simp only [go_sem, Bool.and_self, Bool.and_true, Bool.true_and] <;> assumption)) : p := h
theorem zC {p : Prop} (h : p := by constructor <;> (simp only [go_sem, and_self, true_and, and_true, Bool.and_self, Bool.and_true, Bool.true_and])) : p := h
theorem zR {p : Prop} (h : p := by repeat' (first | exact V.LeL.refl _ | exact V.LeL.nil | refine V.LeL.cons ?_ ?_ | exact V.Le.refl _ | exact V.Le.full _ | exact V.Le.nil _ | exact V.Le.any _ | refine V.Le.aggL ?_ | assumption)) : p := h
theorem zF {p : Prop} (h : p := by first | exact And.intro rfl rfl | exact rfl) : p := h
theorem zY {p : Prop} (h : p := by simp only [List.map_cons, List.map_nil, List.toList_toArray, List.cons_append, List.nil_append, List.append_nil]; repeat' (first | exact SeeL.nil | refine SeeL.cons ?_ ?_ | exact See.own rfl | exact See.mpO rfl | exact See.varMpO rfl rfl | exact See.varData rfl (by first | rfl | assumption | (simp only [go_sem, Bool.and_self, Bool.and_true, Bool.true_and] <;> assumption)) | exact See.data (by first | exact V.Le.refl _ | exact V.Le.full _ | exact V.Le.nil _ | exact V.Le.any _ | exact V.Le.aggL (V.LeL.refl _) | fail) (by first | rfl | assumption | (simp only [go_sem, Bool.and_self, Bool.and_true, Bool.true_and] <;> assumption)) | refine See.fn ?_)) : p := h
theorem zd {p : Prop} (h : p := by decide) : p := h
theorem zo {p : Prop} (h : p := by omega) : p := h
theorem zJ {p : Prop} (h : p := by simp only [go_sem, and_self, and_true, true_and]) : p := h
theorem zB {p : Prop} (h : p := by simp only [go_sem, and_self, Bool.and_self, Bool.and_true, Bool.true_and]) : p := h
theorem zK {p : Prop} (h : p := by decide +kernel) : p := h
theorem zX {v r : V} (h : V.Le v r := by first | exact V.Le.refl _ | (refine V.Le.of_eq ?_; simp; done) | (refine V.Le.aggL ?_; (repeat' (first | exact V.LeL.nil | refine V.LeL.cons ?_ ?_ | exact V.Le.refl _ | exact V.Le.full _ | exact V.Le.nil _)); done) | fail) : V.Le v r := h
theorem zU {p : Prop} (h : p := by first | (simp [V.usesL, V.uses, AM.look_cons]; done) | (simp [V.usesL, V.uses, AM.look_cons, V.usesL_data, V.uses_data, da_i, da_chV, da_ruV, da_prV, da_enV, da_cfV, da_veV, da_inV, da_edV, da_grV, da_weV, da_mbV, da_suV, da_viV]; done)) : p := h
theorem zV {p : Prop} (h : p := by (repeat' (first | exact True.intro | refine And.intro ?_ ?_)); all_goals (first | rfl | (simp [AM.look_cons]; done) | (simp [V.uses, V.usesL, AM.look_cons, V.usesL_data, V.uses_data, da_i, da_chV, da_ruV, da_prV, da_enV, da_cfV, da_veV, da_inV, da_edV, da_grV, da_weV, da_mbV, da_suV, da_viV]; done))) : p := h
theorem yr {q p : Prop} (k : q) (h : Hold q → p := by
  intro hq
  (((with_reducible refine r_is ?_); first
    | refine r_end ?_
    | ((with_reducible refine r_gd ?_); first | refine r_run rfl rfl rfl ?_ | (refine r_pass rfl rfl rfl ?_; refine r_nn zN zH ?_) | (refine r_void rfl rfl ?_; refine r_nn zN zH ?_))
    | ((with_reducible refine r_at (.move _) ?_); refine r_v rfl (v_move ?_); refine r_n zN ?_)
    | ((with_reducible refine r_at (.assign _) ?_); refine r_v rfl (v_assign ?_); refine r_n zN ?_)
    | ((with_reducible refine r_at (.load _ _) ?_); (first | refine r_v rfl (v_load_pt TyF.h rfl rfl zd rfl ?_) | refine r_v rfl (v_load_var TyF.h rfl rfl rfl zd rfl ?_) | refine r_v rfl (v_load_part TyF.h rfl rfl zE zd ?_) | refine r_v rfl (v_load_ownM TyF.h rfl rfl zS (And.intro zE zd) ?_) | refine r_v rfl (v_load_ptr TyF.h rfl rfl zS zS zd ?_) | refine r_v rfl (v_load_ptr TyF.h rfl rfl zE zE zd ?_)); refine r_n zN ?_)
    | ((with_reducible refine r_at (.fieldAddr _ _ _) ?_); (first | refine r_v rfl (v_fieldAddr_ptr FlF.h rfl ?_) | refine r_v rfl (v_fieldAddr_pt FlF.h rfl zE zF ?_) | refine r_v rfl (v_fieldAddr_sc FlF.h rfl ?_)); refine r_n zN ?_)
    | ((with_reducible refine r_at (.field _ _ _) ?_); refine r_v rfl (v_field FlF.h rfl zE ?_); refine r_n zN ?_)
    | ((with_reducible refine r_at (.indexAddr _ _ _) ?_); (first | refine r_v rfl (v_indexAddr_map SlF.h rfl rfl zo rfl ?_) | refine r_v rfl (v_indexAddr_mapZ SlF.h rfl rfl zo rfl ?_) | refine r_v rfl (v_indexAddr_ownM SlF.h rfl rfl rfl zS ?_) | refine r_v rfl (v_indexAddr_own SlF.h rfl rfl rfl zS ?_) | refine r_v rfl (v_indexAddr_vw SlF.h rfl rfl rfl zS ?_) | refine r_v rfl (v_indexAddr_slE SlF.h rfl rfl (by first | decide | simp | omega) rfl rfl ?_) | refine r_v rfl (v_indexAddr_sc SlF.h rfl rfl zS ?_) | refine r_v rfl (v_indexAddr_arr SlN.h ArF.h rfl rfl zS ?_) | refine r_v rfl (v_indexAddr_arrP SlN.h ArF.h rfl rfl zS zF ?_)); refine r_n zN ?_)
    | ((with_reducible refine r_at (.index _ _ _) ?_); refine r_v rfl (v_index_arr ArF.h rfl rfl zS ?_); refine r_n zN ?_)
    | ((with_reducible refine r_at (.extract _ _) ?_); refine r_v rfl (v_extract rfl zE ?_); refine r_n zN ?_)
    | ((with_reducible refine r_at (.binOp .add _ _ _ _) ?_); (first | refine r_v rfl (v_add64 rfl rfl zo ?_) | refine r_v rfl (v_add rfl rfl ?_)); refine r_n zN ?_)
    | ((with_reducible refine r_at (.binOp .sub _ _ _ _) ?_); (first | refine r_v rfl (v_sub64 rfl rfl zo ?_) | refine r_v rfl (v_sub rfl rfl ?_)); refine r_n zN ?_)
    | ((with_reducible refine r_at (.binOp .mul _ _ _ _) ?_); (first | refine r_v rfl (v_mul64 rfl rfl zo ?_) | refine r_v rfl (v_mul rfl rfl ?_)); refine r_n zN ?_)
    | ((with_reducible refine r_at (.binOp .lss _ _ _ _) ?_); refine r_v rfl (v_lss rfl rfl ?_); refine r_n zN ?_)
    | ((with_reducible refine r_at (.binOp .leq _ _ _ _) ?_); refine r_v rfl (v_leq rfl rfl ?_); refine r_n zN ?_)
    | ((with_reducible refine r_at (.binOp .gtr _ _ _ _) ?_); refine r_v rfl (v_gtr rfl rfl ?_); refine r_n zN ?_)
    | ((with_reducible refine r_at (.binOp .geq _ _ _ _) ?_); refine r_v rfl (v_geq rfl rfl ?_); refine r_n zN ?_)
    | ((with_reducible refine r_at (.binOp .eql _ _ _ _) ?_); (first | refine r_eql rfl rfl rfl ?_ | refine r_eqlA rfl rfl EqF.h rfl rfl ?_ | refine r_eqlB rfl rfl UnF.h ?_); refine r_n zN ?_)
    | ((with_reducible refine r_at (.binOp .neq _ _ _ _) ?_); (first | refine r_v rfl (v_neq rfl rfl ?_) | refine r_v rfl (v_neqB UnF.h rfl rfl ?_) | refine r_v rfl (v_neqA EqF.h rfl rfl rfl rfl ?_)); refine r_n zN ?_)
    | ((with_reducible refine r_at (.binOp .quo _ _ _ _) ?_); (first | refine r_v rfl (v_quo64 rfl rfl zo ?_) | refine r_v rfl (v_quo rfl rfl zo ?_)); refine r_n zN ?_)
    | ((with_reducible refine r_at (.binOp .rem _ _ _ _) ?_); (first | refine r_v rfl (v_rem64 rfl rfl zo ?_) | refine r_v rfl (v_rem rfl rfl zo ?_)); refine r_n zN ?_)
    | ((with_reducible refine r_at (.binOp .shr _ _ _ _) ?_); (first | refine r_v rfl (v_shr1 rfl rfl ?_) | refine r_v rfl (v_shr rfl rfl zo ?_)); refine r_n zN ?_)
    | ((with_reducible refine r_at (.binOp .shl _ _ _ _) ?_); refine r_v rfl (v_shl rfl rfl zo ?_); refine r_n zN ?_)
    | ((with_reducible refine r_at (.binOp .and _ _ _ _) ?_); refine r_v rfl (v_and rfl rfl ?_); refine r_n zN ?_)
    | ((with_reducible refine r_at (.binOp .or _ _ _ _) ?_); refine r_v rfl (v_or rfl rfl ?_); refine r_n zN ?_)
    | ((with_reducible refine r_at (.binOp .xor _ _ _ _) ?_); refine r_v rfl (v_xor rfl rfl ?_); refine r_n zN ?_)
    | ((with_reducible refine r_at (.binOp .andNot _ _ _ _) ?_); refine r_v rfl (v_andNot rfl rfl ?_); refine r_n zN ?_)
    | ((with_reducible refine r_at (.unOp _ _ _) ?_); (first | refine r_v rfl (v_not rfl ?_) | refine r_v rfl (v_neg64 rfl zo ?_)); refine r_n zN ?_)
    | ((with_reducible refine r_at (.pick _ _ _) ?_); (first | refine r_v rfl (v_pick_t rfl ?_) | refine r_v rfl (v_pick_f rfl ?_) | refine r_v rfl (v_pick rfl ?_)); refine r_n zN ?_)
    | ((with_reducible refine r_at (.call { callee := .builtin .len, args := _, argTypes := _ }) ?_); (first | refine r_v rfl (v_len_map SlF.s rfl ?_) | refine r_v rfl (v_len_sl SlF.s rfl ?_) | refine r_v rfl (v_len_own_map SlF.s rfl rfl ?_) | refine r_v rfl (v_len_own SlF.s rfl rfl ?_) | refine r_v rfl (v_len_vw SlF.s rfl ?_) | refine r_v rfl (v_len_nil SlF.s rfl ?_)); refine r_n zN ?_)
    | ((with_reducible refine r_at (.call { callee := .builtin .cap, args := _, argTypes := _ }) ?_); (first | refine r_v rfl (v_cap_vw SlF.s rfl ?_) | refine r_v rfl (v_cap_full SlF.s rfl ?_) | refine r_v rfl (v_cap_nil SlF.s rfl ?_)); refine r_n zN ?_)
    | ((with_reducible refine r_at (.call { callee := .builtin .max, args := _, argTypes := _ }) ?_); refine r_v rfl (v_max rfl rfl ?_); refine r_n zN ?_)
    | ((with_reducible refine r_at (.call { callee := .builtin .min, args := _, argTypes := _ }) ?_); refine r_v rfl (v_min rfl rfl ?_); refine r_n zN ?_)
    | ((with_reducible refine r_at (.nilCheck _) ?_); (first | refine r_v rfl (v_nilCheck_ptr rfl ?_) | refine r_v rfl (v_nilCheck_pt rfl ?_)); refine r_n zN ?_)
    | ((with_reducible refine r_at (.convert _ _ _) ?_); (first | refine r_v rfl (v_conv_wrap rfl UnF.h UnF.h zo ?_) | refine r_v rfl (v_conv_i64 rfl UnF.h UnF.h zo ?_) | refine r_v rfl (v_conv_u64 rfl UnF.h UnF.h zo ?_) | refine r_v rfl (v_conv rfl UnF.h UnF.h ?_)); refine r_n zN ?_)
    | ((with_reducible refine r_at (.build _ _) ?_); (first | refine r_v rfl (v_buildS PlF.h ZvF.h rfl rfl rfl rfl rfl ?_) | refine r_v rfl (v_build PlF.h ZvF.h rfl rfl ?_) | refine r_v rfl (v_build_arr1 ArF.h ZvF.h rfl rfl rfl rfl ?_) | refine r_v rfl (v_build_arr ArF.h ZvF.h rfl rfl ?_)); refine r_n zN ?_)
    | ((with_reducible refine r_at (.makeFunc _ _ _) ?_); refine r_v rfl (v_makeFunc ?_); refine r_n zN ?_)
    | ((with_reducible refine r_at (.slice _ _ none none none) ?_); refine r_v rfl (v_slice_all SlF.h rfl ?_); refine r_n zN ?_)
    | ((with_reducible refine r_at (.slice _ _ none (some _) (some _)) ?_); refine r_v rfl (v_slice_cap SlF.h rfl rfl rfl zS ?_); refine r_n zN ?_)
    | ((with_reducible refine r_at (.slice _ _ (some _) none none) ?_); (first | refine r_v rfl (v_slice_lo SlF.h rfl rfl (And.intro zS zJ) ?_) | refine r_v rfl (v_slice_lo SlF.h rfl rfl zS ?_) | refine r_v rfl (v_slice_ownlo SlF.h rfl rfl rfl zS ?_)); refine r_n zN ?_)
    | ((with_reducible refine r_at (.slice _ _ none (some _) none) ?_); refine r_v rfl (v_slice_hi SlF.h rfl rfl zS ?_); refine r_n zN ?_)
    | ((with_reducible refine r_at (.slice _ _ none (some _) none) ?_); (first | refine r_cut SlF.h rfl rfl rfl zS ?_ | refine r_cutN SlF.h rfl rfl ?_); refine r_nn zN zH ?_)
    | ((with_reducible refine r_at (.slice _ _ (some _) (some _) none) ?_); (first | refine r_v rfl (v_slice_lohi SlF.h rfl rfl rfl (And.intro zS zJ) ?_) | refine r_v rfl (v_slice_lohi SlF.h rfl rfl rfl zS ?_)); refine r_n zN ?_)
    | ((with_reducible refine r_at (.lookup _ _ _ true) ?_); (first | refine r_v rfl (v_lookup_mp_ok MpF.h rfl rfl (show zv _ _ = some (V.i 0) from ZvF.h) rfl ?_) | refine r_v rfl (v_lookup_mp_ok MpF.h rfl rfl (show zv _ _ = some (V.b false) from ZvF.h) rfl ?_) | refine r_v rfl (v_lookup_mp_ok MpF.h rfl rfl (show zv _ _ = some (weV ⟨0, 0, 0, 0, 0⟩) from ZvF.h) rfl ?_)); refine r_n zN ?_)
    | ((with_reducible refine r_at (.lookup _ _ _ false) ?_); (first | refine r_v rfl (v_lookup_mp MpF.h rfl rfl (show zv _ _ = some (V.i 0) from ZvF.h) rfl ?_) | refine r_v rfl (v_lookup_dmp MpF.h rfl (show zv _ _ = some (V.i 0) from ZvF.h) rfl ?_) | refine r_v rfl (v_lookup_mp MpF.h rfl rfl (show zv _ _ = some (V.b false) from ZvF.h) rfl ?_) | refine r_v rfl (v_lookup_dmp MpF.h rfl (show zv _ _ = some (V.b false) from ZvF.h) rfl ?_) | refine r_v rfl (v_lookup_mp MpF.h rfl rfl (show zv _ _ = some (weV ⟨0, 0, 0, 0, 0⟩) from ZvF.h) rfl ?_) | refine r_v rfl (v_lookup_dmp MpF.h rfl (show zv _ _ = some (weV ⟨0, 0, 0, 0, 0⟩) from ZvF.h) rfl ?_)); refine r_n zN ?_)
    | ((with_reducible refine r_at (.store _ _ _) ?_); (first | refine r_storeW TyF.h rfl rfl (And.intro zE (And.intro zd (And.intro rfl rfl))) rfl ?_ | refine r_storeM TyF.h rfl rfl zS (And.intro zE (And.intro zd (And.intro rfl (And.intro rfl rfl)))) ?_ | refine r_store TyF.h rfl rfl (And.intro zT (And.intro zT (And.intro zd (And.intro rfl (And.intro rfl (by first | exact .inl rfl | exact .inr rfl)))))) ?_); refine r_nn zN zH ?_)
    | ((with_reducible refine r_at (.buildSlice _ _ _) ?_); refine r_build SlF.h ZoF.h zd zB ?_; refine r_n zN ?_)
    | ((with_reducible refine r_at (.call { callee := .builtin .append, args := _, argTypes := _ }) ?_); (first | refine r_append_own SlF.h SlF.s ZoF.h zd rfl rfl rfl zC zS ?_ | refine r_append_nil SlF.h SlF.s ZoF.h zd rfl rfl zC zS rfl ?_ | refine r_append_zeros V.i 0 SlF.h UnF.h rfl rfl (show zv _ _ = some (V.i 0) from ZvF.h) zS zd rfl ?_ | refine r_append_full1 SlF.h SlF.s ZoF.h zd rfl rfl zC zJ zS rfl ?_); refine r_nn zN zH ?_)
    | ((with_reducible refine r_at (.call { callee := .builtin .delete, args := _, argTypes := _ }) ?_); refine r_delete MpF.h rfl rfl rfl ?_; refine r_nn zN zH ?_)
    | ((with_reducible refine r_at (.box _ _) ?_); refine r_box rfl rfl ?_; refine r_nn zN zH ?_)
    | ((with_reducible refine r_at (.alloc _) ?_); refine r_alloc ZvF.h rfl rfl ?_; refine r_nn zN zH ?_)
    | ((with_reducible refine r_at (.makeSlice _ _ _) ?_); (first | refine r_makeG V.i 0 SlF.h rfl rfl (show zv _ _ = some (V.i 0) from ZvF.h) zS zd rfl ?_ | refine r_makeG V.b false SlF.h rfl rfl (show zv _ _ = some (V.b false) from ZvF.h) zS zd rfl ?_ | refine r_make SlF.h rfl rfl ZvF.h zo zd rfl ?_); refine r_nn zN zH ?_)
    | ((with_reducible refine r_at (.makeMap _ none) ?_); (first | refine r_makeMapZ V.i MpF.h (show zv _ _ = some (V.i 0) from ZvF.h) rfl ?_ | refine r_makeMapZ V.b MpF.h (show zv _ _ = some (V.b false) from ZvF.h) rfl ?_ | refine r_makeMapZ weV MpF.h (show zv _ _ = some (weV ⟨0, 0, 0, 0, 0⟩) from ZvF.h) rfl ?_); refine r_nn zN zH ?_)
    | ((with_reducible refine r_at (.mapUpdate _ _ _ _) ?_); (first | refine r_mapUpd MpF.h rfl rfl rfl (show _ = V.i _ from rfl) zD ?_ | refine r_mapUpd MpF.h rfl rfl rfl (show _ = V.b _ from rfl) zD ?_ | refine r_mapUpd MpF.h rfl rfl rfl (show _ = weV _ from rfl) zD ?_); refine r_nn zN zH ?_)
    | ((with_reducible refine r_at (.insert _ _ _ _) ?_); (first | refine r_insert MpF.h rfl rfl rfl (show _ = V.i _ from rfl) zD ?_ | refine r_insert MpF.h rfl rfl rfl (show _ = V.b _ from rfl) zD ?_ | refine r_insert MpF.h rfl rfl rfl (show _ = weV _ from rfl) zD ?_); refine r_nn zN zH ?_)
    | fail); repeat ((with_reducible refine r_is ?_); first
    | refine r_end ?_
    | ((with_reducible refine r_gd ?_); first | refine r_run rfl rfl rfl ?_ | (refine r_pass rfl rfl rfl ?_; refine r_nn zN zH ?_) | (refine r_void rfl rfl ?_; refine r_nn zN zH ?_))
    | ((with_reducible refine r_at (.move _) ?_); refine r_v rfl (v_move ?_); refine r_n zN ?_)
    | ((with_reducible refine r_at (.assign _) ?_); refine r_v rfl (v_assign ?_); refine r_n zN ?_)
    | ((with_reducible refine r_at (.load _ _) ?_); (first | refine r_v rfl (v_load_pt TyF.h rfl rfl zd rfl ?_) | refine r_v rfl (v_load_var TyF.h rfl rfl rfl zd rfl ?_) | refine r_v rfl (v_load_part TyF.h rfl rfl zE zd ?_) | refine r_v rfl (v_load_ownM TyF.h rfl rfl zS (And.intro zE zd) ?_) | refine r_v rfl (v_load_ptr TyF.h rfl rfl zS zS zd ?_) | refine r_v rfl (v_load_ptr TyF.h rfl rfl zE zE zd ?_)); refine r_n zN ?_)
    | ((with_reducible refine r_at (.fieldAddr _ _ _) ?_); (first | refine r_v rfl (v_fieldAddr_ptr FlF.h rfl ?_) | refine r_v rfl (v_fieldAddr_pt FlF.h rfl zE zF ?_) | refine r_v rfl (v_fieldAddr_sc FlF.h rfl ?_)); refine r_n zN ?_)
    | ((with_reducible refine r_at (.field _ _ _) ?_); refine r_v rfl (v_field FlF.h rfl zE ?_); refine r_n zN ?_)
    | ((with_reducible refine r_at (.indexAddr _ _ _) ?_); (first | refine r_v rfl (v_indexAddr_map SlF.h rfl rfl zo rfl ?_) | refine r_v rfl (v_indexAddr_mapZ SlF.h rfl rfl zo rfl ?_) | refine r_v rfl (v_indexAddr_ownM SlF.h rfl rfl rfl zS ?_) | refine r_v rfl (v_indexAddr_own SlF.h rfl rfl rfl zS ?_) | refine r_v rfl (v_indexAddr_vw SlF.h rfl rfl rfl zS ?_) | refine r_v rfl (v_indexAddr_slE SlF.h rfl rfl (by first | decide | simp | omega) rfl rfl ?_) | refine r_v rfl (v_indexAddr_sc SlF.h rfl rfl zS ?_) | refine r_v rfl (v_indexAddr_arr SlN.h ArF.h rfl rfl zS ?_) | refine r_v rfl (v_indexAddr_arrP SlN.h ArF.h rfl rfl zS zF ?_)); refine r_n zN ?_)
    | ((with_reducible refine r_at (.index _ _ _) ?_); refine r_v rfl (v_index_arr ArF.h rfl rfl zS ?_); refine r_n zN ?_)
    | ((with_reducible refine r_at (.extract _ _) ?_); refine r_v rfl (v_extract rfl zE ?_); refine r_n zN ?_)
    | ((with_reducible refine r_at (.binOp .add _ _ _ _) ?_); (first | refine r_v rfl (v_add64 rfl rfl zo ?_) | refine r_v rfl (v_add rfl rfl ?_)); refine r_n zN ?_)
    | ((with_reducible refine r_at (.binOp .sub _ _ _ _) ?_); (first | refine r_v rfl (v_sub64 rfl rfl zo ?_) | refine r_v rfl (v_sub rfl rfl ?_)); refine r_n zN ?_)
    | ((with_reducible refine r_at (.binOp .mul _ _ _ _) ?_); (first | refine r_v rfl (v_mul64 rfl rfl zo ?_) | refine r_v rfl (v_mul rfl rfl ?_)); refine r_n zN ?_)
    | ((with_reducible refine r_at (.binOp .lss _ _ _ _) ?_); refine r_v rfl (v_lss rfl rfl ?_); refine r_n zN ?_)
    | ((with_reducible refine r_at (.binOp .leq _ _ _ _) ?_); refine r_v rfl (v_leq rfl rfl ?_); refine r_n zN ?_)
    | ((with_reducible refine r_at (.binOp .gtr _ _ _ _) ?_); refine r_v rfl (v_gtr rfl rfl ?_); refine r_n zN ?_)
    | ((with_reducible refine r_at (.binOp .geq _ _ _ _) ?_); refine r_v rfl (v_geq rfl rfl ?_); refine r_n zN ?_)
    | ((with_reducible refine r_at (.binOp .eql _ _ _ _) ?_); (first | refine r_eql rfl rfl rfl ?_ | refine r_eqlA rfl rfl EqF.h rfl rfl ?_ | refine r_eqlB rfl rfl UnF.h ?_); refine r_n zN ?_)
    | ((with_reducible refine r_at (.binOp .neq _ _ _ _) ?_); (first | refine r_v rfl (v_neq rfl rfl ?_) | refine r_v rfl (v_neqB UnF.h rfl rfl ?_) | refine r_v rfl (v_neqA EqF.h rfl rfl rfl rfl ?_)); refine r_n zN ?_)
    | ((with_reducible refine r_at (.binOp .quo _ _ _ _) ?_); (first | refine r_v rfl (v_quo64 rfl rfl zo ?_) | refine r_v rfl (v_quo rfl rfl zo ?_)); refine r_n zN ?_)
    | ((with_reducible refine r_at (.binOp .rem _ _ _ _) ?_); (first | refine r_v rfl (v_rem64 rfl rfl zo ?_) | refine r_v rfl (v_rem rfl rfl zo ?_)); refine r_n zN ?_)
    | ((with_reducible refine r_at (.binOp .shr _ _ _ _) ?_); (first | refine r_v rfl (v_shr1 rfl rfl ?_) | refine r_v rfl (v_shr rfl rfl zo ?_)); refine r_n zN ?_)
    | ((with_reducible refine r_at (.binOp .shl _ _ _ _) ?_); refine r_v rfl (v_shl rfl rfl zo ?_); refine r_n zN ?_)
    | ((with_reducible refine r_at (.binOp .and _ _ _ _) ?_); refine r_v rfl (v_and rfl rfl ?_); refine r_n zN ?_)
    | ((with_reducible refine r_at (.binOp .or _ _ _ _) ?_); refine r_v rfl (v_or rfl rfl ?_); refine r_n zN ?_)
    | ((with_reducible refine r_at (.binOp .xor _ _ _ _) ?_); refine r_v rfl (v_xor rfl rfl ?_); refine r_n zN ?_)
    | ((with_reducible refine r_at (.binOp .andNot _ _ _ _) ?_); refine r_v rfl (v_andNot rfl rfl ?_); refine r_n zN ?_)
    | ((with_reducible refine r_at (.unOp _ _ _) ?_); (first | refine r_v rfl (v_not rfl ?_) | refine r_v rfl (v_neg64 rfl zo ?_)); refine r_n zN ?_)
    | ((with_reducible refine r_at (.pick _ _ _) ?_); (first | refine r_v rfl (v_pick_t rfl ?_) | refine r_v rfl (v_pick_f rfl ?_) | refine r_v rfl (v_pick rfl ?_)); refine r_n zN ?_)
    | ((with_reducible refine r_at (.call { callee := .builtin .len, args := _, argTypes := _ }) ?_); (first | refine r_v rfl (v_len_map SlF.s rfl ?_) | refine r_v rfl (v_len_sl SlF.s rfl ?_) | refine r_v rfl (v_len_own_map SlF.s rfl rfl ?_) | refine r_v rfl (v_len_own SlF.s rfl rfl ?_) | refine r_v rfl (v_len_vw SlF.s rfl ?_) | refine r_v rfl (v_len_nil SlF.s rfl ?_)); refine r_n zN ?_)
    | ((with_reducible refine r_at (.call { callee := .builtin .cap, args := _, argTypes := _ }) ?_); (first | refine r_v rfl (v_cap_vw SlF.s rfl ?_) | refine r_v rfl (v_cap_full SlF.s rfl ?_) | refine r_v rfl (v_cap_nil SlF.s rfl ?_)); refine r_n zN ?_)
    | ((with_reducible refine r_at (.call { callee := .builtin .max, args := _, argTypes := _ }) ?_); refine r_v rfl (v_max rfl rfl ?_); refine r_n zN ?_)
    | ((with_reducible refine r_at (.call { callee := .builtin .min, args := _, argTypes := _ }) ?_); refine r_v rfl (v_min rfl rfl ?_); refine r_n zN ?_)
    | ((with_reducible refine r_at (.nilCheck _) ?_); (first | refine r_v rfl (v_nilCheck_ptr rfl ?_) | refine r_v rfl (v_nilCheck_pt rfl ?_)); refine r_n zN ?_)
    | ((with_reducible refine r_at (.convert _ _ _) ?_); (first | refine r_v rfl (v_conv_wrap rfl UnF.h UnF.h zo ?_) | refine r_v rfl (v_conv_i64 rfl UnF.h UnF.h zo ?_) | refine r_v rfl (v_conv_u64 rfl UnF.h UnF.h zo ?_) | refine r_v rfl (v_conv rfl UnF.h UnF.h ?_)); refine r_n zN ?_)
    | ((with_reducible refine r_at (.build _ _) ?_); (first | refine r_v rfl (v_buildS PlF.h ZvF.h rfl rfl rfl rfl rfl ?_) | refine r_v rfl (v_build PlF.h ZvF.h rfl rfl ?_) | refine r_v rfl (v_build_arr1 ArF.h ZvF.h rfl rfl rfl rfl ?_) | refine r_v rfl (v_build_arr ArF.h ZvF.h rfl rfl ?_)); refine r_n zN ?_)
    | ((with_reducible refine r_at (.makeFunc _ _ _) ?_); refine r_v rfl (v_makeFunc ?_); refine r_n zN ?_)
    | ((with_reducible refine r_at (.slice _ _ none none none) ?_); refine r_v rfl (v_slice_all SlF.h rfl ?_); refine r_n zN ?_)
    | ((with_reducible refine r_at (.slice _ _ none (some _) (some _)) ?_); refine r_v rfl (v_slice_cap SlF.h rfl rfl rfl zS ?_); refine r_n zN ?_)
    | ((with_reducible refine r_at (.slice _ _ (some _) none none) ?_); (first | refine r_v rfl (v_slice_lo SlF.h rfl rfl (And.intro zS zJ) ?_) | refine r_v rfl (v_slice_lo SlF.h rfl rfl zS ?_) | refine r_v rfl (v_slice_ownlo SlF.h rfl rfl rfl zS ?_)); refine r_n zN ?_)
    | ((with_reducible refine r_at (.slice _ _ none (some _) none) ?_); refine r_v rfl (v_slice_hi SlF.h rfl rfl zS ?_); refine r_n zN ?_)
    | ((with_reducible refine r_at (.slice _ _ none (some _) none) ?_); (first | refine r_cut SlF.h rfl rfl rfl zS ?_ | refine r_cutN SlF.h rfl rfl ?_); refine r_nn zN zH ?_)
    | ((with_reducible refine r_at (.slice _ _ (some _) (some _) none) ?_); (first | refine r_v rfl (v_slice_lohi SlF.h rfl rfl rfl (And.intro zS zJ) ?_) | refine r_v rfl (v_slice_lohi SlF.h rfl rfl rfl zS ?_)); refine r_n zN ?_)
    | ((with_reducible refine r_at (.lookup _ _ _ true) ?_); (first | refine r_v rfl (v_lookup_mp_ok MpF.h rfl rfl (show zv _ _ = some (V.i 0) from ZvF.h) rfl ?_) | refine r_v rfl (v_lookup_mp_ok MpF.h rfl rfl (show zv _ _ = some (V.b false) from ZvF.h) rfl ?_) | refine r_v rfl (v_lookup_mp_ok MpF.h rfl rfl (show zv _ _ = some (weV ⟨0, 0, 0, 0, 0⟩) from ZvF.h) rfl ?_)); refine r_n zN ?_)
    | ((with_reducible refine r_at (.lookup _ _ _ false) ?_); (first | refine r_v rfl (v_lookup_mp MpF.h rfl rfl (show zv _ _ = some (V.i 0) from ZvF.h) rfl ?_) | refine r_v rfl (v_lookup_dmp MpF.h rfl (show zv _ _ = some (V.i 0) from ZvF.h) rfl ?_) | refine r_v rfl (v_lookup_mp MpF.h rfl rfl (show zv _ _ = some (V.b false) from ZvF.h) rfl ?_) | refine r_v rfl (v_lookup_dmp MpF.h rfl (show zv _ _ = some (V.b false) from ZvF.h) rfl ?_) | refine r_v rfl (v_lookup_mp MpF.h rfl rfl (show zv _ _ = some (weV ⟨0, 0, 0, 0, 0⟩) from ZvF.h) rfl ?_) | refine r_v rfl (v_lookup_dmp MpF.h rfl (show zv _ _ = some (weV ⟨0, 0, 0, 0, 0⟩) from ZvF.h) rfl ?_)); refine r_n zN ?_)
    | ((with_reducible refine r_at (.store _ _ _) ?_); (first | refine r_storeW TyF.h rfl rfl (And.intro zE (And.intro zd (And.intro rfl rfl))) rfl ?_ | refine r_storeM TyF.h rfl rfl zS (And.intro zE (And.intro zd (And.intro rfl (And.intro rfl rfl)))) ?_ | refine r_store TyF.h rfl rfl (And.intro zT (And.intro zT (And.intro zd (And.intro rfl (And.intro rfl (by first | exact .inl rfl | exact .inr rfl)))))) ?_); refine r_nn zN zH ?_)
    | ((with_reducible refine r_at (.buildSlice _ _ _) ?_); refine r_build SlF.h ZoF.h zd zB ?_; refine r_n zN ?_)
    | ((with_reducible refine r_at (.call { callee := .builtin .append, args := _, argTypes := _ }) ?_); (first | refine r_append_own SlF.h SlF.s ZoF.h zd rfl rfl rfl zC zS ?_ | refine r_append_nil SlF.h SlF.s ZoF.h zd rfl rfl zC zS rfl ?_ | refine r_append_zeros V.i 0 SlF.h UnF.h rfl rfl (show zv _ _ = some (V.i 0) from ZvF.h) zS zd rfl ?_ | refine r_append_full1 SlF.h SlF.s ZoF.h zd rfl rfl zC zJ zS rfl ?_); refine r_nn zN zH ?_)
    | ((with_reducible refine r_at (.call { callee := .builtin .delete, args := _, argTypes := _ }) ?_); refine r_delete MpF.h rfl rfl rfl ?_; refine r_nn zN zH ?_)
    | ((with_reducible refine r_at (.box _ _) ?_); refine r_box rfl rfl ?_; refine r_nn zN zH ?_)
    | ((with_reducible refine r_at (.alloc _) ?_); refine r_alloc ZvF.h rfl rfl ?_; refine r_nn zN zH ?_)
    | ((with_reducible refine r_at (.makeSlice _ _ _) ?_); (first | refine r_makeG V.i 0 SlF.h rfl rfl (show zv _ _ = some (V.i 0) from ZvF.h) zS zd rfl ?_ | refine r_makeG V.b false SlF.h rfl rfl (show zv _ _ = some (V.b false) from ZvF.h) zS zd rfl ?_ | refine r_make SlF.h rfl rfl ZvF.h zo zd rfl ?_); refine r_nn zN zH ?_)
    | ((with_reducible refine r_at (.makeMap _ none) ?_); (first | refine r_makeMapZ V.i MpF.h (show zv _ _ = some (V.i 0) from ZvF.h) rfl ?_ | refine r_makeMapZ V.b MpF.h (show zv _ _ = some (V.b false) from ZvF.h) rfl ?_ | refine r_makeMapZ weV MpF.h (show zv _ _ = some (weV ⟨0, 0, 0, 0, 0⟩) from ZvF.h) rfl ?_); refine r_nn zN zH ?_)
    | ((with_reducible refine r_at (.mapUpdate _ _ _ _) ?_); (first | refine r_mapUpd MpF.h rfl rfl rfl (show _ = V.i _ from rfl) zD ?_ | refine r_mapUpd MpF.h rfl rfl rfl (show _ = V.b _ from rfl) zD ?_ | refine r_mapUpd MpF.h rfl rfl rfl (show _ = weV _ from rfl) zD ?_); refine r_nn zN zH ?_)
    | ((with_reducible refine r_at (.insert _ _ _ _) ?_); (first | refine r_insert MpF.h rfl rfl rfl (show _ = V.i _ from rfl) zD ?_ | refine r_insert MpF.h rfl rfl rfl (show _ = V.b _ from rfl) zD ?_ | refine r_insert MpF.h rfl rfl rfl (show _ = weV _ from rfl) zD ?_); refine r_nn zN zH ?_)
    | fail))
  exact hq.h) : p := h ⟨k⟩
theorem yrb {q p : Prop} (k : q) (h : Hold q → p := by
  intro hq
  (((with_reducible refine r_is ?_); first
    | refine r_end ?_
    | ((with_reducible refine r_gd ?_); first | refine r_run rfl rfl rfl ?_ | (refine r_pass rfl rfl rfl ?_; refine r_nn zN zH ?_) | (refine r_void rfl rfl ?_; refine r_nn zN zH ?_))
    | ((with_reducible refine r_at (.move _) ?_); refine r_v rfl (v_move ?_); refine r_n zN ?_)
    | ((with_reducible refine r_at (.assign _) ?_); refine r_v rfl (v_assign ?_); refine r_n zN ?_)
    | ((with_reducible refine r_at (.load _ _) ?_); (first | refine r_v rfl (v_load_pt TyF.h rfl rfl zd rfl ?_) | refine r_v rfl (v_load_var TyF.h rfl rfl rfl zd rfl ?_) | refine r_v rfl (v_load_part TyF.h rfl rfl zE zd ?_) | refine r_v rfl (v_load_ownM TyF.h rfl rfl zS (And.intro zE zd) ?_) | refine r_v rfl (v_load_ptr TyF.h rfl rfl zS zS zd ?_) | refine r_v rfl (v_load_ptr TyF.h rfl rfl zE zE zd ?_)); refine r_n zN ?_)
    | ((with_reducible refine r_at (.fieldAddr _ _ _) ?_); (first | refine r_v rfl (v_fieldAddr_ptr FlF.h rfl ?_) | refine r_v rfl (v_fieldAddr_pt FlF.h rfl zE zF ?_) | refine r_v rfl (v_fieldAddr_sc FlF.h rfl ?_)); refine r_n zN ?_)
    | ((with_reducible refine r_at (.field _ _ _) ?_); refine r_v rfl (v_field FlF.h rfl zE ?_); refine r_n zN ?_)
    | ((with_reducible refine r_at (.indexAddr _ _ _) ?_); (first | refine r_v rfl (v_indexAddr_map SlF.h rfl rfl zo rfl ?_) | refine r_v rfl (v_indexAddr_mapZ SlF.h rfl rfl zo rfl ?_) | refine r_v rfl (v_indexAddr_ownM SlF.h rfl rfl rfl zS ?_) | refine r_v rfl (v_indexAddr_own SlF.h rfl rfl rfl zS ?_) | refine r_v rfl (v_indexAddr_vw SlF.h rfl rfl rfl zS ?_) | refine r_v rfl (v_indexAddr_slE SlF.h rfl rfl (by first | decide | simp | omega) rfl rfl ?_) | refine r_v rfl (v_indexAddr_sc SlF.h rfl rfl zS ?_) | refine r_v rfl (v_indexAddr_arr SlN.h ArF.h rfl rfl zS ?_) | refine r_v rfl (v_indexAddr_arrP SlN.h ArF.h rfl rfl zS zF ?_)); refine r_n zN ?_)
    | ((with_reducible refine r_at (.index _ _ _) ?_); refine r_v rfl (v_index_arr ArF.h rfl rfl zS ?_); refine r_n zN ?_)
    | ((with_reducible refine r_at (.extract _ _) ?_); refine r_v rfl (v_extract rfl zE ?_); refine r_n zN ?_)
    | ((with_reducible refine r_at (.binOp .add _ _ _ _) ?_); (first | refine r_v rfl (v_add64 rfl rfl zo ?_) | refine r_v rfl (v_add rfl rfl ?_)); refine r_n zN ?_)
    | ((with_reducible refine r_at (.binOp .sub _ _ _ _) ?_); (first | refine r_v rfl (v_sub64 rfl rfl zo ?_) | refine r_v rfl (v_sub rfl rfl ?_)); refine r_n zN ?_)
    | ((with_reducible refine r_at (.binOp .mul _ _ _ _) ?_); (first | refine r_v rfl (v_mul64 rfl rfl zo ?_) | refine r_v rfl (v_mul rfl rfl ?_)); refine r_n zN ?_)
    | ((with_reducible refine r_at (.binOp .lss _ _ _ _) ?_); refine r_v rfl (v_lss rfl rfl ?_); refine r_n zN ?_)
    | ((with_reducible refine r_at (.binOp .leq _ _ _ _) ?_); refine r_v rfl (v_leq rfl rfl ?_); refine r_n zN ?_)
    | ((with_reducible refine r_at (.binOp .gtr _ _ _ _) ?_); refine r_v rfl (v_gtr rfl rfl ?_); refine r_n zN ?_)
    | ((with_reducible refine r_at (.binOp .geq _ _ _ _) ?_); refine r_v rfl (v_geq rfl rfl ?_); refine r_n zN ?_)
    | ((with_reducible refine r_at (.binOp .eql _ _ _ _) ?_); (first | refine r_eql rfl rfl rfl ?_ | refine r_eqlA rfl rfl EqF.h rfl rfl ?_ | refine r_eqlB rfl rfl UnF.h ?_); refine r_n zN ?_)
    | ((with_reducible refine r_at (.binOp .neq _ _ _ _) ?_); (first | refine r_v rfl (v_neq rfl rfl ?_) | refine r_v rfl (v_neqB UnF.h rfl rfl ?_) | refine r_v rfl (v_neqA EqF.h rfl rfl rfl rfl ?_)); refine r_n zN ?_)
    | ((with_reducible refine r_at (.binOp .quo _ _ _ _) ?_); (first | refine r_v rfl (v_quo64 rfl rfl zo ?_) | refine r_v rfl (v_quo rfl rfl zo ?_)); refine r_n zN ?_)
    | ((with_reducible refine r_at (.binOp .rem _ _ _ _) ?_); (first | refine r_v rfl (v_rem64 rfl rfl zo ?_) | refine r_v rfl (v_rem rfl rfl zo ?_)); refine r_n zN ?_)
    | ((with_reducible refine r_at (.binOp .shr _ _ _ _) ?_); (first | refine r_v rfl (v_shr1 rfl rfl ?_) | refine r_v rfl (v_shr rfl rfl zo ?_)); refine r_n zN ?_)
    | ((with_reducible refine r_at (.binOp .shl _ _ _ _) ?_); refine r_v rfl (v_shl rfl rfl zo ?_); refine r_n zN ?_)
    | ((with_reducible refine r_at (.binOp .and _ _ _ _) ?_); refine r_v rfl (v_and rfl rfl ?_); refine r_n zN ?_)
    | ((with_reducible refine r_at (.binOp .or _ _ _ _) ?_); refine r_v rfl (v_or rfl rfl ?_); refine r_n zN ?_)
    | ((with_reducible refine r_at (.binOp .xor _ _ _ _) ?_); refine r_v rfl (v_xor rfl rfl ?_); refine r_n zN ?_)
    | ((with_reducible refine r_at (.binOp .andNot _ _ _ _) ?_); refine r_v rfl (v_andNot rfl rfl ?_); refine r_n zN ?_)
    | ((with_reducible refine r_at (.unOp _ _ _) ?_); (first | refine r_v rfl (v_not rfl ?_) | refine r_v rfl (v_neg64 rfl zo ?_)); refine r_n zN ?_)
    | ((with_reducible refine r_at (.pick _ _ _) ?_); (first | refine r_v rfl (v_pick_t rfl ?_) | refine r_v rfl (v_pick_f rfl ?_) | refine r_v rfl (v_pick rfl ?_)); refine r_n zN ?_)
    | ((with_reducible refine r_at (.call { callee := .builtin .len, args := _, argTypes := _ }) ?_); (first | refine r_v rfl (v_len_map SlF.s rfl ?_) | refine r_v rfl (v_len_sl SlF.s rfl ?_) | refine r_v rfl (v_len_own_map SlF.s rfl rfl ?_) | refine r_v rfl (v_len_own SlF.s rfl rfl ?_) | refine r_v rfl (v_len_vw SlF.s rfl ?_) | refine r_v rfl (v_len_nil SlF.s rfl ?_)); refine r_n zN ?_)
    | ((with_reducible refine r_at (.call { callee := .builtin .cap, args := _, argTypes := _ }) ?_); (first | refine r_v rfl (v_cap_vw SlF.s rfl ?_) | refine r_v rfl (v_cap_full SlF.s rfl ?_) | refine r_v rfl (v_cap_nil SlF.s rfl ?_)); refine r_n zN ?_)
    | ((with_reducible refine r_at (.call { callee := .builtin .max, args := _, argTypes := _ }) ?_); refine r_v rfl (v_max rfl rfl ?_); refine r_n zN ?_)
    | ((with_reducible refine r_at (.call { callee := .builtin .min, args := _, argTypes := _ }) ?_); refine r_v rfl (v_min rfl rfl ?_); refine r_n zN ?_)
    | ((with_reducible refine r_at (.nilCheck _) ?_); (first | refine r_v rfl (v_nilCheck_ptr rfl ?_) | refine r_v rfl (v_nilCheck_pt rfl ?_)); refine r_n zN ?_)
    | ((with_reducible refine r_at (.convert _ _ _) ?_); (first | refine r_v rfl (v_conv_wrap rfl UnF.h UnF.h zo ?_) | refine r_v rfl (v_conv_i64 rfl UnF.h UnF.h zo ?_) | refine r_v rfl (v_conv_u64 rfl UnF.h UnF.h zo ?_) | refine r_v rfl (v_conv rfl UnF.h UnF.h ?_)); refine r_n zN ?_)
    | ((with_reducible refine r_at (.build _ _) ?_); (first | refine r_v rfl (v_buildS PlF.h ZvF.h rfl rfl rfl rfl rfl ?_) | refine r_v rfl (v_build PlF.h ZvF.h rfl rfl ?_) | refine r_v rfl (v_build_arr1 ArF.h ZvF.h rfl rfl rfl rfl ?_) | refine r_v rfl (v_build_arr ArF.h ZvF.h rfl rfl ?_)); refine r_n zN ?_)
    | ((with_reducible refine r_at (.makeFunc _ _ _) ?_); refine r_v rfl (v_makeFunc ?_); refine r_n zN ?_)
    | ((with_reducible refine r_at (.slice _ _ none none none) ?_); refine r_v rfl (v_slice_all SlF.h rfl ?_); refine r_n zN ?_)
    | ((with_reducible refine r_at (.slice _ _ none (some _) (some _)) ?_); refine r_v rfl (v_slice_cap SlF.h rfl rfl rfl zS ?_); refine r_n zN ?_)
    | ((with_reducible refine r_at (.slice _ _ (some _) none none) ?_); (first | refine r_v rfl (v_slice_lo SlF.h rfl rfl (And.intro zS zJ) ?_) | refine r_v rfl (v_slice_lo SlF.h rfl rfl zS ?_) | refine r_v rfl (v_slice_ownlo SlF.h rfl rfl rfl zS ?_)); refine r_n zN ?_)
    | ((with_reducible refine r_at (.slice _ _ none (some _) none) ?_); refine r_v rfl (v_slice_hi SlF.h rfl rfl zS ?_); refine r_n zN ?_)
    | ((with_reducible refine r_at (.slice _ _ none (some _) none) ?_); (first | refine r_cut SlF.h rfl rfl rfl zS ?_ | refine r_cutN SlF.h rfl rfl ?_); refine r_nn zN zH ?_)
    | ((with_reducible refine r_at (.slice _ _ (some _) (some _) none) ?_); (first | refine r_v rfl (v_slice_lohi SlF.h rfl rfl rfl (And.intro zS zJ) ?_) | refine r_v rfl (v_slice_lohi SlF.h rfl rfl rfl zS ?_)); refine r_n zN ?_)
    | ((with_reducible refine r_at (.lookup _ _ _ true) ?_); (first | refine r_v rfl (v_lookup_mp_ok MpF.h rfl rfl (show zv _ _ = some (V.i 0) from ZvF.h) rfl ?_) | refine r_v rfl (v_lookup_mp_ok MpF.h rfl rfl (show zv _ _ = some (V.b false) from ZvF.h) rfl ?_) | refine r_v rfl (v_lookup_mp_ok MpF.h rfl rfl (show zv _ _ = some (weV ⟨0, 0, 0, 0, 0⟩) from ZvF.h) rfl ?_)); refine r_n zN ?_)
    | ((with_reducible refine r_at (.lookup _ _ _ false) ?_); (first | refine r_v rfl (v_lookup_mp MpF.h rfl rfl (show zv _ _ = some (V.i 0) from ZvF.h) rfl ?_) | refine r_v rfl (v_lookup_dmp MpF.h rfl (show zv _ _ = some (V.i 0) from ZvF.h) rfl ?_) | refine r_v rfl (v_lookup_mp MpF.h rfl rfl (show zv _ _ = some (V.b false) from ZvF.h) rfl ?_) | refine r_v rfl (v_lookup_dmp MpF.h rfl (show zv _ _ = some (V.b false) from ZvF.h) rfl ?_) | refine r_v rfl (v_lookup_mp MpF.h rfl rfl (show zv _ _ = some (weV ⟨0, 0, 0, 0, 0⟩) from ZvF.h) rfl ?_) | refine r_v rfl (v_lookup_dmp MpF.h rfl (show zv _ _ = some (weV ⟨0, 0, 0, 0, 0⟩) from ZvF.h) rfl ?_)); refine r_n zN ?_)
    | ((with_reducible refine r_at (.store _ _ _) ?_); (first | refine r_storeW TyF.h rfl rfl (And.intro zE (And.intro zd (And.intro rfl rfl))) rfl ?_ | refine r_storeM TyF.h rfl rfl zS (And.intro zE (And.intro zd (And.intro rfl (And.intro rfl rfl)))) ?_ | refine r_store TyF.h rfl rfl (And.intro zT (And.intro zT (And.intro zd (And.intro rfl (And.intro rfl (by first | exact .inl rfl | exact .inr rfl)))))) ?_); refine r_nn zN zH ?_)
    | ((with_reducible refine r_at (.call { callee := .builtin .append, args := _, argTypes := _ }) ?_); (first | refine r_append_own SlF.h SlF.s ZoF.h zd rfl rfl rfl zC zS ?_ | refine r_append_nil SlF.h SlF.s ZoF.h zd rfl rfl zC zS rfl ?_ | refine r_append_zeros V.i 0 SlF.h UnF.h rfl rfl (show zv _ _ = some (V.i 0) from ZvF.h) zS zd rfl ?_ | refine r_append_full1 SlF.h SlF.s ZoF.h zd rfl rfl zC zJ zS rfl ?_); refine r_nn zN zH ?_)
    | ((with_reducible refine r_at (.call { callee := .builtin .delete, args := _, argTypes := _ }) ?_); refine r_delete MpF.h rfl rfl rfl ?_; refine r_nn zN zH ?_)
    | ((with_reducible refine r_at (.box _ _) ?_); refine r_box rfl rfl ?_; refine r_nn zN zH ?_)
    | ((with_reducible refine r_at (.alloc _) ?_); refine r_alloc ZvF.h rfl rfl ?_; refine r_nn zN zH ?_)
    | ((with_reducible refine r_at (.makeSlice _ _ _) ?_); (first | refine r_makeG V.i 0 SlF.h rfl rfl (show zv _ _ = some (V.i 0) from ZvF.h) zS zd rfl ?_ | refine r_makeG V.b false SlF.h rfl rfl (show zv _ _ = some (V.b false) from ZvF.h) zS zd rfl ?_ | refine r_make SlF.h rfl rfl ZvF.h zo zd rfl ?_); refine r_nn zN zH ?_)
    | ((with_reducible refine r_at (.makeMap _ none) ?_); (first | refine r_makeMapZ V.i MpF.h (show zv _ _ = some (V.i 0) from ZvF.h) rfl ?_ | refine r_makeMapZ V.b MpF.h (show zv _ _ = some (V.b false) from ZvF.h) rfl ?_ | refine r_makeMapZ weV MpF.h (show zv _ _ = some (weV ⟨0, 0, 0, 0, 0⟩) from ZvF.h) rfl ?_); refine r_nn zN zH ?_)
    | ((with_reducible refine r_at (.mapUpdate _ _ _ _) ?_); (first | refine r_mapUpd MpF.h rfl rfl rfl (show _ = V.i _ from rfl) zD ?_ | refine r_mapUpd MpF.h rfl rfl rfl (show _ = V.b _ from rfl) zD ?_ | refine r_mapUpd MpF.h rfl rfl rfl (show _ = weV _ from rfl) zD ?_); refine r_nn zN zH ?_)
    | ((with_reducible refine r_at (.insert _ _ _ _) ?_); (first | refine r_insert MpF.h rfl rfl rfl (show _ = V.i _ from rfl) zD ?_ | refine r_insert MpF.h rfl rfl rfl (show _ = V.b _ from rfl) zD ?_ | refine r_insert MpF.h rfl rfl rfl (show _ = weV _ from rfl) zD ?_); refine r_nn zN zH ?_)
    | fail); repeat ((with_reducible refine r_is ?_); first
    | refine r_end ?_
    | ((with_reducible refine r_gd ?_); first | refine r_run rfl rfl rfl ?_ | (refine r_pass rfl rfl rfl ?_; refine r_nn zN zH ?_) | (refine r_void rfl rfl ?_; refine r_nn zN zH ?_))
    | ((with_reducible refine r_at (.move _) ?_); refine r_v rfl (v_move ?_); refine r_n zN ?_)
    | ((with_reducible refine r_at (.assign _) ?_); refine r_v rfl (v_assign ?_); refine r_n zN ?_)
    | ((with_reducible refine r_at (.load _ _) ?_); (first | refine r_v rfl (v_load_pt TyF.h rfl rfl zd rfl ?_) | refine r_v rfl (v_load_var TyF.h rfl rfl rfl zd rfl ?_) | refine r_v rfl (v_load_part TyF.h rfl rfl zE zd ?_) | refine r_v rfl (v_load_ownM TyF.h rfl rfl zS (And.intro zE zd) ?_) | refine r_v rfl (v_load_ptr TyF.h rfl rfl zS zS zd ?_) | refine r_v rfl (v_load_ptr TyF.h rfl rfl zE zE zd ?_)); refine r_n zN ?_)
    | ((with_reducible refine r_at (.fieldAddr _ _ _) ?_); (first | refine r_v rfl (v_fieldAddr_ptr FlF.h rfl ?_) | refine r_v rfl (v_fieldAddr_pt FlF.h rfl zE zF ?_) | refine r_v rfl (v_fieldAddr_sc FlF.h rfl ?_)); refine r_n zN ?_)
    | ((with_reducible refine r_at (.field _ _ _) ?_); refine r_v rfl (v_field FlF.h rfl zE ?_); refine r_n zN ?_)
    | ((with_reducible refine r_at (.indexAddr _ _ _) ?_); (first | refine r_v rfl (v_indexAddr_map SlF.h rfl rfl zo rfl ?_) | refine r_v rfl (v_indexAddr_mapZ SlF.h rfl rfl zo rfl ?_) | refine r_v rfl (v_indexAddr_ownM SlF.h rfl rfl rfl zS ?_) | refine r_v rfl (v_indexAddr_own SlF.h rfl rfl rfl zS ?_) | refine r_v rfl (v_indexAddr_vw SlF.h rfl rfl rfl zS ?_) | refine r_v rfl (v_indexAddr_slE SlF.h rfl rfl (by first | decide | simp | omega) rfl rfl ?_) | refine r_v rfl (v_indexAddr_sc SlF.h rfl rfl zS ?_) | refine r_v rfl (v_indexAddr_arr SlN.h ArF.h rfl rfl zS ?_) | refine r_v rfl (v_indexAddr_arrP SlN.h ArF.h rfl rfl zS zF ?_)); refine r_n zN ?_)
    | ((with_reducible refine r_at (.index _ _ _) ?_); refine r_v rfl (v_index_arr ArF.h rfl rfl zS ?_); refine r_n zN ?_)
    | ((with_reducible refine r_at (.extract _ _) ?_); refine r_v rfl (v_extract rfl zE ?_); refine r_n zN ?_)
    | ((with_reducible refine r_at (.binOp .add _ _ _ _) ?_); (first | refine r_v rfl (v_add64 rfl rfl zo ?_) | refine r_v rfl (v_add rfl rfl ?_)); refine r_n zN ?_)
    | ((with_reducible refine r_at (.binOp .sub _ _ _ _) ?_); (first | refine r_v rfl (v_sub64 rfl rfl zo ?_) | refine r_v rfl (v_sub rfl rfl ?_)); refine r_n zN ?_)
    | ((with_reducible refine r_at (.binOp .mul _ _ _ _) ?_); (first | refine r_v rfl (v_mul64 rfl rfl zo ?_) | refine r_v rfl (v_mul rfl rfl ?_)); refine r_n zN ?_)
    | ((with_reducible refine r_at (.binOp .lss _ _ _ _) ?_); refine r_v rfl (v_lss rfl rfl ?_); refine r_n zN ?_)
    | ((with_reducible refine r_at (.binOp .leq _ _ _ _) ?_); refine r_v rfl (v_leq rfl rfl ?_); refine r_n zN ?_)
    | ((with_reducible refine r_at (.binOp .gtr _ _ _ _) ?_); refine r_v rfl (v_gtr rfl rfl ?_); refine r_n zN ?_)
    | ((with_reducible refine r_at (.binOp .geq _ _ _ _) ?_); refine r_v rfl (v_geq rfl rfl ?_); refine r_n zN ?_)
    | ((with_reducible refine r_at (.binOp .eql _ _ _ _) ?_); (first | refine r_eql rfl rfl rfl ?_ | refine r_eqlA rfl rfl EqF.h rfl rfl ?_ | refine r_eqlB rfl rfl UnF.h ?_); refine r_n zN ?_)
    | ((with_reducible refine r_at (.binOp .neq _ _ _ _) ?_); (first | refine r_v rfl (v_neq rfl rfl ?_) | refine r_v rfl (v_neqB UnF.h rfl rfl ?_) | refine r_v rfl (v_neqA EqF.h rfl rfl rfl rfl ?_)); refine r_n zN ?_)
    | ((with_reducible refine r_at (.binOp .quo _ _ _ _) ?_); (first | refine r_v rfl (v_quo64 rfl rfl zo ?_) | refine r_v rfl (v_quo rfl rfl zo ?_)); refine r_n zN ?_)
    | ((with_reducible refine r_at (.binOp .rem _ _ _ _) ?_); (first | refine r_v rfl (v_rem64 rfl rfl zo ?_) | refine r_v rfl (v_rem rfl rfl zo ?_)); refine r_n zN ?_)
    | ((with_reducible refine r_at (.binOp .shr _ _ _ _) ?_); (first | refine r_v rfl (v_shr1 rfl rfl ?_) | refine r_v rfl (v_shr rfl rfl zo ?_)); refine r_n zN ?_)
    | ((with_reducible refine r_at (.binOp .shl _ _ _ _) ?_); refine r_v rfl (v_shl rfl rfl zo ?_); refine r_n zN ?_)
    | ((with_reducible refine r_at (.binOp .and _ _ _ _) ?_); refine r_v rfl (v_and rfl rfl ?_); refine r_n zN ?_)
    | ((with_reducible refine r_at (.binOp .or _ _ _ _) ?_); refine r_v rfl (v_or rfl rfl ?_); refine r_n zN ?_)
    | ((with_reducible refine r_at (.binOp .xor _ _ _ _) ?_); refine r_v rfl (v_xor rfl rfl ?_); refine r_n zN ?_)
    | ((with_reducible refine r_at (.binOp .andNot _ _ _ _) ?_); refine r_v rfl (v_andNot rfl rfl ?_); refine r_n zN ?_)
    | ((with_reducible refine r_at (.unOp _ _ _) ?_); (first | refine r_v rfl (v_not rfl ?_) | refine r_v rfl (v_neg64 rfl zo ?_)); refine r_n zN ?_)
    | ((with_reducible refine r_at (.pick _ _ _) ?_); (first | refine r_v rfl (v_pick_t rfl ?_) | refine r_v rfl (v_pick_f rfl ?_) | refine r_v rfl (v_pick rfl ?_)); refine r_n zN ?_)
    | ((with_reducible refine r_at (.call { callee := .builtin .len, args := _, argTypes := _ }) ?_); (first | refine r_v rfl (v_len_map SlF.s rfl ?_) | refine r_v rfl (v_len_sl SlF.s rfl ?_) | refine r_v rfl (v_len_own_map SlF.s rfl rfl ?_) | refine r_v rfl (v_len_own SlF.s rfl rfl ?_) | refine r_v rfl (v_len_vw SlF.s rfl ?_) | refine r_v rfl (v_len_nil SlF.s rfl ?_)); refine r_n zN ?_)
    | ((with_reducible refine r_at (.call { callee := .builtin .cap, args := _, argTypes := _ }) ?_); (first | refine r_v rfl (v_cap_vw SlF.s rfl ?_) | refine r_v rfl (v_cap_full SlF.s rfl ?_) | refine r_v rfl (v_cap_nil SlF.s rfl ?_)); refine r_n zN ?_)
    | ((with_reducible refine r_at (.call { callee := .builtin .max, args := _, argTypes := _ }) ?_); refine r_v rfl (v_max rfl rfl ?_); refine r_n zN ?_)
    | ((with_reducible refine r_at (.call { callee := .builtin .min, args := _, argTypes := _ }) ?_); refine r_v rfl (v_min rfl rfl ?_); refine r_n zN ?_)
    | ((with_reducible refine r_at (.nilCheck _) ?_); (first | refine r_v rfl (v_nilCheck_ptr rfl ?_) | refine r_v rfl (v_nilCheck_pt rfl ?_)); refine r_n zN ?_)
    | ((with_reducible refine r_at (.convert _ _ _) ?_); (first | refine r_v rfl (v_conv_wrap rfl UnF.h UnF.h zo ?_) | refine r_v rfl (v_conv_i64 rfl UnF.h UnF.h zo ?_) | refine r_v rfl (v_conv_u64 rfl UnF.h UnF.h zo ?_) | refine r_v rfl (v_conv rfl UnF.h UnF.h ?_)); refine r_n zN ?_)
    | ((with_reducible refine r_at (.build _ _) ?_); (first | refine r_v rfl (v_buildS PlF.h ZvF.h rfl rfl rfl rfl rfl ?_) | refine r_v rfl (v_build PlF.h ZvF.h rfl rfl ?_) | refine r_v rfl (v_build_arr1 ArF.h ZvF.h rfl rfl rfl rfl ?_) | refine r_v rfl (v_build_arr ArF.h ZvF.h rfl rfl ?_)); refine r_n zN ?_)
    | ((with_reducible refine r_at (.makeFunc _ _ _) ?_); refine r_v rfl (v_makeFunc ?_); refine r_n zN ?_)
    | ((with_reducible refine r_at (.slice _ _ none none none) ?_); refine r_v rfl (v_slice_all SlF.h rfl ?_); refine r_n zN ?_)
    | ((with_reducible refine r_at (.slice _ _ none (some _) (some _)) ?_); refine r_v rfl (v_slice_cap SlF.h rfl rfl rfl zS ?_); refine r_n zN ?_)
    | ((with_reducible refine r_at (.slice _ _ (some _) none none) ?_); (first | refine r_v rfl (v_slice_lo SlF.h rfl rfl (And.intro zS zJ) ?_) | refine r_v rfl (v_slice_lo SlF.h rfl rfl zS ?_) | refine r_v rfl (v_slice_ownlo SlF.h rfl rfl rfl zS ?_)); refine r_n zN ?_)
    | ((with_reducible refine r_at (.slice _ _ none (some _) none) ?_); refine r_v rfl (v_slice_hi SlF.h rfl rfl zS ?_); refine r_n zN ?_)
    | ((with_reducible refine r_at (.slice _ _ none (some _) none) ?_); (first | refine r_cut SlF.h rfl rfl rfl zS ?_ | refine r_cutN SlF.h rfl rfl ?_); refine r_nn zN zH ?_)
    | ((with_reducible refine r_at (.slice _ _ (some _) (some _) none) ?_); (first | refine r_v rfl (v_slice_lohi SlF.h rfl rfl rfl (And.intro zS zJ) ?_) | refine r_v rfl (v_slice_lohi SlF.h rfl rfl rfl zS ?_)); refine r_n zN ?_)
    | ((with_reducible refine r_at (.lookup _ _ _ true) ?_); (first | refine r_v rfl (v_lookup_mp_ok MpF.h rfl rfl (show zv _ _ = some (V.i 0) from ZvF.h) rfl ?_) | refine r_v rfl (v_lookup_mp_ok MpF.h rfl rfl (show zv _ _ = some (V.b false) from ZvF.h) rfl ?_) | refine r_v rfl (v_lookup_mp_ok MpF.h rfl rfl (show zv _ _ = some (weV ⟨0, 0, 0, 0, 0⟩) from ZvF.h) rfl ?_)); refine r_n zN ?_)
    | ((with_reducible refine r_at (.lookup _ _ _ false) ?_); (first | refine r_v rfl (v_lookup_mp MpF.h rfl rfl (show zv _ _ = some (V.i 0) from ZvF.h) rfl ?_) | refine r_v rfl (v_lookup_dmp MpF.h rfl (show zv _ _ = some (V.i 0) from ZvF.h) rfl ?_) | refine r_v rfl (v_lookup_mp MpF.h rfl rfl (show zv _ _ = some (V.b false) from ZvF.h) rfl ?_) | refine r_v rfl (v_lookup_dmp MpF.h rfl (show zv _ _ = some (V.b false) from ZvF.h) rfl ?_) | refine r_v rfl (v_lookup_mp MpF.h rfl rfl (show zv _ _ = some (weV ⟨0, 0, 0, 0, 0⟩) from ZvF.h) rfl ?_) | refine r_v rfl (v_lookup_dmp MpF.h rfl (show zv _ _ = some (weV ⟨0, 0, 0, 0, 0⟩) from ZvF.h) rfl ?_)); refine r_n zN ?_)
    | ((with_reducible refine r_at (.store _ _ _) ?_); (first | refine r_storeW TyF.h rfl rfl (And.intro zE (And.intro zd (And.intro rfl rfl))) rfl ?_ | refine r_storeM TyF.h rfl rfl zS (And.intro zE (And.intro zd (And.intro rfl (And.intro rfl rfl)))) ?_ | refine r_store TyF.h rfl rfl (And.intro zT (And.intro zT (And.intro zd (And.intro rfl (And.intro rfl (by first | exact .inl rfl | exact .inr rfl)))))) ?_); refine r_nn zN zH ?_)
    | ((with_reducible refine r_at (.call { callee := .builtin .append, args := _, argTypes := _ }) ?_); (first | refine r_append_own SlF.h SlF.s ZoF.h zd rfl rfl rfl zC zS ?_ | refine r_append_nil SlF.h SlF.s ZoF.h zd rfl rfl zC zS rfl ?_ | refine r_append_zeros V.i 0 SlF.h UnF.h rfl rfl (show zv _ _ = some (V.i 0) from ZvF.h) zS zd rfl ?_ | refine r_append_full1 SlF.h SlF.s ZoF.h zd rfl rfl zC zJ zS rfl ?_); refine r_nn zN zH ?_)
    | ((with_reducible refine r_at (.call { callee := .builtin .delete, args := _, argTypes := _ }) ?_); refine r_delete MpF.h rfl rfl rfl ?_; refine r_nn zN zH ?_)
    | ((with_reducible refine r_at (.box _ _) ?_); refine r_box rfl rfl ?_; refine r_nn zN zH ?_)
    | ((with_reducible refine r_at (.alloc _) ?_); refine r_alloc ZvF.h rfl rfl ?_; refine r_nn zN zH ?_)
    | ((with_reducible refine r_at (.makeSlice _ _ _) ?_); (first | refine r_makeG V.i 0 SlF.h rfl rfl (show zv _ _ = some (V.i 0) from ZvF.h) zS zd rfl ?_ | refine r_makeG V.b false SlF.h rfl rfl (show zv _ _ = some (V.b false) from ZvF.h) zS zd rfl ?_ | refine r_make SlF.h rfl rfl ZvF.h zo zd rfl ?_); refine r_nn zN zH ?_)
    | ((with_reducible refine r_at (.makeMap _ none) ?_); (first | refine r_makeMapZ V.i MpF.h (show zv _ _ = some (V.i 0) from ZvF.h) rfl ?_ | refine r_makeMapZ V.b MpF.h (show zv _ _ = some (V.b false) from ZvF.h) rfl ?_ | refine r_makeMapZ weV MpF.h (show zv _ _ = some (weV ⟨0, 0, 0, 0, 0⟩) from ZvF.h) rfl ?_); refine r_nn zN zH ?_)
    | ((with_reducible refine r_at (.mapUpdate _ _ _ _) ?_); (first | refine r_mapUpd MpF.h rfl rfl rfl (show _ = V.i _ from rfl) zD ?_ | refine r_mapUpd MpF.h rfl rfl rfl (show _ = V.b _ from rfl) zD ?_ | refine r_mapUpd MpF.h rfl rfl rfl (show _ = weV _ from rfl) zD ?_); refine r_nn zN zH ?_)
    | ((with_reducible refine r_at (.insert _ _ _ _) ?_); (first | refine r_insert MpF.h rfl rfl rfl (show _ = V.i _ from rfl) zD ?_ | refine r_insert MpF.h rfl rfl rfl (show _ = V.b _ from rfl) zD ?_ | refine r_insert MpF.h rfl rfl rfl (show _ = weV _ from rfl) zD ?_); refine r_nn zN zH ?_)
    | fail))
  exact hq.h) : p := h ⟨k⟩
theorem yd {q p : Prop} (k : q) (h : Hold q → p := by
  intro hq
  (((with_reducible refine d_is ?_); first
    | refine d_end ?_
    | ((with_reducible refine d_gd ?_); first | refine d_run rfl rfl rfl ?_ | (refine d_pass rfl rfl rfl ?_; refine d_nn zN zH ?_) | (refine d_void rfl rfl ?_; refine d_nn zN zH ?_))
    | ((with_reducible refine d_at (.move _) ?_); refine d_v rfl (v_move ?_); refine d_n zN ?_)
    | ((with_reducible refine d_at (.assign _) ?_); refine d_v rfl (v_assign ?_); refine d_n zN ?_)
    | ((with_reducible refine d_at (.load _ _) ?_); (first | refine d_v rfl (v_load_pt TyF.h rfl rfl zd rfl ?_) | refine d_v rfl (v_load_var TyF.h rfl rfl rfl zd rfl ?_) | refine d_v rfl (v_load_part TyF.h rfl rfl zE zd ?_) | refine d_v rfl (v_load_ownM TyF.h rfl rfl zS (And.intro zE zd) ?_) | refine d_v rfl (v_load_ptr TyF.h rfl rfl zS zS zd ?_) | refine d_v rfl (v_load_ptr TyF.h rfl rfl zE zE zd ?_)); refine d_n zN ?_)
    | ((with_reducible refine d_at (.fieldAddr _ _ _) ?_); (first | refine d_v rfl (v_fieldAddr_ptr FlF.h rfl ?_) | refine d_v rfl (v_fieldAddr_pt FlF.h rfl zE zF ?_) | refine d_v rfl (v_fieldAddr_sc FlF.h rfl ?_)); refine d_n zN ?_)
    | ((with_reducible refine d_at (.field _ _ _) ?_); refine d_v rfl (v_field FlF.h rfl zE ?_); refine d_n zN ?_)
    | ((with_reducible refine d_at (.indexAddr _ _ _) ?_); (first | refine d_v rfl (v_indexAddr_map SlF.h rfl rfl zo rfl ?_) | refine d_v rfl (v_indexAddr_mapZ SlF.h rfl rfl zo rfl ?_) | refine d_v rfl (v_indexAddr_ownM SlF.h rfl rfl rfl zS ?_) | refine d_v rfl (v_indexAddr_own SlF.h rfl rfl rfl zS ?_) | refine d_v rfl (v_indexAddr_vw SlF.h rfl rfl rfl zS ?_) | refine d_v rfl (v_indexAddr_slE SlF.h rfl rfl (by first | decide | simp | omega) rfl rfl ?_) | refine d_v rfl (v_indexAddr_sc SlF.h rfl rfl zS ?_) | refine d_v rfl (v_indexAddr_arr SlN.h ArF.h rfl rfl zS ?_) | refine d_v rfl (v_indexAddr_arrP SlN.h ArF.h rfl rfl zS zF ?_)); refine d_n zN ?_)
    | ((with_reducible refine d_at (.index _ _ _) ?_); refine d_v rfl (v_index_arr ArF.h rfl rfl zS ?_); refine d_n zN ?_)
    | ((with_reducible refine d_at (.extract _ _) ?_); refine d_v rfl (v_extract rfl zE ?_); refine d_n zN ?_)
    | ((with_reducible refine d_at (.binOp .add _ _ _ _) ?_); (first | refine d_v rfl (v_add64 rfl rfl zo ?_) | refine d_v rfl (v_add rfl rfl ?_)); refine d_n zN ?_)
    | ((with_reducible refine d_at (.binOp .sub _ _ _ _) ?_); (first | refine d_v rfl (v_sub64 rfl rfl zo ?_) | refine d_v rfl (v_sub rfl rfl ?_)); refine d_n zN ?_)
    | ((with_reducible refine d_at (.binOp .mul _ _ _ _) ?_); (first | refine d_v rfl (v_mul64 rfl rfl zo ?_) | refine d_v rfl (v_mul rfl rfl ?_)); refine d_n zN ?_)
    | ((with_reducible refine d_at (.binOp .lss _ _ _ _) ?_); refine d_v rfl (v_lss rfl rfl ?_); refine d_n zN ?_)
    | ((with_reducible refine d_at (.binOp .leq _ _ _ _) ?_); refine d_v rfl (v_leq rfl rfl ?_); refine d_n zN ?_)
    | ((with_reducible refine d_at (.binOp .gtr _ _ _ _) ?_); refine d_v rfl (v_gtr rfl rfl ?_); refine d_n zN ?_)
    | ((with_reducible refine d_at (.binOp .geq _ _ _ _) ?_); refine d_v rfl (v_geq rfl rfl ?_); refine d_n zN ?_)
    | ((with_reducible refine d_at (.binOp .eql _ _ _ _) ?_); (first | refine d_eql rfl rfl rfl ?_ | refine d_eqlA rfl rfl EqF.h rfl rfl ?_); refine d_n zN ?_)
    | ((with_reducible refine d_at (.binOp .neq _ _ _ _) ?_); (first | refine d_v rfl (v_neq rfl rfl ?_) | refine d_v rfl (v_neqB UnF.h rfl rfl ?_) | refine d_v rfl (v_neqA EqF.h rfl rfl rfl rfl ?_)); refine d_n zN ?_)
    | ((with_reducible refine d_at (.binOp .quo _ _ _ _) ?_); (first | refine d_v rfl (v_quo64 rfl rfl zo ?_) | refine d_v rfl (v_quo rfl rfl zo ?_)); refine d_n zN ?_)
    | ((with_reducible refine d_at (.binOp .rem _ _ _ _) ?_); (first | refine d_v rfl (v_rem64 rfl rfl zo ?_) | refine d_v rfl (v_rem rfl rfl zo ?_)); refine d_n zN ?_)
    | ((with_reducible refine d_at (.binOp .shr _ _ _ _) ?_); (first | refine d_v rfl (v_shr1 rfl rfl ?_) | refine d_v rfl (v_shr rfl rfl zo ?_)); refine d_n zN ?_)
    | ((with_reducible refine d_at (.binOp .shl _ _ _ _) ?_); refine d_v rfl (v_shl rfl rfl zo ?_); refine d_n zN ?_)
    | ((with_reducible refine d_at (.binOp .and _ _ _ _) ?_); refine d_v rfl (v_and rfl rfl ?_); refine d_n zN ?_)
    | ((with_reducible refine d_at (.binOp .or _ _ _ _) ?_); refine d_v rfl (v_or rfl rfl ?_); refine d_n zN ?_)
    | ((with_reducible refine d_at (.binOp .xor _ _ _ _) ?_); refine d_v rfl (v_xor rfl rfl ?_); refine d_n zN ?_)
    | ((with_reducible refine d_at (.binOp .andNot _ _ _ _) ?_); refine d_v rfl (v_andNot rfl rfl ?_); refine d_n zN ?_)
    | ((with_reducible refine d_at (.unOp _ _ _) ?_); (first | refine d_v rfl (v_not rfl ?_) | refine d_v rfl (v_neg64 rfl zo ?_)); refine d_n zN ?_)
    | ((with_reducible refine d_at (.pick _ _ _) ?_); (first | refine d_v rfl (v_pick_t rfl ?_) | refine d_v rfl (v_pick_f rfl ?_) | refine d_v rfl (v_pick rfl ?_)); refine d_n zN ?_)
    | ((with_reducible refine d_at (.call { callee := .builtin .len, args := _, argTypes := _ }) ?_); (first | refine d_v rfl (v_len_map SlF.s rfl ?_) | refine d_v rfl (v_len_sl SlF.s rfl ?_) | refine d_v rfl (v_len_own_map SlF.s rfl rfl ?_) | refine d_v rfl (v_len_own SlF.s rfl rfl ?_) | refine d_v rfl (v_len_vw SlF.s rfl ?_) | refine d_v rfl (v_len_nil SlF.s rfl ?_)); refine d_n zN ?_)
    | ((with_reducible refine d_at (.call { callee := .builtin .cap, args := _, argTypes := _ }) ?_); (first | refine d_v rfl (v_cap_vw SlF.s rfl ?_) | refine d_v rfl (v_cap_full SlF.s rfl ?_) | refine d_v rfl (v_cap_nil SlF.s rfl ?_)); refine d_n zN ?_)
    | ((with_reducible refine d_at (.call { callee := .builtin .max, args := _, argTypes := _ }) ?_); refine d_v rfl (v_max rfl rfl ?_); refine d_n zN ?_)
    | ((with_reducible refine d_at (.call { callee := .builtin .min, args := _, argTypes := _ }) ?_); refine d_v rfl (v_min rfl rfl ?_); refine d_n zN ?_)
    | ((with_reducible refine d_at (.nilCheck _) ?_); (first | refine d_v rfl (v_nilCheck_ptr rfl ?_) | refine d_v rfl (v_nilCheck_pt rfl ?_)); refine d_n zN ?_)
    | ((with_reducible refine d_at (.convert _ _ _) ?_); (first | refine d_v rfl (v_conv_wrap rfl UnF.h UnF.h zo ?_) | refine d_v rfl (v_conv_i64 rfl UnF.h UnF.h zo ?_) | refine d_v rfl (v_conv_u64 rfl UnF.h UnF.h zo ?_) | refine d_v rfl (v_conv rfl UnF.h UnF.h ?_)); refine d_n zN ?_)
    | ((with_reducible refine d_at (.build _ _) ?_); (first | refine d_v rfl (v_buildS PlF.h ZvF.h rfl rfl rfl rfl rfl ?_) | refine d_v rfl (v_build PlF.h ZvF.h rfl rfl ?_) | refine d_v rfl (v_build_arr1 ArF.h ZvF.h rfl rfl rfl rfl ?_) | refine d_v rfl (v_build_arr ArF.h ZvF.h rfl rfl ?_)); refine d_n zN ?_)
    | ((with_reducible refine d_at (.makeFunc _ _ _) ?_); refine d_v rfl (v_makeFunc ?_); refine d_n zN ?_)
    | ((with_reducible refine d_at (.slice _ _ none none none) ?_); refine d_v rfl (v_slice_all SlF.h rfl ?_); refine d_n zN ?_)
    | ((with_reducible refine d_at (.slice _ _ none (some _) (some _)) ?_); refine d_v rfl (v_slice_cap SlF.h rfl rfl rfl zS ?_); refine d_n zN ?_)
    | ((with_reducible refine d_at (.slice _ _ (some _) none none) ?_); (first | refine d_v rfl (v_slice_lo SlF.h rfl rfl (And.intro zS zJ) ?_) | refine d_v rfl (v_slice_lo SlF.h rfl rfl zS ?_) | refine d_v rfl (v_slice_ownlo SlF.h rfl rfl rfl zS ?_)); refine d_n zN ?_)
    | ((with_reducible refine d_at (.slice _ _ none (some _) none) ?_); refine d_v rfl (v_slice_hi SlF.h rfl rfl zS ?_); refine d_n zN ?_)
    | ((with_reducible refine d_at (.slice _ _ (some _) (some _) none) ?_); (first | refine d_v rfl (v_slice_lohi SlF.h rfl rfl rfl (And.intro zS zJ) ?_) | refine d_v rfl (v_slice_lohi SlF.h rfl rfl rfl zS ?_)); refine d_n zN ?_)
    | ((with_reducible refine d_at (.lookup _ _ _ true) ?_); (first | refine d_v rfl (v_lookup_mp_ok MpF.h rfl rfl (show zv _ _ = some (V.i 0) from ZvF.h) rfl ?_) | refine d_v rfl (v_lookup_mp_ok MpF.h rfl rfl (show zv _ _ = some (V.b false) from ZvF.h) rfl ?_) | refine d_v rfl (v_lookup_mp_ok MpF.h rfl rfl (show zv _ _ = some (weV ⟨0, 0, 0, 0, 0⟩) from ZvF.h) rfl ?_)); refine d_n zN ?_)
    | ((with_reducible refine d_at (.lookup _ _ _ false) ?_); (first | refine d_v rfl (v_lookup_mp MpF.h rfl rfl (show zv _ _ = some (V.i 0) from ZvF.h) rfl ?_) | refine d_v rfl (v_lookup_dmp MpF.h rfl (show zv _ _ = some (V.i 0) from ZvF.h) rfl ?_) | refine d_v rfl (v_lookup_mp MpF.h rfl rfl (show zv _ _ = some (V.b false) from ZvF.h) rfl ?_) | refine d_v rfl (v_lookup_dmp MpF.h rfl (show zv _ _ = some (V.b false) from ZvF.h) rfl ?_) | refine d_v rfl (v_lookup_mp MpF.h rfl rfl (show zv _ _ = some (weV ⟨0, 0, 0, 0, 0⟩) from ZvF.h) rfl ?_) | refine d_v rfl (v_lookup_dmp MpF.h rfl (show zv _ _ = some (weV ⟨0, 0, 0, 0, 0⟩) from ZvF.h) rfl ?_)); refine d_n zN ?_)
    | ((with_reducible refine d_at (.store _ _ _) ?_); (first | refine d_storeW TyF.h rfl rfl (And.intro zE (And.intro zd (And.intro rfl rfl))) rfl ?_ | refine d_storeM TyF.h rfl rfl zS (And.intro zE (And.intro zd (And.intro rfl (And.intro rfl rfl)))) ?_ | refine d_store TyF.h rfl rfl (And.intro zT (And.intro zT (And.intro zd (And.intro rfl (And.intro rfl (by first | exact .inl rfl | exact .inr rfl)))))) ?_); refine d_nn zN zH ?_)
    | ((with_reducible refine d_at (.buildSlice _ _ _) ?_); refine d_build SlF.h ZoF.h zd zB ?_; refine d_n zN ?_)
    | ((with_reducible refine d_at (.box _ _) ?_); refine d_box rfl rfl ?_; refine d_nn zN zH ?_)
    | ((with_reducible refine d_at (.alloc _) ?_); refine d_alloc ZvF.h rfl rfl ?_; refine d_nn zN zH ?_)
    | fail); repeat ((with_reducible refine d_is ?_); first
    | refine d_end ?_
    | ((with_reducible refine d_gd ?_); first | refine d_run rfl rfl rfl ?_ | (refine d_pass rfl rfl rfl ?_; refine d_nn zN zH ?_) | (refine d_void rfl rfl ?_; refine d_nn zN zH ?_))
    | ((with_reducible refine d_at (.move _) ?_); refine d_v rfl (v_move ?_); refine d_n zN ?_)
    | ((with_reducible refine d_at (.assign _) ?_); refine d_v rfl (v_assign ?_); refine d_n zN ?_)
    | ((with_reducible refine d_at (.load _ _) ?_); (first | refine d_v rfl (v_load_pt TyF.h rfl rfl zd rfl ?_) | refine d_v rfl (v_load_var TyF.h rfl rfl rfl zd rfl ?_) | refine d_v rfl (v_load_part TyF.h rfl rfl zE zd ?_) | refine d_v rfl (v_load_ownM TyF.h rfl rfl zS (And.intro zE zd) ?_) | refine d_v rfl (v_load_ptr TyF.h rfl rfl zS zS zd ?_) | refine d_v rfl (v_load_ptr TyF.h rfl rfl zE zE zd ?_)); refine d_n zN ?_)
    | ((with_reducible refine d_at (.fieldAddr _ _ _) ?_); (first | refine d_v rfl (v_fieldAddr_ptr FlF.h rfl ?_) | refine d_v rfl (v_fieldAddr_pt FlF.h rfl zE zF ?_) | refine d_v rfl (v_fieldAddr_sc FlF.h rfl ?_)); refine d_n zN ?_)
    | ((with_reducible refine d_at (.field _ _ _) ?_); refine d_v rfl (v_field FlF.h rfl zE ?_); refine d_n zN ?_)
    | ((with_reducible refine d_at (.indexAddr _ _ _) ?_); (first | refine d_v rfl (v_indexAddr_map SlF.h rfl rfl zo rfl ?_) | refine d_v rfl (v_indexAddr_mapZ SlF.h rfl rfl zo rfl ?_) | refine d_v rfl (v_indexAddr_ownM SlF.h rfl rfl rfl zS ?_) | refine d_v rfl (v_indexAddr_own SlF.h rfl rfl rfl zS ?_) | refine d_v rfl (v_indexAddr_vw SlF.h rfl rfl rfl zS ?_) | refine d_v rfl (v_indexAddr_slE SlF.h rfl rfl (by first | decide | simp | omega) rfl rfl ?_) | refine d_v rfl (v_indexAddr_sc SlF.h rfl rfl zS ?_) | refine d_v rfl (v_indexAddr_arr SlN.h ArF.h rfl rfl zS ?_) | refine d_v rfl (v_indexAddr_arrP SlN.h ArF.h rfl rfl zS zF ?_)); refine d_n zN ?_)
    | ((with_reducible refine d_at (.index _ _ _) ?_); refine d_v rfl (v_index_arr ArF.h rfl rfl zS ?_); refine d_n zN ?_)
    | ((with_reducible refine d_at (.extract _ _) ?_); refine d_v rfl (v_extract rfl zE ?_); refine d_n zN ?_)
    | ((with_reducible refine d_at (.binOp .add _ _ _ _) ?_); (first | refine d_v rfl (v_add64 rfl rfl zo ?_) | refine d_v rfl (v_add rfl rfl ?_)); refine d_n zN ?_)
    | ((with_reducible refine d_at (.binOp .sub _ _ _ _) ?_); (first | refine d_v rfl (v_sub64 rfl rfl zo ?_) | refine d_v rfl (v_sub rfl rfl ?_)); refine d_n zN ?_)
    | ((with_reducible refine d_at (.binOp .mul _ _ _ _) ?_); (first | refine d_v rfl (v_mul64 rfl rfl zo ?_) | refine d_v rfl (v_mul rfl rfl ?_)); refine d_n zN ?_)
    | ((with_reducible refine d_at (.binOp .lss _ _ _ _) ?_); refine d_v rfl (v_lss rfl rfl ?_); refine d_n zN ?_)
    | ((with_reducible refine d_at (.binOp .leq _ _ _ _) ?_); refine d_v rfl (v_leq rfl rfl ?_); refine d_n zN ?_)
    | ((with_reducible refine d_at (.binOp .gtr _ _ _ _) ?_); refine d_v rfl (v_gtr rfl rfl ?_); refine d_n zN ?_)
    | ((with_reducible refine d_at (.binOp .geq _ _ _ _) ?_); refine d_v rfl (v_geq rfl rfl ?_); refine d_n zN ?_)
    | ((with_reducible refine d_at (.binOp .eql _ _ _ _) ?_); (first | refine d_eql rfl rfl rfl ?_ | refine d_eqlA rfl rfl EqF.h rfl rfl ?_); refine d_n zN ?_)
    | ((with_reducible refine d_at (.binOp .neq _ _ _ _) ?_); (first | refine d_v rfl (v_neq rfl rfl ?_) | refine d_v rfl (v_neqB UnF.h rfl rfl ?_) | refine d_v rfl (v_neqA EqF.h rfl rfl rfl rfl ?_)); refine d_n zN ?_)
    | ((with_reducible refine d_at (.binOp .quo _ _ _ _) ?_); (first | refine d_v rfl (v_quo64 rfl rfl zo ?_) | refine d_v rfl (v_quo rfl rfl zo ?_)); refine d_n zN ?_)
    | ((with_reducible refine d_at (.binOp .rem _ _ _ _) ?_); (first | refine d_v rfl (v_rem64 rfl rfl zo ?_) | refine d_v rfl (v_rem rfl rfl zo ?_)); refine d_n zN ?_)
    | ((with_reducible refine d_at (.binOp .shr _ _ _ _) ?_); (first | refine d_v rfl (v_shr1 rfl rfl ?_) | refine d_v rfl (v_shr rfl rfl zo ?_)); refine d_n zN ?_)
    | ((with_reducible refine d_at (.binOp .shl _ _ _ _) ?_); refine d_v rfl (v_shl rfl rfl zo ?_); refine d_n zN ?_)
    | ((with_reducible refine d_at (.binOp .and _ _ _ _) ?_); refine d_v rfl (v_and rfl rfl ?_); refine d_n zN ?_)
    | ((with_reducible refine d_at (.binOp .or _ _ _ _) ?_); refine d_v rfl (v_or rfl rfl ?_); refine d_n zN ?_)
    | ((with_reducible refine d_at (.binOp .xor _ _ _ _) ?_); refine d_v rfl (v_xor rfl rfl ?_); refine d_n zN ?_)
    | ((with_reducible refine d_at (.binOp .andNot _ _ _ _) ?_); refine d_v rfl (v_andNot rfl rfl ?_); refine d_n zN ?_)
    | ((with_reducible refine d_at (.unOp _ _ _) ?_); (first | refine d_v rfl (v_not rfl ?_) | refine d_v rfl (v_neg64 rfl zo ?_)); refine d_n zN ?_)
    | ((with_reducible refine d_at (.pick _ _ _) ?_); (first | refine d_v rfl (v_pick_t rfl ?_) | refine d_v rfl (v_pick_f rfl ?_) | refine d_v rfl (v_pick rfl ?_)); refine d_n zN ?_)
    | ((with_reducible refine d_at (.call { callee := .builtin .len, args := _, argTypes := _ }) ?_); (first | refine d_v rfl (v_len_map SlF.s rfl ?_) | refine d_v rfl (v_len_sl SlF.s rfl ?_) | refine d_v rfl (v_len_own_map SlF.s rfl rfl ?_) | refine d_v rfl (v_len_own SlF.s rfl rfl ?_) | refine d_v rfl (v_len_vw SlF.s rfl ?_) | refine d_v rfl (v_len_nil SlF.s rfl ?_)); refine d_n zN ?_)
    | ((with_reducible refine d_at (.call { callee := .builtin .cap, args := _, argTypes := _ }) ?_); (first | refine d_v rfl (v_cap_vw SlF.s rfl ?_) | refine d_v rfl (v_cap_full SlF.s rfl ?_) | refine d_v rfl (v_cap_nil SlF.s rfl ?_)); refine d_n zN ?_)
    | ((with_reducible refine d_at (.call { callee := .builtin .max, args := _, argTypes := _ }) ?_); refine d_v rfl (v_max rfl rfl ?_); refine d_n zN ?_)
    | ((with_reducible refine d_at (.call { callee := .builtin .min, args := _, argTypes := _ }) ?_); refine d_v rfl (v_min rfl rfl ?_); refine d_n zN ?_)
    | ((with_reducible refine d_at (.nilCheck _) ?_); (first | refine d_v rfl (v_nilCheck_ptr rfl ?_) | refine d_v rfl (v_nilCheck_pt rfl ?_)); refine d_n zN ?_)
    | ((with_reducible refine d_at (.convert _ _ _) ?_); (first | refine d_v rfl (v_conv_wrap rfl UnF.h UnF.h zo ?_) | refine d_v rfl (v_conv_i64 rfl UnF.h UnF.h zo ?_) | refine d_v rfl (v_conv_u64 rfl UnF.h UnF.h zo ?_) | refine d_v rfl (v_conv rfl UnF.h UnF.h ?_)); refine d_n zN ?_)
    | ((with_reducible refine d_at (.build _ _) ?_); (first | refine d_v rfl (v_buildS PlF.h ZvF.h rfl rfl rfl rfl rfl ?_) | refine d_v rfl (v_build PlF.h ZvF.h rfl rfl ?_) | refine d_v rfl (v_build_arr1 ArF.h ZvF.h rfl rfl rfl rfl ?_) | refine d_v rfl (v_build_arr ArF.h ZvF.h rfl rfl ?_)); refine d_n zN ?_)
    | ((with_reducible refine d_at (.makeFunc _ _ _) ?_); refine d_v rfl (v_makeFunc ?_); refine d_n zN ?_)
    | ((with_reducible refine d_at (.slice _ _ none none none) ?_); refine d_v rfl (v_slice_all SlF.h rfl ?_); refine d_n zN ?_)
    | ((with_reducible refine d_at (.slice _ _ none (some _) (some _)) ?_); refine d_v rfl (v_slice_cap SlF.h rfl rfl rfl zS ?_); refine d_n zN ?_)
    | ((with_reducible refine d_at (.slice _ _ (some _) none none) ?_); (first | refine d_v rfl (v_slice_lo SlF.h rfl rfl (And.intro zS zJ) ?_) | refine d_v rfl (v_slice_lo SlF.h rfl rfl zS ?_) | refine d_v rfl (v_slice_ownlo SlF.h rfl rfl rfl zS ?_)); refine d_n zN ?_)
    | ((with_reducible refine d_at (.slice _ _ none (some _) none) ?_); refine d_v rfl (v_slice_hi SlF.h rfl rfl zS ?_); refine d_n zN ?_)
    | ((with_reducible refine d_at (.slice _ _ (some _) (some _) none) ?_); (first | refine d_v rfl (v_slice_lohi SlF.h rfl rfl rfl (And.intro zS zJ) ?_) | refine d_v rfl (v_slice_lohi SlF.h rfl rfl rfl zS ?_)); refine d_n zN ?_)
    | ((with_reducible refine d_at (.lookup _ _ _ true) ?_); (first | refine d_v rfl (v_lookup_mp_ok MpF.h rfl rfl (show zv _ _ = some (V.i 0) from ZvF.h) rfl ?_) | refine d_v rfl (v_lookup_mp_ok MpF.h rfl rfl (show zv _ _ = some (V.b false) from ZvF.h) rfl ?_) | refine d_v rfl (v_lookup_mp_ok MpF.h rfl rfl (show zv _ _ = some (weV ⟨0, 0, 0, 0, 0⟩) from ZvF.h) rfl ?_)); refine d_n zN ?_)
    | ((with_reducible refine d_at (.lookup _ _ _ false) ?_); (first | refine d_v rfl (v_lookup_mp MpF.h rfl rfl (show zv _ _ = some (V.i 0) from ZvF.h) rfl ?_) | refine d_v rfl (v_lookup_dmp MpF.h rfl (show zv _ _ = some (V.i 0) from ZvF.h) rfl ?_) | refine d_v rfl (v_lookup_mp MpF.h rfl rfl (show zv _ _ = some (V.b false) from ZvF.h) rfl ?_) | refine d_v rfl (v_lookup_dmp MpF.h rfl (show zv _ _ = some (V.b false) from ZvF.h) rfl ?_) | refine d_v rfl (v_lookup_mp MpF.h rfl rfl (show zv _ _ = some (weV ⟨0, 0, 0, 0, 0⟩) from ZvF.h) rfl ?_) | refine d_v rfl (v_lookup_dmp MpF.h rfl (show zv _ _ = some (weV ⟨0, 0, 0, 0, 0⟩) from ZvF.h) rfl ?_)); refine d_n zN ?_)
    | ((with_reducible refine d_at (.store _ _ _) ?_); (first | refine d_storeW TyF.h rfl rfl (And.intro zE (And.intro zd (And.intro rfl rfl))) rfl ?_ | refine d_storeM TyF.h rfl rfl zS (And.intro zE (And.intro zd (And.intro rfl (And.intro rfl rfl)))) ?_ | refine d_store TyF.h rfl rfl (And.intro zT (And.intro zT (And.intro zd (And.intro rfl (And.intro rfl (by first | exact .inl rfl | exact .inr rfl)))))) ?_); refine d_nn zN zH ?_)
    | ((with_reducible refine d_at (.buildSlice _ _ _) ?_); refine d_build SlF.h ZoF.h zd zB ?_; refine d_n zN ?_)
    | ((with_reducible refine d_at (.box _ _) ?_); refine d_box rfl rfl ?_; refine d_nn zN zH ?_)
    | ((with_reducible refine d_at (.alloc _) ?_); refine d_alloc ZvF.h rfl rfl ?_; refine d_nn zN zH ?_)
    | fail))
  exact hq.h) : p := h ⟨k⟩
theorem yw {q p : Prop} (k : q) (h : Hold q → p := by
  intro hq
  ((first | (with_reducible refine Runs.seq ?_) | (with_reducible refine Runs.skip ?_) | (with_reducible refine Runs.block ?_) | (with_reducible refine Runs.inBlock ?_) | (with_reducible refine Runs.label ?_) | (with_reducible refine Runs.exit rfl ?_) | (with_reducible refine Runs.scope ?_) | (with_reducible refine Runs.inScope ?_) | fail); repeat (first | (with_reducible refine Runs.seq ?_) | (with_reducible refine Runs.skip ?_) | (with_reducible refine Runs.block ?_) | (with_reducible refine Runs.inBlock ?_) | (with_reducible refine Runs.label ?_) | (with_reducible refine Runs.exit rfl ?_) | (with_reducible refine Runs.scope ?_) | (with_reducible refine Runs.inScope ?_) | fail))
  exact hq.h) : p := h ⟨k⟩
theorem zc {a b p : Prop} (k : b → p) (e : a = b := by conv => lhs; try simp only [decide_eq_true_eq, decide_eq_false_iff_not, Bool.not_eq_true', Bool.not_eq_false', Bool.not_eq_true, Bool.false_eq_true, reduceCtorEq, Bool.true_eq_false, Int.not_lt, Int.not_le, Int.ofNat_lt, Int.ofNat_le, not_false_eq_true, Decidable.not_not, eqc_ru0, eqc_ch, eqc_ed, eqc_ru, eqc_we, eqc_mb]) : a → p := pre_of e k
theorem yl {q p : Prop} (k : q) (h : Hold q → p := by
  intro hq
  simp only [List.getD_cons_zero, List.getD_cons_succ, V.lens, V.lensL, V.lensL_map, List.length_map, and_true, true_and, implies_true]
  exact hq.h) : p := h ⟨k⟩
theorem yf {q p : Prop} (k : q) (h : Hold q → p := by
  intro hq
  simp only [V.frzL, V.frz, frzH, AM.frzH, Nat.reduceEqDiff, if_true, if_false, ↓reduceIte, and_self, V.frz_data, da_i, da_chV, da_ruV, da_prV, da_enV, da_cfV, da_veV, da_inV, da_edV, da_grV, da_weV, da_mbV, da_suV, da_viV]
  exact hq.h) : p := h ⟨k⟩
theorem ys {q p : Prop} (k : q) (h : Hold q → p := by
  intro hq
  simp only [List.length_cons, List.length_nil, Nat.zero_add, Nat.reduceAdd, Nat.reduceSub, List.replicate, List.cons_append, List.nil_append]
  exact hq.h) : p := h ⟨k⟩
end Go.Proofs
