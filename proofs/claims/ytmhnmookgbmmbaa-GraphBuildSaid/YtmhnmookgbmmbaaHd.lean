/- Plain values of the program's types and how they stand in memory. -/
import Derived.Test.YtmhnmookgbmmbaaTy

set_option linter.unusedVariables false
set_option linter.unusedSimpArgs false
namespace Go.Proofs
open Go.AM

structure Rule where
  kind : Int
  columns : Int
  faulty : Int
  deriving DecidableEq, Inhabited
structure Change where
  kind : Int
  server : Int
  weight : Int
  version : Int
  rule : Rule
  deriving DecidableEq, Inhabited
structure Proposal where
  admin : Int
  number : Int
  changes : List Change
  deriving DecidableEq, Inhabited
structure Entry where
  author : Int
  count : Int
  deriving DecidableEq, Inhabited
abbrev Config := List Proposal
abbrev Vector := List Entry
structure Graph where
  nodes : List Config
  edges : List (Int × Int)
  deriving DecidableEq, Inhabited

def chV (c : Change) : V := .agg [.i c.kind, .i c.server, .i c.weight, .i c.version, .i c.rule.kind, .i c.rule.columns, .i c.rule.faulty]
def ruV (r : Rule) : V := .agg [.i r.kind, .i r.columns, .i r.faulty]
def prV (p : Proposal) : V := .agg [.i p.admin, .i p.number, .sl false (p.changes.map chV)]
def enV (e : Entry) : V := .agg [.i e.author, .i e.count]
@[reducible] def cfV (c : Config) : V := .sl false (c.map prV)
@[reducible] def veV (v : Vector) : V := .sl false (v.map enV)
@[reducible] def inV (l : List Int) : V := .sl false (l.map .i)
def edV (e : Int × Int) : V := .agg [.i e.1, .i e.2]
def grV (g : Graph) : V := .agg [.sl false (g.nodes.map cfV), .sl false (g.edges.map edV)]

theorem da_i (x : Int) : (V.i x).data = true := rfl
theorem st_i (xs : List Int) : Storable (xs.map V.i) := Storable_map _ _ fun _ => rfl
theorem sd_i (xs : List Int) : Stride 1 (xs.map V.i) := Stride_map _ _ fun _ => rfl
theorem dl_i (xs : List Int) : V.dataL (xs.map V.i) = true := dataL_map _ _ fun _ => rfl
theorem ce_chV (x : Change) : (chV x).cells = [.i x.kind, .i x.server, .i x.weight, .i x.version, .i x.rule.kind, .i x.rule.columns, .i x.rule.faulty] := rfl
theorem ok_chV (x : Change) : (chV x).okCells = true := rfl
theorem da_chV (x : Change) : (chV x).data = true := rfl
theorem st_chV (xs : List Change) : Storable (xs.map chV) := Storable_map _ _ fun _ => rfl
theorem sd_chV (xs : List Change) : Stride 7 (xs.map chV) := Stride_map _ _ fun _ => rfl
theorem dl_chV (xs : List Change) : V.dataL (xs.map chV) = true := dataL_map _ _ da_chV
theorem ce_ruV (x : Rule) : (ruV x).cells = [.i x.kind, .i x.columns, .i x.faulty] := rfl
theorem ok_ruV (x : Rule) : (ruV x).okCells = true := rfl
theorem da_ruV (x : Rule) : (ruV x).data = true := rfl
theorem st_ruV (xs : List Rule) : Storable (xs.map ruV) := Storable_map _ _ fun _ => rfl
theorem sd_ruV (xs : List Rule) : Stride 3 (xs.map ruV) := Stride_map _ _ fun _ => rfl
theorem dl_ruV (xs : List Rule) : V.dataL (xs.map ruV) = true := dataL_map _ _ da_ruV
theorem ce_prV (x : Proposal) : (prV x).cells = [.i x.admin, .i x.number, .sl false (x.changes.map chV)] := rfl
theorem ok_prV (x : Proposal) : (prV x).okCells = true := rfl
theorem da_prV (x : Proposal) : (prV x).data = true := by simp [prV, V.data, V.dataL, dl_chV]
theorem st_prV (xs : List Proposal) : Storable (xs.map prV) := Storable_map _ _ fun _ => rfl
theorem sd_prV (xs : List Proposal) : Stride 3 (xs.map prV) := Stride_map _ _ fun _ => rfl
theorem dl_prV (xs : List Proposal) : V.dataL (xs.map prV) = true := dataL_map _ _ da_prV
theorem ce_enV (x : Entry) : (enV x).cells = [.i x.author, .i x.count] := rfl
theorem ok_enV (x : Entry) : (enV x).okCells = true := rfl
theorem da_enV (x : Entry) : (enV x).data = true := rfl
theorem st_enV (xs : List Entry) : Storable (xs.map enV) := Storable_map _ _ fun _ => rfl
theorem sd_enV (xs : List Entry) : Stride 2 (xs.map enV) := Stride_map _ _ fun _ => rfl
theorem dl_enV (xs : List Entry) : V.dataL (xs.map enV) = true := dataL_map _ _ da_enV
theorem da_cfV (x : Config) : (cfV x).data = true := by simp [cfV, V.data, dl_prV]
theorem st_cfV (xs : List Config) : Storable (xs.map cfV) := Storable_map _ _ fun _ => rfl
theorem sd_cfV (xs : List Config) : Stride 1 (xs.map cfV) := Stride_map _ _ fun _ => rfl
theorem dl_cfV (xs : List Config) : V.dataL (xs.map cfV) = true := dataL_map _ _ da_cfV
theorem da_veV (x : Vector) : (veV x).data = true := by simp [veV, V.data, dl_enV]
theorem st_veV (xs : List Vector) : Storable (xs.map veV) := Storable_map _ _ fun _ => rfl
theorem sd_veV (xs : List Vector) : Stride 1 (xs.map veV) := Stride_map _ _ fun _ => rfl
theorem dl_veV (xs : List Vector) : V.dataL (xs.map veV) = true := dataL_map _ _ da_veV
theorem da_inV (x : List Int) : (inV x).data = true := by simp [inV, V.data, dl_i]
theorem st_inV (xs : List (List Int)) : Storable (xs.map inV) := Storable_map _ _ fun _ => rfl
theorem sd_inV (xs : List (List Int)) : Stride 1 (xs.map inV) := Stride_map _ _ fun _ => rfl
theorem dl_inV (xs : List (List Int)) : V.dataL (xs.map inV) = true := dataL_map _ _ da_inV
theorem ce_edV (x : (Int × Int)) : (edV x).cells = [.i x.1, .i x.2] := rfl
theorem ok_edV (x : (Int × Int)) : (edV x).okCells = true := rfl
theorem da_edV (x : (Int × Int)) : (edV x).data = true := rfl
theorem st_edV (xs : List (Int × Int)) : Storable (xs.map edV) := Storable_map _ _ fun _ => rfl
theorem sd_edV (xs : List (Int × Int)) : Stride 2 (xs.map edV) := Stride_map _ _ fun _ => rfl
theorem dl_edV (xs : List (Int × Int)) : V.dataL (xs.map edV) = true := dataL_map _ _ da_edV
theorem ce_grV (x : Graph) : (grV x).cells = [.sl false (x.nodes.map cfV), .sl false (x.edges.map edV)] := rfl
theorem ok_grV (x : Graph) : (grV x).okCells = true := rfl
theorem da_grV (x : Graph) : (grV x).data = true := by simp [grV, V.data, V.dataL, dl_cfV, dl_edV]
theorem st_grV (xs : List Graph) : Storable (xs.map grV) := Storable_map _ _ fun _ => rfl
theorem sd_grV (xs : List Graph) : Stride 2 (xs.map grV) := Stride_map _ _ fun _ => rfl
theorem dl_grV (xs : List Graph) : V.dataL (xs.map grV) = true := dataL_map _ _ da_grV
theorem sp_chV (x : Change) (fo : Nat) (cs : List V) : splice (chV x) fo cs = .agg ((chV x).cells.take fo ++ cs ++ (chV x).cells.drop (fo + cs.length)) := rfl
theorem sp_ruV (x : Rule) (fo : Nat) (cs : List V) : splice (ruV x) fo cs = .agg ((ruV x).cells.take fo ++ cs ++ (ruV x).cells.drop (fo + cs.length)) := rfl
theorem sp_prV (x : Proposal) (fo : Nat) (cs : List V) : splice (prV x) fo cs = .agg ((prV x).cells.take fo ++ cs ++ (prV x).cells.drop (fo + cs.length)) := rfl
theorem sp_enV (x : Entry) (fo : Nat) (cs : List V) : splice (enV x) fo cs = .agg ((enV x).cells.take fo ++ cs ++ (enV x).cells.drop (fo + cs.length)) := rfl
theorem sp_edV (x : (Int × Int)) (fo : Nat) (cs : List V) : splice (edV x) fo cs = .agg ((edV x).cells.take fo ++ cs ++ (edV x).cells.drop (fo + cs.length)) := rfl
theorem sp_grV (x : Graph) (fo : Nat) (cs : List V) : splice (grV x) fo cs = .agg ((grV x).cells.take fo ++ cs ++ (grV x).cells.drop (fo + cs.length)) := rfl
attribute [go_sem] sp_chV sp_ruV sp_prV sp_enV sp_edV sp_grV
attribute [go_sem] st_i sd_i da_i dl_i st_chV sd_chV da_chV dl_chV ce_chV ok_chV st_ruV sd_ruV da_ruV dl_ruV ce_ruV ok_ruV st_prV sd_prV da_prV dl_prV ce_prV ok_prV st_enV sd_enV da_enV dl_enV ce_enV ok_enV st_cfV sd_cfV da_cfV dl_cfV st_veV sd_veV da_veV dl_veV st_inV sd_inV da_inV dl_inV st_edV sd_edV da_edV dl_edV ce_edV ok_edV st_grV sd_grV da_grV dl_grV ce_grV ok_grV
theorem eqc_ch (a b : Change) : eqCells [.i a.kind, .i a.server, .i a.weight, .i a.version, .i a.rule.kind, .i a.rule.columns, .i a.rule.faulty] [.i b.kind, .i b.server, .i b.weight, .i b.version, .i b.rule.kind, .i b.rule.columns, .i b.rule.faulty] = decide (a = b) := by
  obtain ⟨a1, a2, a3, a4, a5, a6, a7⟩ := a
  obtain ⟨b1, b2, b3, b4, b5, b6, b7⟩ := b
  simp [eqCells, Change.mk.injEq, Rule.mk.injEq, Bool.decide_and]
theorem eqc_ru (a b : Rule) : eqCells [.i a.kind, .i a.columns, .i a.faulty] [.i b.kind, .i b.columns, .i b.faulty] = decide (a = b) := by
  obtain ⟨a1, a2, a3⟩ := a
  obtain ⟨b1, b2, b3⟩ := b
  simp [eqCells, Rule.mk.injEq, Bool.decide_and]
theorem eqc_ed (a b : Int × Int) : eqCells [.i a.1, .i a.2] [.i b.1, .i b.2] = decide (a = b) := by
  obtain ⟨a1, a2⟩ := a
  obtain ⟨b1, b2⟩ := b
  simp [eqCells, Prod.mk.injEq, Bool.decide_and]
theorem drop_getD {α : Type} [Inhabited α] {xs : List α} {i : Nat} (h : i < xs.length) : xs.drop i = xs.getD i default :: xs.drop (i + 1) := by
  rw [List.drop_eq_getElem_cons h]; simp [List.getD_eq_getElem?_getD, h]
theorem take_getD {α : Type} [Inhabited α] {xs : List α} {i : Nat} (h : i < xs.length) : xs.take (i + 1) = xs.take i ++ [xs.getD i default] := by
  rw [List.take_succ_eq_append_getElem h]; simp [List.getD_eq_getElem?_getD, h]
/-! Proof terms by name. -/
theorem zT {p : Prop} (h : p := by first | exact Nat.le_of_ble_eq_true rfl | first | omega | rfl | assumption | (simp only [go_sem, List.length_map, List.length_append, List.length_take, List.length_set, List.length_replicate, Int.toNat_natCast] <;> omega)) : p := h
theorem zS {p : Prop} (h : p := by first | omega | rfl | assumption | (simp only [go_sem, List.length_map, List.length_append, List.length_take, List.length_set, List.length_replicate, Int.toNat_natCast] <;> omega)) : p := h
theorem zN {p : Prop} (h : p := by (try dsimp only [go_sem, Nat.reduceAdd, Nat.reduceMul, Int.reduceToNat]) <;> rfl) : p := h
theorem zM {p : Prop} (h : p := by (try dsimp only [go_sem]) <;> rfl) : p := h
theorem zH {p : Prop} (h : p := by (try simp only [go_sem, Nat.reduceEqDiff, if_true, if_false, ↓reduceIte]) <;> rfl) : p := h
theorem zL5 {p : Prop} (h : p := by first | exact V.LeL.refl _ | exact V.LeL5 (by first | exact V.Le.refl _ | exact V.Le.full _ | exact V.Le.nil _ | exact V.Le.any _ | exact V.Le.aggL (V.LeL.refl _) | fail) (by first | exact V.Le.refl _ | exact V.Le.full _ | exact V.Le.nil _ | exact V.Le.any _ | exact V.Le.aggL (V.LeL.refl _) | fail) (by first | exact V.Le.refl _ | exact V.Le.full _ | exact V.Le.nil _ | exact V.Le.any _ | exact V.Le.aggL (V.LeL.refl _) | fail) (by first | exact V.Le.refl _ | exact V.Le.full _ | exact V.Le.nil _ | exact V.Le.any _ | exact V.Le.aggL (V.LeL.refl _) | fail) (by first | exact V.Le.refl _ | exact V.Le.full _ | exact V.Le.nil _ | exact V.Le.any _ | exact V.Le.aggL (V.LeL.refl _) | fail) | fail) : p := h
theorem zL4 {p : Prop} (h : p := by first | exact V.LeL.refl _ | exact V.LeL4 (by first | exact V.Le.refl _ | exact V.Le.full _ | exact V.Le.nil _ | exact V.Le.any _ | exact V.Le.aggL (V.LeL.refl _) | fail) (by first | exact V.Le.refl _ | exact V.Le.full _ | exact V.Le.nil _ | exact V.Le.any _ | exact V.Le.aggL (V.LeL.refl _) | fail) (by first | exact V.Le.refl _ | exact V.Le.full _ | exact V.Le.nil _ | exact V.Le.any _ | exact V.Le.aggL (V.LeL.refl _) | fail) (by first | exact V.Le.refl _ | exact V.Le.full _ | exact V.Le.nil _ | exact V.Le.any _ | exact V.Le.aggL (V.LeL.refl _) | fail) | fail) : p := h
theorem zL3 {p : Prop} (h : p := by first | exact V.LeL.refl _ | exact V.LeL3 (by first | exact V.Le.refl _ | exact V.Le.full _ | exact V.Le.nil _ | exact V.Le.any _ | exact V.Le.aggL (V.LeL.refl _) | fail) (by first | exact V.Le.refl _ | exact V.Le.full _ | exact V.Le.nil _ | exact V.Le.any _ | exact V.Le.aggL (V.LeL.refl _) | fail) (by first | exact V.Le.refl _ | exact V.Le.full _ | exact V.Le.nil _ | exact V.Le.any _ | exact V.Le.aggL (V.LeL.refl _) | fail) | fail) : p := h
theorem zL2 {p : Prop} (h : p := by first | exact V.LeL.refl _ | exact V.LeL2 (by first | exact V.Le.refl _ | exact V.Le.full _ | exact V.Le.nil _ | exact V.Le.any _ | exact V.Le.aggL (V.LeL.refl _) | fail) (by first | exact V.Le.refl _ | exact V.Le.full _ | exact V.Le.nil _ | exact V.Le.any _ | exact V.Le.aggL (V.LeL.refl _) | fail) | fail) : p := h
theorem zL1 {p : Prop} (h : p := by first | exact V.LeL.refl _ | exact V.LeL1 (by first | exact V.Le.refl _ | exact V.Le.full _ | exact V.Le.nil _ | exact V.Le.any _ | exact V.Le.aggL (V.LeL.refl _) | fail) | fail) : p := h
theorem zL0 {p : Prop} (h : p := by first | exact V.LeL.refl _ | fail) : p := h
theorem zL {p : Prop} (h : p := by first | exact V.Le.refl _ | exact V.Le.full _ | exact V.Le.nil _ | exact V.Le.any _ | exact V.Le.aggL (V.LeL.refl _) | fail) : p := h
theorem zE {p : Prop} (h : p := by exact Nat.le_of_ble_eq_true rfl) : p := h
theorem zD {p : Prop} (h : p := by first | rfl | assumption | (simp only [go_sem, Bool.and_self, Bool.and_true, Bool.true_and] <;> assumption)) : p := h
theorem zC {p : Prop} (h : p := by constructor <;> (simp only [go_sem, and_self, true_and, and_true, Bool.and_self, Bool.and_true, Bool.true_and])) : p := h
theorem zR {p : Prop} (h : p := by repeat' (first | exact V.LeL.refl _ | exact V.LeL.nil | refine V.LeL.cons ?_ ?_ | exact V.Le.refl _ | exact V.Le.full _ | exact V.Le.nil _ | exact V.Le.any _ | refine V.Le.aggL ?_ | assumption)) : p := h
theorem zF {p : Prop} (h : p := by first | exact And.intro rfl rfl | exact rfl) : p := h
theorem zd {p : Prop} (h : p := by decide) : p := h
theorem zo {p : Prop} (h : p := by omega) : p := h
end Go.Proofs
