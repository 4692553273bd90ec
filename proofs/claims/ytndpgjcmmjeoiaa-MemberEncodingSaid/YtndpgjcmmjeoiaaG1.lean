/- Contracts of functions and plain laws: W1, W87, W90, W91, W131, W88, W2, W3, W4, W5, W6, W7, W8, W11, W9, W12, Sk, W14, W16, W38, W39. -/
import Derived.Sort.OwnSortedInts
import Derived.Test.YtndpgjcmmjeoiaaHd
import Derived.Test.YtndpgjcmmjeoiaaSl
import Derived.Test.YtndpgjcmmjeoiaaMf
set_option linter.unusedVariables false
set_option linter.unusedSimpArgs false
set_option maxRecDepth 8000
set_option pp.deepTerms false
set_option pp.deepTerms.threshold 6
set_option maxHeartbeats 4000000
namespace Go.Proofs
open Go.AM
attribute [local irreducible] AM.evalR AM.evalD AM.Runs AM.valK AM.dK AM.opK AM.stepR AM.CallS AM.St.Le
theorem cmp_isNaN (a : Int) : AM.Fn Try.prog 68 [.i a] (.b false) := by
  (refine spec_of_runs Try.func68 rfl ?_; simp only [Try.f68]; refine ys ?_)
  repeat' (first | refine yw ?_ | ((with_reducible refine Runs.is ?_); first | refine Runs.region ?_ | ((with_reducible refine Runs.isC ?_); refine Runs.cond rfl (zc ?_) (zc ?_) <;> intro hc <;> (try (first | contradiction | (exfalso; omega; done) | (have : hc = trivial := rfl; clear this; clear hc))))) | ((with_reducible refine r_is ?_); first | refine yr ?_) | fail)
  (refine Runs.ret1 Try.func68 rfl zM zD ?_; try exact zX)
def cmpI (a b : Int) : Int := if a < b then -1 else if b < a then 1 else 0
theorem cmp_Compare (a b : Int) : AM.Fn Try.prog 49 [.i a, .i b] (.i (cmpI a b)) := by
  (refine spec_of_runs Try.func49 rfl ?_; simp only [Try.f49]; refine ys ?_)
  repeat' (first | refine yw ?_ | ((with_reducible refine Runs.is ?_); first | refine Runs.region ?_ | ((with_reducible refine Runs.isC ?_); refine Runs.cond rfl (zc ?_) (zc ?_) <;> intro hc <;> (try (first | contradiction | (exfalso; omega; done) | (have : hc = trivial := rfl; clear this; clear hc))))) | ((with_reducible refine r_is ?_); first | refine yr ?_ | (refine r_fn rfl (cmp_isNaN _) HbF.h zL1 zD ?_; refine r_nn zN zH ?_)) | fail)
  all_goals ((refine Runs.ret1 Try.func49 rfl zM zD ?_; try exact zX))
  all_goals (refine V.Le.of_eq (congrArg V.i ?_); unfold cmpI; split <;> (try split) <;> omega)
def orI : List Int → Int
  | [] => 0
  | x :: xs => if x = 0 then orI xs else x
theorem orI_drop {xs : List Int} {i : Nat} (h : i < xs.length) : orI (xs.drop i) = if xs.getD i default = 0 then orI (xs.drop (i+1)) else xs.getD i default := by
  rw [drop_getD h]; rfl
theorem cmp_Or (f : Bool) (xs : List Int) : AM.Fn Try.prog 48 [.sl f (xs.map .i)] (.i (orI xs)) := by
  (refine spec_of_runs Try.func48 rfl ?_; simp only [Try.f48]; refine ys ?_)
  (refine Runs.lens 0 ?_; refine yl ?_)
  intro hl
  repeat' (first | refine yw ?_ | ((with_reducible refine Runs.is ?_); first | refine Runs.region ?_ | ((with_reducible refine Runs.isC ?_); refine Runs.cond rfl (zc ?_) (zc ?_) <;> intro hc <;> (try (first | contradiction | (exfalso; omega; done) | (have : hc = trivial := rfl; clear this; clear hc))))) | ((with_reducible refine r_is ?_); first | refine yr ?_) | fail)
  refine Runs.loopI (fun i : Nat => xs.length - i) (fun i => i ≤ xs.length ∧ orI (xs.drop i) = orI xs) (fun i => ⟨[.any, .any, .any, .i 0, .any, .any, .sl f (xs.map .i), .i (xs.length : Nat), .i (i : Nat), .any, .any, .any, .any, .any, .any, .any, .any, .any], []⟩) 0 (by simp) ?_ ?_
  · (refine St.Le.clean zR (by simp [V.usesL, V.uses, AM.look_cons, AM.look_nil, V.uses_data, da_i, da_chV, da_ruV, da_prV, da_enV, da_cfV, da_veV, da_inV, da_edV, da_grV, da_weV, da_mbV, da_suV, da_viV]) (by simp [AM.sub, AM.look_cons, AM.look_nil, V.uses, V.usesL, V.uses_data, da_i, da_chV, da_ruV, da_prV, da_enV, da_cfV, da_veV, da_inV, da_edV, da_grV, da_weV, da_mbV, da_suV, da_viV]))
  rintro i ⟨h1, h2⟩ ih
  repeat' (first | refine yw ?_ | ((with_reducible refine Runs.is ?_); first | refine Runs.region ?_ | ((with_reducible refine Runs.isC ?_); refine Runs.cond rfl (zc ?_) (zc ?_) <;> intro hc <;> (try (first | contradiction | (exfalso; omega; done) | (have : hc = trivial := rfl; clear this; clear hc))))) | ((with_reducible refine r_is ?_); first | refine yr ?_) | fail)
  · (refine Runs.ret1 Try.func48 rfl zM zD ?_; try exact zX)
    refine V.Le.of_eq (congrArg V.i ?_)
    rw [← h2, orI_drop zo, if_neg (by assumption)]
  · refine ih (i + 1) _ ⟨by omega, ?_⟩ zo (by (refine St.Le.clean zR (by simp [V.usesL, V.uses, AM.look_cons, AM.look_nil, V.uses_data, da_i, da_chV, da_ruV, da_prV, da_enV, da_cfV, da_veV, da_inV, da_edV, da_grV, da_weV, da_mbV, da_suV, da_viV]) (by simp [AM.sub, AM.look_cons, AM.look_nil, V.uses, V.usesL, V.uses_data, da_i, da_chV, da_ruV, da_prV, da_enV, da_cfV, da_veV, da_inV, da_edV, da_grV, da_weV, da_mbV, da_suV, da_viV])))
    rw [← h2, orI_drop (i := i) zo, if_pos (by assumption)]
  · (refine Runs.ret1 Try.func48 rfl zM zD ?_; try exact zX)
    rw [List.drop_eq_nil_of_le zo] at h2; rw [← h2]; exact V.Le.refl _
end Go.Proofs
namespace Go.Proofs
open Go.AM
attribute [local irreducible] AM.evalR AM.evalD AM.Runs AM.valK AM.dK AM.opK AM.stepR AM.CallS AM.St.Le
@[reducible] def u8 (n : Int) : V := .sc (.int .u8 n)
@[reducible] def u64 (n : Int) : V := .sc (.int .u64 n)
@[reducible] def byV (l : List Int) : V := .sl false (l.map u8)
theorem da_u8 (x : Int) : (u8 x).data = true := rfl
theorem st_u8 (xs : List Int) : Storable (xs.map u8) := Storable_map _ _ fun _ => rfl
theorem sd_u8 (xs : List Int) : Stride 1 (xs.map u8) := Stride_map _ _ fun _ => rfl
theorem dl_u8 (xs : List Int) : V.dataL (xs.map u8) = true := dataL_map _ _ fun _ => rfl
attribute [go_sem] da_u8 st_u8 sd_u8 dl_u8
def Bytes (b : List Int) : Prop := ∀ c ∈ b, 0 ≤ c ∧ c < 256
theorem Bytes.at {b : List Int} (h : Bytes b) {i : Nat} (hi : i < b.length) : 0 ≤ b.getD i default ∧ b.getD i default < 256 := h _ (by rw [List.getD_eq_getElem?_getD, List.getElem?_eq_getElem hi]; exact List.getElem_mem hi)
theorem Bytes.drop {b : List Int} (h : Bytes b) (n : Nat) : Bytes (b.drop n) := fun c hc => h c (List.mem_of_mem_drop hc)
theorem and8_fin : ∀ c : Fin 256, andNotZ .u8 (c.val : Int) 128 = ((c.val : Int) % 128) := by decide +kernel
theorem or8_fin : ∀ c : Fin 256, orZ .u8 (c.val : Int) 128 = ((c.val : Int) % 128 + 128) := by decide +kernel
theorem and8 {c : Int} (h : 0 ≤ c ∧ c < 256) : andNotZ .u8 c 128 = c % 128 := by
  have := and8_fin ⟨c.toNat, by omega⟩
  rw [show ((⟨c.toNat, by omega⟩ : Fin 256).val : Int) = c from by show ((c.toNat : Nat) : Int) = c; omega] at this
  exact this
theorem or8 {c : Int} (h : 0 ≤ c ∧ c < 256) : orZ .u8 c 128 = c % 128 + 128 := by
  have := or8_fin ⟨c.toNat, by omega⟩
  rw [show ((⟨c.toNat, by omega⟩ : Fin 256).val : Int) = c from by show ((c.toNat : Nat) : Int) = c; omega] at this
  exact this
def orS (v c : Int) (i : Nat) : Int := orZ .u64 v (IntKind.u64.wrap (c % 128 * 2 ^ (min (7 * (i : Int)).toNat IntKind.u64.bits)))
theorem wrap64_mod (x : Int) : IntKind.u64.wrap x = x % 18446744073709551616 := by
  show (if (false && decide (x % 2 ^ 64 ≥ 2 ^ (64 - 1))) = true then x % 2 ^ 64 - 2 ^ 64 else x % 2 ^ 64) = _
  rw [Bool.false_and, if_neg zd]; rfl
theorem wrap8_mod (x : Int) : IntKind.u8.wrap x = x % 256 := by
  show (if (false && decide (x % 2 ^ 8 ≥ 2 ^ (8 - 1))) = true then x % 2 ^ 8 - 2 ^ 8 else x % 2 ^ 8) = _
  rw [Bool.false_and, if_neg zd]; rfl
theorem wrap64 {x : Int} (h : 0 ≤ x ∧ x ≤ 18446744073709551615) : IntKind.u64.wrap x = x := by rw [wrap64_mod]; omega
theorem orS_eq {v c : Int} {i : Nat} (h : 0 ≤ c ∧ c < 256) : orZ .u64 v (IntKind.u64.wrap (andNotZ .u8 c 128 * 2 ^ min (7 * (i : Int)).toNat 64)) = orS v c i := by
  unfold orS
  rw [and8 h]; rfl
theorem orS_eq2 {v c : Int} {i : Nat} : orZ .u64 v (IntKind.u64.wrap (c % 128 * 2 ^ min (7 * (i : Int)).toNat 64)) = orS v c i := rfl
def uintF (b : List Int) : Nat → Int → Nat → Int × Int × Int
  | 0, _, _ => (0, 0, 9)
  | n + 1, v, i => if i = b.length then (0, 0, 1) else if i = 9 ∧ 1 < b.getD i default then (0, 0, 9) else
      if 128 ≤ b.getD i default then uintF b n (orS v (b.getD i default) i) (i + 1) else if b.getD i default = 0 ∧ 0 < i then (0, 0, 2) else (orS v (b.getD i default) i, (i : Int) + 1, 0)
def uintE (b : List Int) : Int × Int × Int := uintF b 10 0 0
@[reducible] def uiV (r : Int × Int × Int) : V := .tup [u64 r.1, .i r.2.1, .i r.2.2]
theorem wire_Uint (f : Bool) (b : List Int) (hB : Bytes b) : AM.Fn Try.prog 20 [.sl f (b.map u8)] (uiV (uintE b)) := by
  have hgo : ∀ r, uintE b = r → AM.Fn Try.prog 20 [.sl f (b.map u8)] (uiV r) := by
    intro r hr
    unfold uintE at hr
    (refine spec_of_runs Try.func20 rfl ?_; simp only [Try.f20]; refine ys ?_)
    (refine Runs.lens 0 ?_; refine yl ?_)
    intro hl
    repeat' (first | refine yw ?_ | ((with_reducible refine Runs.is ?_); first | refine Runs.region (id := 0) ?_ | refine Runs.region (id := 1) ?_ | ((with_reducible refine Runs.isC ?_); refine Runs.cond rfl (zc ?_) (zc ?_) <;> intro hc <;> (try (first | contradiction | (exfalso; omega; done) | (have : hc = trivial := rfl; clear this; clear hc))))) | ((with_reducible refine r_is ?_); first | refine yr ?_) | fail)
    refine Runs.atI (α := Int × Nat) (fun a => 10 - a.2) (fun a => a.2 ≤ b.length ∧ a.2 ≤ 9 ∧ uintF b (10 - a.2) a.1 a.2 = r)
      (fun a => ⟨[.sl f (b.map u8), .any, .any, .any, .any, u64 a.1, .i (a.2 : Nat), .any, .any, .any, .any, .any, .any, .any, .any, .any, .any, .any, .any, .any, .any, .any, .any, .any, .any, .any, .any, .any, .any, .any, .any, .any, .any, .any, .any, .any, .any, .any, .any, .any, .any, .any], []⟩) (0, 0) ⟨Nat.zero_le _, by decide, hr⟩ ?_ ?_
    · (refine St.Le.clean zR zU zV)
    rintro ⟨v, i⟩ ⟨h0, h1, h2⟩ ih
    dsimp only at h0 h1 h2 ih ⊢
    rw [show 10 - i = (9 - i) + 1 by omega, uintF] at h2
    by_cases hb : i = b.length
    · rw [if_pos hb] at h2
      subst h2
      repeat' (first | refine yw ?_ | ((with_reducible refine Runs.is ?_); first | refine Runs.region (id := 2) ?_ | refine Runs.region (id := 3) ?_ | ((with_reducible refine Runs.isC ?_); refine Runs.cond rfl (zc ?_) (zc ?_) <;> intro hc <;> (try (first | contradiction | (exfalso; omega; done) | (have : hc = trivial := rfl; clear this; clear hc))))) | ((with_reducible refine r_is ?_); first | refine yr ?_) | fail)
      (refine Runs.ret3 Try.func20 rfl zM zM zM zD ?_; try exact zX)
    rw [if_neg hb] at h2
    have hc8 := hB.at (show i < b.length by omega)
    have e8 := and8 hc8
    repeat' (first | refine yw ?_ | ((with_reducible refine Runs.is ?_); first | refine Runs.region (id := 2) ?_ | refine Runs.region (id := 3) ?_ | refine Runs.region (id := 4) ?_ | refine Runs.region (id := 5) ?_ | refine Runs.region (id := 6) ?_ | refine Runs.region (id := 7) ?_ | refine Runs.region (id := 8) ?_ | refine Runs.region (id := 9) ?_ | refine Runs.region (id := 10) ?_ | refine Runs.region (id := 11) ?_ | refine Runs.region (id := 12) ?_ | ((with_reducible refine Runs.isC ?_); refine Runs.cond rfl (zc ?_) (zc ?_) <;> intro hc <;> (try (first | contradiction | (exfalso; omega; done) | (have : hc = trivial := rfl; clear this; clear hc))))) | ((with_reducible refine r_is ?_); first | refine yr ?_ | ((with_reducible refine r_gd ?_); (first | refine r_guardPt rfl rfl ?_ ?_ | refine r_guardNt rfl rfl ?_ ?_ | refine r_guard rfl rfl ?_ ?_) <;> intro hG <;> (try (exfalso; omega; done)) <;> refine r_nn zN zH ?_)) | fail)
    all_goals first
      | (rw [if_pos zo] at h2; subst h2; (refine Runs.ret3 Try.func20 rfl zM zM zM zD ?_; try exact zX); done)
      | (rw [if_neg zo, if_neg zo, if_pos zo] at h2; subst h2; (refine Runs.ret3 Try.func20 rfl zM zM zM zD ?_; try exact zX); done)
      | skip
    all_goals rw [orS_eq hc8]
    all_goals first
      | (rw [if_neg zo, if_neg zo, if_neg zo] at h2
         subst h2
         (refine Runs.ret3 Try.func20 rfl zM zM zM zD ?_; try exact zX)
         done)
      | skip
    refine Runs.goto rfl (Runs.seq (Runs.skip (Runs.seq (Runs.seq ?_))))
    rw [if_neg zo, if_pos zo] at h2
    refine ih (orS v (b.getD i default) i, i + 1) _ ⟨by dsimp only; omega, by dsimp only; omega, by dsimp only; rw [show 10 - (i + 1) = 9 - i by omega]; exact h2⟩ (by dsimp only; omega) ?_
    (refine St.Le.clean zR zU zV)
  exact hgo _ rfl
theorem ref_Uint (f : Bool) (b : List Int) (hB : Bytes b) : AM.Fn Try.prog 40 [.sl f (b.map u8)] (uiV (uintE b)) := by
  have hgo : ∀ r, uintE b = r → AM.Fn Try.prog 40 [.sl f (b.map u8)] (uiV r) := by
    intro r hr
    unfold uintE at hr
    (refine spec_of_runs Try.func40 rfl ?_; simp only [Try.f40]; refine ys ?_)
    (refine Runs.lens 0 ?_; refine yl ?_)
    intro hl
    repeat' (first | refine yw ?_ | ((with_reducible refine Runs.is ?_); first | refine Runs.region (id := 0) ?_ | refine Runs.region (id := 1) ?_ | refine Runs.region (id := 2) ?_ | ((with_reducible refine Runs.isC ?_); refine Runs.cond rfl (zc ?_) (zc ?_) <;> intro hc <;> (try (first | contradiction | (exfalso; omega; done) | (have : hc = trivial := rfl; clear this; clear hc))))) | ((with_reducible refine r_is ?_); first | refine yr ?_) | fail)
    refine Runs.loopI (α := Int × Nat) (fun a => 10 - a.2) (fun a => a.2 ≤ b.length ∧ a.2 ≤ 10 ∧ uintF b (10 - a.2) a.1 a.2 = r)
      (fun a => ⟨[.sl f (b.map u8), .any, .any, .any, .any, u64 a.1, .i (a.2 : Nat), .any, .any, .any, .any, .any, .any, .any, .any, .any, .any, .any, .any, .any, .any, .any, .any, .any, .any, .any, .any, .any, .any, .any, .any, .any, .any, .any, .any, .any, .any, .any, .any, .any, .any, .any, .any, .any, .any, .any, .any, .any, .any, .any, .any, .any, .any], []⟩) (0, 0) ⟨Nat.zero_le _, by decide, hr⟩ ?_ ?_
    · (refine St.Le.clean zR zU zV)
    rintro ⟨v, i⟩ ⟨h0, h1, h2⟩ ih
    dsimp only at h0 h1 h2 ih ⊢
    by_cases h10 : i = 10
    · subst h10
      rw [show 10 - 10 = 0 from rfl, uintF] at h2
      subst h2
      repeat' (first | refine yw ?_ | ((with_reducible refine Runs.is ?_); first | refine Runs.region (id := 3) ?_ | ((with_reducible refine Runs.isC ?_); refine Runs.cond rfl (zc ?_) (zc ?_) <;> intro hc <;> (try (first | contradiction | (exfalso; omega; done) | (have : hc = trivial := rfl; clear this; clear hc))))) | ((with_reducible refine r_is ?_); first | refine yr ?_) | fail)
      repeat' (first | refine yw ?_ | ((with_reducible refine Runs.is ?_); first | refine Runs.region (id := 14) ?_ | ((with_reducible refine Runs.isC ?_); refine Runs.cond rfl (zc ?_) (zc ?_) <;> intro hc <;> (try (first | contradiction | (exfalso; omega; done) | (have : hc = trivial := rfl; clear this; clear hc))))) | ((with_reducible refine r_is ?_); first | refine yr ?_) | fail)
      (refine Runs.ret3 Try.func40 rfl zM zM zM zD ?_; try exact zX)
    rw [show 10 - i = (9 - i) + 1 by omega, uintF] at h2
    by_cases hb : i = b.length
    · rw [if_pos hb] at h2
      subst h2
      repeat' (first | refine yw ?_ | ((with_reducible refine Runs.is ?_); first | refine Runs.region (id := 3) ?_ | refine Runs.region (id := 5) ?_ | refine Runs.region (id := 6) ?_ | refine Runs.region (id := 4) ?_ | ((with_reducible refine Runs.isC ?_); refine Runs.cond rfl (zc ?_) (zc ?_) <;> intro hc <;> (try (first | contradiction | (exfalso; omega; done) | (have : hc = trivial := rfl; clear this; clear hc))))) | ((with_reducible refine r_is ?_); first | refine yr ?_) | fail)
      (refine Runs.ret3 Try.func40 rfl zM zM zM zD ?_; try exact zX)
    rw [if_neg hb] at h2
    have hc8 := hB.at (show i < b.length by omega)
    repeat' (first | refine yw ?_ | ((with_reducible refine Runs.is ?_); first | refine Runs.region (id := 3) ?_ | refine Runs.region (id := 5) ?_ | refine Runs.region (id := 6) ?_ | refine Runs.region (id := 7) ?_ | refine Runs.region (id := 8) ?_ | refine Runs.region (id := 9) ?_ | refine Runs.region (id := 10) ?_ | refine Runs.region (id := 11) ?_ | refine Runs.region (id := 12) ?_ | refine Runs.region (id := 13) ?_ | refine Runs.region (id := 4) ?_ | ((with_reducible refine Runs.isC ?_); refine Runs.cond rfl (zc ?_) (zc ?_) <;> intro hc <;> (try (first | contradiction | (exfalso; omega; done) | (have : hc = trivial := rfl; clear this; clear hc))))) | ((with_reducible refine r_is ?_); first | refine yr ?_ | ((with_reducible refine r_gd ?_); (first | refine r_guardPt rfl rfl ?_ ?_ | refine r_guardNt rfl rfl ?_ ?_ | refine r_guard rfl rfl ?_ ?_) <;> intro hG <;> (try (exfalso; omega; done)) <;> refine r_nn zN zH ?_)) | fail)
    all_goals first
      | (rw [if_pos zo] at h2; subst h2; (refine Runs.ret3 Try.func40 rfl zM zM zM zD ?_; try exact zX); done)
      | (rw [if_neg zo, if_neg zo, if_pos zo] at h2; subst h2; (refine Runs.ret3 Try.func40 rfl zM zM zM zD ?_; try exact zX); done)
      | skip
    all_goals rw [orS_eq2]
    all_goals first
      | (rw [if_neg zo, if_neg zo, if_neg zo] at h2
         subst h2
         (refine Runs.ret3 Try.func40 rfl zM zM zM zD ?_; try exact zX)
         done)
      | (rw [if_neg zo, if_pos zo] at h2
         repeat' (first | refine yw ?_ | ((with_reducible refine Runs.is ?_); first | refine Runs.region (id := 4) ?_ | ((with_reducible refine Runs.isC ?_); refine Runs.cond rfl (zc ?_) (zc ?_) <;> intro hc <;> (try (first | contradiction | (exfalso; omega; done) | (have : hc = trivial := rfl; clear this; clear hc))))) | ((with_reducible refine r_is ?_); first | refine yr ?_) | fail)
         refine ih (orS v (b.getD i default) i, i + 1) _ ⟨by dsimp only; omega, by dsimp only; omega, by dsimp only; rw [show 10 - (i + 1) = 9 - i by omega]; exact h2⟩ (by dsimp only; omega) ?_
         (refine St.Le.clean zR zU zV)
         done)
      | trace_state
  exact hgo _ rfl
end Go.Proofs
namespace Go.Proofs
open Go.AM
attribute [local irreducible] AM.evalR AM.evalD AM.Runs AM.valK AM.dK AM.opK AM.stepR AM.CallS AM.St.Le
abbrev tU8 : Nat := 5
def encF : Nat → Int → List Int
  | 0, v => [v]
  | n + 1, v => if 128 ≤ v then (v % 128 + 128) :: encF n (v / 128) else [v]
def encU (v : Int) : List Int := encF 9 v
theorem encF_pos : ∀ (n : Nat) (v : Int), 0 < (encF n v).length
  | 0, _ => Nat.one_pos
  | n + 1, v => by rw [encF]; split <;> simp
theorem encF_len : ∀ (n : Nat) (v : Int), (encF n v).length ≤ n + 1
  | 0, _ => Nat.le_refl _
  | n + 1, v => by
    rw [encF]; split
    · have := encF_len n (v / 128); rw [List.length_cons]; omega
    · simp
theorem encF_bytes : ∀ (n : Nat) (v : Int), 0 ≤ v → v < 128 * 128 ^ n → Bytes (encF n v)
  | 0, v, h, h2 => by
    intro c hc
    have : c = v := by simpa [encF] using hc
    omega
  | n + 1, v, h, h2 => by
    rw [encF]; split
    · rename_i h0
      intro c hc
      rcases List.mem_cons.1 hc with rfl | hc
      · omega
      · exact encF_bytes n (v / 128) zo (by rw [Int.pow_succ] at h2; omega) c hc
    · intro c hc
      have : c = v := by simpa using hc
      omega
theorem wire_AppendUint (f : Bool) (b : List Int) (v : Int) (hv : 0 ≤ v ∧ v < 18446744073709551616) (hb : b.length ≤ 1099511627776) : AM.Fn Try.prog 24 [.sl f (b.map u8), u64 v] (byV (b ++ encU v)) := by
  have hgo : ∀ r, encU v = r → AM.Fn Try.prog 24 [.sl f (b.map u8), u64 v] (byV (b ++ r)) := by
    intro r hr
    unfold encU at hr
    (refine spec_of_runs Try.func24 rfl ?_; simp only [Try.f24]; refine ys ?_)
    repeat' (first | refine yw ?_ | ((with_reducible refine Runs.is ?_); first | refine Runs.region (id := 0) ?_ | refine Runs.region (id := 1) ?_ | ((with_reducible refine Runs.isC ?_); refine Runs.cond rfl (zc ?_) (zc ?_) <;> intro hc <;> (try (first | contradiction | (exfalso; omega; done) | (have : hc = trivial := rfl; clear this; clear hc))))) | ((with_reducible refine r_is ?_); first | refine yr ?_) | fail)
    (refine Runs.weaken (St.Le.nil 5 5 1 5 zd rfl rfl zE) ?_)
    refine Runs.loopI (α := Int × List Int) (fun a => a.1.toNat) (fun a => (0 ≤ a.1 ∧ a.1 < 18446744073709551616) ∧ a.2.length ≤ 9 ∧ a.1 < 128 * 128 ^ (9 - a.2.length) ∧ a.2 ++ encF (9 - a.2.length) a.1 = r)
      (fun a => ⟨[.sl f (b.map u8), u64 a.1, .any, .any, .any, .own 5, .any, .any, .any, .any, .any, .any, .any, .any, .any, .any, .any, .any, .any, .any, .any, .any, .any, .any, .any, .any, .any, .any, .any], [(5, .lst tU8 1 (a.2.map u8))]⟩) (v, []) ⟨hv, Nat.zero_le _, by dsimp only [List.length_nil]; omega, hr⟩ ?_ ?_
    · (refine St.Le.clean zR zU zV)
    rintro ⟨w, acc⟩ ⟨h0, h1, h2, h3⟩ ih
    dsimp only at h0 h1 h2 h3 ih ⊢
    by_cases hc8 : 128 ≤ w
    · repeat' (first | refine yw ?_ | ((with_reducible refine Runs.is ?_); first | refine Runs.region (id := 2) ?_ | refine Runs.region (id := 3) ?_ | refine Runs.region (id := 4) ?_ | ((with_reducible refine Runs.isC ?_); refine Runs.cond rfl (zc ?_) (zc ?_) <;> intro hc <;> (try (first | contradiction | (exfalso; omega; done) | (have : hc = trivial := rfl; clear this; clear hc))))) | ((with_reducible refine r_is ?_); first | refine yr ?_ | (refine r_append_full SlF.h SlF.s ZoF.h zd rfl rfl zC zJ zS rfl (fun hn => ?_) (fun hn => ?_) <;> refine r_nn zN zH ?_)) | fail)
      simp only [List.map_cons, List.map_nil, ev, List.getD_cons_succ, List.getD_cons_zero]
      have e1 : w.fdiv (2 ^ min 7 64) = w / 128 := Int.fdiv_eq_ediv_of_nonneg w zd
      have e2 : orZ IntKind.u8 (IntKind.u8.wrap w) 128 = w % 128 + 128 := by
        rw [wrap8_mod, or8 zo]; omega
      rw [e1, e2]
      obtain ⟨n, hn⟩ : ∃ n, 9 - acc.length = n + 1 := by
        rcases Nat.lt_or_ge acc.length 9 with q | q
        · exact ⟨8 - acc.length, by omega⟩
        · rw [show 9 - acc.length = 0 by omega] at h2; omega
      rw [hn, encF, if_pos hc8] at h3
      rw [hn, Int.pow_succ] at h2
      refine ih (w / 128, acc ++ [w % 128 + 128]) _ ⟨by dsimp only; omega, by dsimp only; rw [List.length_append, List.length_singleton]; omega, by dsimp only; rw [List.length_append, List.length_singleton, show 9 - (acc.length + 1) = n by omega]; omega, by dsimp only; rw [List.length_append, List.length_singleton, show 9 - (acc.length + 1) = n by omega, List.append_assoc]; exact h3⟩ (by dsimp only; omega) ?_
      (refine St.Le.clean zR (by first | (simp [V.usesL, V.uses, AM.look_cons]; done) | (simp [V.usesL, V.uses, AM.look_cons, V.usesL_data, V.uses_data, da_i, da_chV, da_ruV, da_prV, da_enV, da_cfV, da_veV, da_inV, da_edV, da_grV, da_weV, da_mbV, da_suV, da_viV]; done)) ?_; (repeat' (first | exact True.intro | refine And.intro ?_ ?_)); all_goals (first | rfl | (simp [AM.look_cons, List.map_append]; done) | (simp [V.uses, V.usesL, AM.look_cons, V.usesL_data, V.uses_data, da_i, da_chV, da_ruV, da_prV, da_enV, da_cfV, da_veV, da_inV, da_edV, da_grV, da_weV, da_mbV, da_suV, da_viV]; done)))
    · repeat' (first | refine yw ?_ | ((with_reducible refine Runs.is ?_); first | refine Runs.region (id := 2) ?_ | refine Runs.region (id := 3) ?_ | refine Runs.region (id := 4) ?_ | refine Runs.region (id := 5) ?_ | ((with_reducible refine Runs.isC ?_); refine Runs.cond rfl (zc ?_) (zc ?_) <;> intro hc <;> (try (first | contradiction | (exfalso; omega; done) | (have : hc = trivial := rfl; clear this; clear hc))))) | ((with_reducible refine r_is ?_); first | refine yr ?_ | (refine r_append_full SlF.h SlF.s ZoF.h zd rfl rfl zC zJ zS rfl (fun hn => ?_) (fun hn => ?_) <;> refine r_nn zN zH ?_)) | fail)
      simp only [List.map_cons, List.map_nil, ev, List.getD_cons_succ, List.getD_cons_zero]
      have e2 : IntKind.u8.wrap w = w := by rw [wrap8_mod]; omega
      rw [e2]
      have h4 : acc ++ [w] = r := by
        rw [← h3]
        cases 9 - acc.length with
        | zero => rfl
        | succ n => rw [encF, if_neg hc8]
      rw [show acc.map u8 ++ [u8 w] = (acc ++ [w]).map u8 by rw [List.map_append]; rfl, h4]
      (refine Runs.weaken (St.Le.freeze_lst 5 rfl) ?_; refine yf ?_)
      repeat' (first | refine yw ?_ | ((with_reducible refine Runs.is ?_); first | refine Runs.region (id := 6) ?_ | ((with_reducible refine Runs.isC ?_); refine Runs.cond rfl (zc ?_) (zc ?_) <;> intro hc <;> (try (first | contradiction | (exfalso; omega; done) | (have : hc = trivial := rfl; clear this; clear hc))))) | ((with_reducible refine r_is ?_); first | refine yr ?_ | (refine r_append_full SlF.h SlF.s ZoF.h zd rfl rfl zC zJ zS rfl (fun hn => ?_) (fun hn => ?_) <;> refine r_nn zN zH ?_)) | fail)
      have hrl : r.length = acc.length + 1 := by rw [← h4, List.length_append, List.length_singleton]
      refine r_append_full SlF.h SlF.s ZoF.h zd rfl rfl ⟨st_u8 _, sd_u8 _⟩ (sd_u8 _) ⟨by rw [List.length_map, List.length_map]; omega, by rw [List.length_map, List.length_map]; omega⟩ rfl (fun e => absurd (congrArg List.length e) (by rw [List.length_map, hrl]; exact Nat.succ_ne_zero _)) (fun _ => ?_)
      refine r_n zN ?_
      rw [← List.map_append]
      repeat' (first | refine yw ?_ | ((with_reducible refine Runs.is ?_); first | refine Runs.region (id := 6) ?_ | ((with_reducible refine Runs.isC ?_); refine Runs.cond rfl (zc ?_) (zc ?_) <;> intro hc <;> (try (first | contradiction | (exfalso; omega; done) | (have : hc = trivial := rfl; clear this; clear hc))))) | ((with_reducible refine r_is ?_); first | refine yr ?_ | (refine r_append_full SlF.h SlF.s ZoF.h zd rfl rfl zC zJ zS rfl (fun hn => ?_) (fun hn => ?_) <;> refine r_nn zN zH ?_)) | fail)
      (refine Runs.weaken (St.Le.freeze_lst 28 rfl) ?_; refine yf ?_)
      (refine Runs.ret1 Try.func24 rfl zM zD ?_; try exact zX)
  exact hgo _ rfl
end Go.Proofs
namespace Go.Proofs
open Go.AM
attribute [local irreducible] AM.evalR AM.evalD AM.Runs AM.valK AM.dK AM.opK AM.stepR AM.CallS AM.St.Le
abbrev tInt : Nat := 3
abbrev tGen : Nat := 26
def numsP (ms : List Member) (i : Nat) : List Int := (ms.length : Int) :: (ms.take i).flatMap fun x => [x.server, x.weight]
def numsG (g : View) : List Int := numsP g.members g.members.length ++ [g.rule.kind, g.rule.columns, g.rule.faulty]
def encL (l : List Int) : List Int := l.flatMap fun n => encU (n % 18446744073709551616)
theorem numsP_succ {ms : List Member} {i : Nat} (h : i < ms.length) : numsP ms i ++ [(ms.getD i default).server, (ms.getD i default).weight] = numsP ms (i + 1) := by
  unfold numsP
  rw [List.take_add_one, List.flatMap_append, List.getD_eq_getElem?_getD, List.getElem?_eq_getElem h]
  simp
theorem flat2_len (l : List Member) : (l.flatMap fun x => [x.server, x.weight]).length = 2 * l.length := by
  induction l with
  | nil => rfl
  | cons a l ih => rw [List.flatMap_cons, List.length_append, ih, List.length_cons]; simp; omega
theorem numsP_len (ms : List Member) (i : Nat) (h : i ≤ ms.length) : (numsP ms i).length = 2 * i + 1 := by
  unfold numsP
  rw [List.length_cons, flat2_len, List.length_take]; omega
theorem encL_len (l : List Int) : (encL l).length ≤ 10 * l.length := by
  induction l with
  | nil => exact Nat.le_refl _
  | cons a l ih =>
    unfold encL at ih ⊢
    rw [List.flatMap_cons, List.length_append, List.length_cons]
    have := encF_len 9 (a % 18446744073709551616)
    dsimp only [encU] at ih ⊢
    omega
theorem encL_succ {l : List Int} {i : Nat} (h : i < l.length) : encL (l.take i) ++ encU (l.getD i default % 18446744073709551616) = encL (l.take (i + 1)) := by
  unfold encL
  rw [List.take_add_one, List.flatMap_append, List.getD_eq_getElem?_getD, List.getElem?_eq_getElem h]
  simp
theorem member_AppendGenesis (f : Bool) (b : List Int) (g : View) (hb : b.length ≤ 1000000000) (hm : g.members.length ≤ 1000000000) : AM.Fn Try.prog 9 [.sl f (b.map u8), viV g] (byV (b ++ encL (numsG g))) := by
  obtain ⟨ms, ru⟩ := g
  dsimp only at hm
  (refine spec_of_runs Try.func9 rfl ?_; simp only [Try.f9]; refine ys ?_)
  repeat' (first | refine yw ?_ | ((with_reducible refine Runs.is ?_); first | refine Runs.region (id := 0) ?_ | ((with_reducible refine Runs.isC ?_); refine Runs.cond rfl (zc ?_) (zc ?_) <;> intro hc <;> (try (first | contradiction | (exfalso; omega; done) | (have : hc = trivial := rfl; clear this; clear hc))))) | ((with_reducible refine r_is ?_); first | refine yr ?_) | fail)
  refine Runs.region (id := 1) ?_
  refine r_v rfl (v_fieldAddr_ptr FlF.h rfl ?_); refine r_n zN ?_
  refine r_v rfl (v_load_part TyF.h rfl rfl zE zd ?_); refine r_n zN ?_
  refine r_v rfl (v_len_map SlF.s rfl ?_); refine r_n zN ?_
  refine r_buildOwn SlF.h ZoF.h zd zB zd rfl ?_; refine r_n zN ?_
  repeat' (first | refine yw ?_ | ((with_reducible refine Runs.is ?_); first | refine Runs.region (id := 1) ?_ | refine Runs.region (id := 2) ?_ | ((with_reducible refine Runs.isC ?_); refine Runs.cond rfl (zc ?_) (zc ?_) <;> intro hc <;> (try (first | contradiction | (exfalso; omega; done) | (have : hc = trivial := rfl; clear this; clear hc))))) | ((with_reducible refine r_is ?_); first | refine yr ?_) | fail)
  refine Runs.loopI (fun i : Nat => ms.length - i) (fun i => i ≤ ms.length)
    (fun i => ⟨[.sl f (b.map u8), .any, .any, .ptr 3 0 0, .any, .own 14, .any, .any, .any, .any, .any, .any, .any, .any, .any, .any, .sl false (ms.map mbV), .i (ms.length : Nat), .i (i : Nat), .any, .any, .any, .any, .any, .any, .any, .any, .any, .any, .any, .any, .any, .any, .any, .any, .any, .any, .any, .any, .any, .any, .any, .any, .any, .any, .any, .any, .any, .any, .any, .any, .any, .any, .any, .any, .any, .any, .any, .any, .any], [(14, .lst tInt 1 ((numsP ms i).map .i)), (3, .var tGen (viV ⟨ms, ru⟩))]⟩) 0 (Nat.zero_le _) ?_ ?_
  · (refine St.Le.clean zR zU zV)
  · intro i hi ih
    dsimp only at hi ih ⊢
    by_cases hlt : i < ms.length
    · have hlen := numsP_len ms i hi
      repeat' (first | refine yw ?_ | ((with_reducible refine Runs.is ?_); first | refine Runs.region (id := 3) ?_ | refine Runs.region (id := 4) ?_ | ((with_reducible refine Runs.isC ?_); refine Runs.cond rfl (zc ?_) (zc ?_) <;> intro hc <;> (try (first | contradiction | (exfalso; omega; done) | (have : hc = trivial := rfl; clear this; clear hc))))) | ((with_reducible refine r_is ?_); first | refine yr ?_) | fail)
      repeat' (first | refine yw ?_ | ((with_reducible refine Runs.is ?_); first | refine Runs.region (id := 5) ?_ | ((with_reducible refine Runs.isC ?_); refine Runs.cond rfl (zc ?_) (zc ?_) <;> intro hc <;> (try (first | contradiction | (exfalso; omega; done) | (have : hc = trivial := rfl; clear this; clear hc))))) | ((with_reducible refine r_is ?_); first | refine yr ?_ | (refine r_append_full SlF.h SlF.s ZoF.h zd rfl rfl zC zJ zS rfl (fun hn => ?_) (fun hn => ?_) <;> refine r_nn zN zH ?_)) | fail)
      simp only [List.map_cons, List.map_nil, ev, List.getD_cons_succ, List.getD_cons_zero]
      rw [show (numsP ms i).map V.i ++ [V.i (ms.getD i default).server, V.i (ms.getD i default).weight] = (numsP ms (i + 1)).map V.i by rw [← numsP_succ hlt, List.map_append]; rfl]
      repeat' (first | refine yw ?_ | ((with_reducible refine Runs.is ?_); first | refine Runs.region (id := 6) ?_ | ((with_reducible refine Runs.isC ?_); refine Runs.cond rfl (zc ?_) (zc ?_) <;> intro hc <;> (try (first | contradiction | (exfalso; omega; done) | (have : hc = trivial := rfl; clear this; clear hc))))) | ((with_reducible refine r_is ?_); first | refine yr ?_) | fail)
      refine ih (i + 1) _ zo zo ?_
      (refine St.Le.clean zR zU zV)
    · have hi' : i = ms.length := by omega
      subst hi'
      have hlen := numsP_len ms ms.length (Nat.le_refl _)
      repeat' (first | refine yw ?_ | ((with_reducible refine Runs.is ?_); first | refine Runs.region (id := 3) ?_ | ((with_reducible refine Runs.isC ?_); refine Runs.cond rfl (zc ?_) (zc ?_) <;> intro hc <;> (try (first | contradiction | (exfalso; omega; done) | (have : hc = trivial := rfl; clear this; clear hc))))) | ((with_reducible refine r_is ?_); first | refine yr ?_) | fail)
      repeat' (first | refine yw ?_ | ((with_reducible refine Runs.is ?_); first | refine Runs.region (id := 7) ?_ | refine Runs.region (id := 8) ?_ | ((with_reducible refine Runs.isC ?_); refine Runs.cond rfl (zc ?_) (zc ?_) <;> intro hc <;> (try (first | contradiction | (exfalso; omega; done) | (have : hc = trivial := rfl; clear this; clear hc))))) | ((with_reducible refine r_is ?_); first | refine yr ?_ | (refine r_append_full SlF.h SlF.s ZoF.h zd rfl rfl zC zJ zS rfl (fun hn => ?_) (fun hn => ?_) <;> refine r_nn zN zH ?_)) | fail)
      simp only [List.map_cons, List.map_nil, ev, List.getD_cons_succ, List.getD_cons_zero]
      rw [show (numsP ms ms.length).map V.i ++ [V.i ru.kind, V.i ru.columns, V.i ru.faulty] = (numsG ⟨ms, ru⟩).map V.i by unfold numsG; rw [List.map_append]; rfl]
      have hgl : (numsG ⟨ms, ru⟩).length = 2 * ms.length + 4 := by unfold numsG; rw [List.length_append, hlen]; rfl
      generalize numsG ⟨ms, ru⟩ = l at hgl ⊢
      (refine Runs.weaken (St.Le.freeze_lst 14 rfl) ?_; refine yf ?_)
      rw [List.length_map]
      refine Runs.loopI (fun i : Nat => l.length - i) (fun i => i ≤ l.length)
        (fun i => ⟨[.sl f (b.map u8), .any, .any, .any, .any, .any, .any, .any, .sl false ((encL (l.take i)).map u8), .any, .any, .any, .any, .any, .any, .any, .any, .any, .any, .any, .any, .any, .any, .any, .any, .any, .any, .any, .any, .any, .any, .any, .any, .any, .any, .any, .any, .any, .any, .any, .any, .sl false (l.map .i), .i (l.length : Nat), .i (i : Nat), .any, .any, .any, .any, .any, .any, .any, .any, .any, .any, .any, .any, .any, .any, .any, .any], []⟩) 0 (Nat.zero_le _) ?_ ?_
      · (refine St.Le.clean zR zU zV)
      intro i hi2 ih
      dsimp only at hi2 ih ⊢
      by_cases hlt2 : i < l.length
      · have hel := encL_len (l.take i)
        rw [List.length_take] at hel
        have hA := wire_AppendUint false (encL (l.take i)) (IntKind.u64.wrap (l.getD i default)) (by rw [wrap64_mod]; omega) zo
        have hS : encL (l.take i) ++ encU (IntKind.u64.wrap (l.getD i default)) = encL (l.take (i + 1)) := by rw [wrap64_mod]; exact encL_succ hlt2
        rw [hS] at hA
        repeat' (first | refine yw ?_ | ((with_reducible refine Runs.is ?_); first | refine Runs.region (id := 9) ?_ | refine Runs.region (id := 10) ?_ | refine Runs.region (id := 11) ?_ | refine Runs.region (id := 12) ?_ | ((with_reducible refine Runs.isC ?_); refine Runs.cond rfl (zc ?_) (zc ?_) <;> intro hc <;> (try (first | contradiction | (exfalso; omega; done) | (have : hc = trivial := rfl; clear this; clear hc))))) | ((with_reducible refine r_is ?_); first | refine yr ?_ | (refine r_fn rfl (hA) HbF.h zL2 zD ?_; refine r_nn zN zH ?_)) | fail)
        refine ih (i + 1) _ zo zo ?_
        (refine St.Le.clean zR zU zV)
      · have hi3 : i = l.length := by omega
        subst hi3
        have hel := encL_len l
        have hpos : 0 < (encL l).length := by
          cases l with
          | nil => rw [List.length_nil] at hgl; omega
          | cons x l =>
            unfold encL
            rw [List.flatMap_cons, List.length_append]
            have := encF_pos 9 (x % 18446744073709551616)
            dsimp only [encU]
            omega
        rw [List.take_length]
        repeat' (first | refine yw ?_ | ((with_reducible refine Runs.is ?_); first | refine Runs.region (id := 9) ?_ | ((with_reducible refine Runs.isC ?_); refine Runs.cond rfl (zc ?_) (zc ?_) <;> intro hc <;> (try (first | contradiction | (exfalso; omega; done) | (have : hc = trivial := rfl; clear this; clear hc))))) | ((with_reducible refine r_is ?_); first | refine yr ?_) | fail)
        repeat' (first | refine yw ?_ | ((with_reducible refine Runs.is ?_); first | refine Runs.region (id := 13) ?_ | ((with_reducible refine Runs.isC ?_); refine Runs.cond rfl (zc ?_) (zc ?_) <;> intro hc <;> (try (first | contradiction | (exfalso; omega; done) | (have : hc = trivial := rfl; clear this; clear hc))))) | ((with_reducible refine r_is ?_); first | refine yr ?_ | (refine r_append_full SlF.h SlF.s ZoF.h zd rfl rfl zC zJ zS rfl (fun hn => ?_) (fun hn => ?_) <;> refine r_nn zN zH ?_)) | fail)
        · have := congrArg List.length hn
          rw [List.length_map, List.length_nil] at this
          omega
        rw [← List.map_append]
        (refine Runs.weaken (St.Le.freeze_lst 59 rfl) ?_; refine yf ?_)
        (refine Runs.ret1 Try.func9 rfl zM zD ?_; try exact zX)
end Go.Proofs
namespace Go.Proofs
open Go.AM
attribute [local irreducible] AM.evalR AM.evalD AM.Runs AM.valK AM.dK AM.opK AM.stepR AM.CallS AM.St.Le
theorem enc_step {acc r : List Int} {w : Int} (h0 : 0 ≤ w ∧ w < 18446744073709551616) (h1 : acc.length ≤ 9) (h2 : w < 128 * 128 ^ (9 - acc.length)) (h3 : acc ++ encF (9 - acc.length) w = r) (h : 128 ≤ w) :
    (0 ≤ w / 128 ∧ w / 128 < 18446744073709551616) ∧ (acc ++ [w % 128 + 128]).length ≤ 9 ∧ w / 128 < 128 * 128 ^ (9 - (acc ++ [w % 128 + 128]).length) ∧ (acc ++ [w % 128 + 128]) ++ encF (9 - (acc ++ [w % 128 + 128]).length) (w / 128) = r := by
  obtain ⟨n, hn⟩ : ∃ n, 9 - acc.length = n + 1 := by
    rcases Nat.lt_or_ge acc.length 9 with q | q
    · exact ⟨8 - acc.length, by omega⟩
    · rw [show 9 - acc.length = 0 by omega] at h2; omega
  rw [hn, encF, if_pos h] at h3
  rw [hn, Int.pow_succ] at h2
  rw [List.length_append, List.length_singleton, show 9 - (acc.length + 1) = n by omega]
  refine ⟨by omega, by omega, by omega, ?_⟩
  rw [List.append_assoc]; exact h3
theorem enc_stop {acc r : List Int} {w : Int} (h3 : acc ++ encF (9 - acc.length) w = r) (h : ¬ 128 ≤ w) : acc ++ [w] = r := by
  rw [← h3]
  cases 9 - acc.length with
  | zero => rfl
  | succ n => rw [encF, if_neg h]
theorem rf_div {w : Int} (h : 0 ≤ w ∧ w < 18446744073709551616) : IntKind.u64.wrap (w.tdiv 128) = w / 128 := by
  rw [Int.tdiv_eq_ediv_of_nonneg h.1, wrap64 zo]
theorem rf_byte {w : Int} (h : 0 ≤ w ∧ w < 18446744073709551616) : IntKind.u8.wrap (IntKind.u8.wrap (w % 128) + 128) = w % 128 + 128 := by
  rw [wrap8_mod, wrap8_mod]; omega
theorem ref_AppendUint (f : Bool) (b : List Int) (v : Int) (hv : 0 ≤ v ∧ v < 18446744073709551616) (hb : b.length ≤ 1099511627776) : AM.Fn Try.prog 43 [.sl f (b.map u8), u64 v] (byV (b ++ encU v)) := by
  have hgo : ∀ r, encU v = r → AM.Fn Try.prog 43 [.sl f (b.map u8), u64 v] (byV (b ++ r)) := by
    intro r hr
    unfold encU at hr
    (refine spec_of_runs Try.func43 rfl ?_; simp only [Try.f43]; refine ys ?_)
    repeat' (first | refine yw ?_ | ((with_reducible refine Runs.is ?_); first | refine Runs.region (id := 0) ?_ | refine Runs.region (id := 1) ?_ | ((with_reducible refine Runs.isC ?_); refine Runs.cond rfl (zc ?_) (zc ?_) <;> intro hc <;> (try (first | contradiction | (exfalso; omega; done) | (have : hc = trivial := rfl; clear this; clear hc))))) | ((with_reducible refine r_is ?_); first | refine yr ?_ | (refine r_append_full SlF.h SlF.s ZoF.h zd rfl rfl zC zJ zS rfl (fun hn => ?_) (fun hn => ?_) <;> refine r_nn zN zH ?_)) | fail)
    · have hb0 : b = [] := List.map_eq_nil_iff.1 hn
      subst hb0
      refine Runs.loopI (α := Option (Int × List Int)) (fun o => match o with | none => v.toNat + 1 | some a => a.1.toNat)
        (fun o => match o with | none => True | some a => (0 ≤ a.1 ∧ a.1 < 18446744073709551616) ∧ a.2.length ≤ 9 ∧ a.1 < 128 * 128 ^ (9 - a.2.length) ∧ a.2 ++ encF (9 - a.2.length) a.1 = r)
        (fun o => match o with
          | none => ⟨[.any, u64 v, .any, .any, .any, .sl true [], .any, .any, .any, .any, .any, .any, .any, .any, .any, .any, .any, .any, .any, .any, .any, .any, .any, .any, .any], []⟩
          | some a => ⟨[.any, u64 a.1, .any, .any, .any, .own 17, .any, .any, .any, .any, .any, .any, .any, .any, .any, .any, .any, .any, .any, .any, .any, .any, .any, .any, .any], [(17, .lst tU8 1 (a.2.map u8))]⟩) none trivial ?_ ?_
      · (refine St.Le.clean zR zU zV)
      rintro (_ | ⟨w, acc⟩) h ih
      · dsimp only at ih ⊢
        by_cases hc8 : 128 ≤ v
        · repeat' (first | refine yw ?_ | ((with_reducible refine Runs.is ?_); first | refine Runs.region (id := 2) ?_ | refine Runs.region (id := 3) ?_ | refine Runs.region (id := 4) ?_ | ((with_reducible refine Runs.isC ?_); refine Runs.cond rfl (zc ?_) (zc ?_) <;> intro hc <;> (try (first | contradiction | (exfalso; omega; done) | (have : hc = trivial := rfl; clear this; clear hc))))) | ((with_reducible refine r_is ?_); first | refine yr ?_ | (refine r_append_full SlF.h SlF.s ZoF.h zd rfl rfl zC zJ zS rfl (fun hn => ?_) (fun hn => ?_) <;> refine r_nn zN zH ?_)) | fail)
          simp only [List.map_cons, List.map_nil, ev, List.getD_cons_succ, List.getD_cons_zero]
          rw [rf_div hv, rf_byte hv]
          have hs := enc_step (acc := []) hv (Nat.zero_le _) (by rw [List.length_nil]; omega) hr hc8
          refine ih (some (v / 128, [v % 128 + 128])) _ hs (by dsimp only; omega) ?_
          (refine St.Le.clean zR zU zV)
        · repeat' (first | refine yw ?_ | ((with_reducible refine Runs.is ?_); first | refine Runs.region (id := 2) ?_ | refine Runs.region (id := 3) ?_ | refine Runs.region (id := 4) ?_ | refine Runs.region (id := 5) ?_ | ((with_reducible refine Runs.isC ?_); refine Runs.cond rfl (zc ?_) (zc ?_) <;> intro hc <;> (try (first | contradiction | (exfalso; omega; done) | (have : hc = trivial := rfl; clear this; clear hc))))) | ((with_reducible refine r_is ?_); first | refine yr ?_ | (refine r_append_full SlF.h SlF.s ZoF.h zd rfl rfl zC zJ zS rfl (fun hn => ?_) (fun hn => ?_) <;> refine r_nn zN zH ?_)) | fail)
          have hs := enc_stop (acc := []) hr hc8
          subst hs
          rw [wrap8_mod, show v % 256 = v by omega]
          (refine Runs.weaken (St.Le.freeze_lst 24 rfl) ?_; refine yf ?_)
          (refine Runs.ret1 Try.func43 rfl zM zD ?_; try exact zX)
      · obtain ⟨h0, h1, h2, h3⟩ := h
        dsimp only at h0 h1 h2 h3 ih ⊢
        by_cases hc8 : 128 ≤ w
        · repeat' (first | refine yw ?_ | ((with_reducible refine Runs.is ?_); first | refine Runs.region (id := 2) ?_ | refine Runs.region (id := 3) ?_ | refine Runs.region (id := 4) ?_ | ((with_reducible refine Runs.isC ?_); refine Runs.cond rfl (zc ?_) (zc ?_) <;> intro hc <;> (try (first | contradiction | (exfalso; omega; done) | (have : hc = trivial := rfl; clear this; clear hc))))) | ((with_reducible refine r_is ?_); first | refine yr ?_ | (refine r_append_full SlF.h SlF.s ZoF.h zd rfl rfl zC zJ zS rfl (fun hn => ?_) (fun hn => ?_) <;> refine r_nn zN zH ?_)) | fail)
          simp only [List.map_cons, List.map_nil, ev, List.getD_cons_succ, List.getD_cons_zero]
          rw [rf_div h0, rf_byte h0]
          refine ih (some (w / 128, acc ++ [w % 128 + 128])) _ (enc_step h0 h1 h2 h3 hc8) (by dsimp only; omega) ?_
          (refine St.Le.clean zR (by first | (simp [V.usesL, V.uses, AM.look_cons]; done) | (simp [V.usesL, V.uses, AM.look_cons, V.usesL_data, V.uses_data, da_i, da_chV, da_ruV, da_prV, da_enV, da_cfV, da_veV, da_inV, da_edV, da_grV, da_weV, da_mbV, da_suV, da_viV]; done)) ?_; (repeat' (first | exact True.intro | refine And.intro ?_ ?_)); all_goals (first | rfl | (simp [AM.look_cons, List.map_append]; done) | (simp [V.uses, V.usesL, AM.look_cons, V.usesL_data, V.uses_data, da_i, da_chV, da_ruV, da_prV, da_enV, da_cfV, da_veV, da_inV, da_edV, da_grV, da_weV, da_mbV, da_suV, da_viV]; done)))
        · repeat' (first | refine yw ?_ | ((with_reducible refine Runs.is ?_); first | refine Runs.region (id := 2) ?_ | refine Runs.region (id := 3) ?_ | refine Runs.region (id := 4) ?_ | refine Runs.region (id := 5) ?_ | ((with_reducible refine Runs.isC ?_); refine Runs.cond rfl (zc ?_) (zc ?_) <;> intro hc <;> (try (first | contradiction | (exfalso; omega; done) | (have : hc = trivial := rfl; clear this; clear hc))))) | ((with_reducible refine r_is ?_); first | refine yr ?_ | (refine r_append_full SlF.h SlF.s ZoF.h zd rfl rfl zC zJ zS rfl (fun hn => ?_) (fun hn => ?_) <;> refine r_nn zN zH ?_)) | fail)
          have hs := enc_stop h3 hc8
          simp only [List.map_cons, List.map_nil, ev, List.getD_cons_succ, List.getD_cons_zero]
          rw [wrap8_mod, show w % 256 = w by omega, show acc.map u8 ++ [u8 w] = (acc ++ [w]).map u8 by rw [List.map_append]; rfl, hs]
          (refine Runs.weaken (St.Le.freeze_lst 17 rfl) ?_; refine yf ?_)
          (refine Runs.ret1 Try.func43 rfl zM zD ?_; try exact zX)
    · refine Runs.loopI (α := Int × List Int) (fun a => a.1.toNat)
        (fun a => (0 ≤ a.1 ∧ a.1 < 18446744073709551616) ∧ a.2.length ≤ 9 ∧ a.1 < 128 * 128 ^ (9 - a.2.length) ∧ a.2 ++ encF (9 - a.2.length) a.1 = r)
        (fun a => ⟨[.any, u64 a.1, .any, .any, .any, .own 8, .any, .any, .any, .any, .any, .any, .any, .any, .any, .any, .any, .any, .any, .any, .any, .any, .any, .any, .any], [(8, .lst tU8 1 ((b ++ a.2).map u8))]⟩) (v, []) ⟨hv, Nat.zero_le _, by dsimp only [List.length_nil]; omega, hr⟩ ?_ ?_
      · rw [List.append_nil]
        (refine St.Le.clean zR zU zV)
      rintro ⟨w, acc⟩ ⟨h0, h1, h2, h3⟩ ih
      dsimp only at h0 h1 h2 h3 ih ⊢
      have hbl : (b ++ acc).length ≤ 1099511627776 + 9 := by rw [List.length_append]; omega
      by_cases hc8 : 128 ≤ w
      · repeat' (first | refine yw ?_ | ((with_reducible refine Runs.is ?_); first | refine Runs.region (id := 2) ?_ | refine Runs.region (id := 3) ?_ | refine Runs.region (id := 4) ?_ | ((with_reducible refine Runs.isC ?_); refine Runs.cond rfl (zc ?_) (zc ?_) <;> intro hc <;> (try (first | contradiction | (exfalso; omega; done) | (have : hc = trivial := rfl; clear this; clear hc))))) | ((with_reducible refine r_is ?_); first | refine yr ?_ | (refine r_append_full SlF.h SlF.s ZoF.h zd rfl rfl zC zJ zS rfl (fun hn => ?_) (fun hn => ?_) <;> refine r_nn zN zH ?_)) | fail)
        simp only [List.map_cons, List.map_nil, ev, List.getD_cons_succ, List.getD_cons_zero]
        rw [rf_div h0, rf_byte h0]
        refine ih (w / 128, acc ++ [w % 128 + 128]) _ (enc_step h0 h1 h2 h3 hc8) (by dsimp only; omega) ?_
        dsimp only
        rw [← List.append_assoc]
        (refine St.Le.clean zR (by first | (simp [V.usesL, V.uses, AM.look_cons]; done) | (simp [V.usesL, V.uses, AM.look_cons, V.usesL_data, V.uses_data, da_i, da_chV, da_ruV, da_prV, da_enV, da_cfV, da_veV, da_inV, da_edV, da_grV, da_weV, da_mbV, da_suV, da_viV]; done)) ?_; (repeat' (first | exact True.intro | refine And.intro ?_ ?_)); all_goals (first | rfl | (simp [AM.look_cons, List.map_append]; done) | (simp [V.uses, V.usesL, AM.look_cons, V.usesL_data, V.uses_data, da_i, da_chV, da_ruV, da_prV, da_enV, da_cfV, da_veV, da_inV, da_edV, da_grV, da_weV, da_mbV, da_suV, da_viV]; done)))
      · repeat' (first | refine yw ?_ | ((with_reducible refine Runs.is ?_); first | refine Runs.region (id := 2) ?_ | refine Runs.region (id := 3) ?_ | refine Runs.region (id := 4) ?_ | refine Runs.region (id := 5) ?_ | ((with_reducible refine Runs.isC ?_); refine Runs.cond rfl (zc ?_) (zc ?_) <;> intro hc <;> (try (first | contradiction | (exfalso; omega; done) | (have : hc = trivial := rfl; clear this; clear hc))))) | ((with_reducible refine r_is ?_); first | refine yr ?_ | (refine r_append_full SlF.h SlF.s ZoF.h zd rfl rfl zC zJ zS rfl (fun hn => ?_) (fun hn => ?_) <;> refine r_nn zN zH ?_)) | fail)
        have hs := enc_stop h3 hc8
        simp only [List.map_cons, List.map_nil, ev, List.getD_cons_succ, List.getD_cons_zero]
        rw [wrap8_mod, show w % 256 = w by omega, show (b ++ acc).map u8 ++ [u8 w] = (b ++ (acc ++ [w])).map u8 by rw [← List.append_assoc, List.map_append (l₂ := [w])]; rfl, hs]
        (refine Runs.weaken (St.Le.freeze_lst 8 rfl) ?_; refine yf ?_)
        (refine Runs.ret1 Try.func43 rfl zM zD ?_; try exact zX)
  exact hgo _ rfl
end Go.Proofs
namespace Go.Proofs
open Go.AM
attribute [local irreducible] AM.evalR AM.evalD AM.Runs AM.valK AM.dK AM.opK AM.stepR AM.CallS AM.St.Le
theorem Runs.ret_hand {P : Program} {f : FuncId} {k : List Item} {s : St} {fn : Func} {r : V} {H1 : AM.Heap} (hf : P.funcs[f]? = some fn) {j : Tmp} (hr : fn.results = #[.tmp j]) (hs : s.slots.getD j .any = r) (hh : s.heap = H1) : AM.Runs P f (fun r' H' => r' = r ∧ H' = H1) (.code .ret :: k) s := by
  refine AM.Runs.ret hf ?_
  rw [hr]
  subst hs hh
  exact ⟨_, s.heap, ⟨rfl, rfl⟩, fun w0 O M loc x w S => ⟨loc, S⟩⟩
def numE (b : List Int) : Int × Int × Int := if (uintE b).2.2 ≠ 0 then (0, 0, (uintE b).2.2) else if 2147483647 < (uintE b).1 then (0, 0, 9) else ((uintE b).1, (uintE b).2.1, 0)
theorem uintF_bd (b : List Int) : ∀ (n : Nat) (v : Int) (i : Nat), n + i = 10 → 0 ≤ v ∧ v ≤ 18446744073709551615 → (0 ≤ (uintF b n v i).1 ∧ (uintF b n v i).1 ≤ 18446744073709551615) ∧ (0 ≤ (uintF b n v i).2.1 ∧ (uintF b n v i).2.1 ≤ 10) ∧ ((uintF b n v i).2.2 = 0 → 1 ≤ (uintF b n v i).2.1 ∧ (uintF b n v i).2.1 + 0 ≤ b.length ∨ b.length < i)
  | 0, v, i, _, _ => by simp [uintF]
  | n + 1, v, i, h, hv => by
    rw [uintF]
    split
    · simp
    rename_i h0
    split
    · simp
    have ho : 0 ≤ orS v (b.getD i default) i ∧ orS v (b.getD i default) i ≤ 18446744073709551615 := by
      unfold orS orZ
      rw [wrap64_mod]
      omega
    split
    · have := uintF_bd b n (orS v (b.getD i default) i) (i + 1) zo ho
      refine ⟨this.1, this.2.1, fun he => ?_⟩
      rcases this.2.2 he with q | q
      · exact .inl q
      · exact .inr zo
    · split
      · simp
      · refine ⟨ho, by dsimp only; omega, fun _ => ?_⟩
        dsimp only
        omega
theorem uintE_bd (b : List Int) : (0 ≤ (uintE b).1 ∧ (uintE b).1 ≤ 18446744073709551615) ∧ (0 ≤ (uintE b).2.1 ∧ (uintE b).2.1 ≤ 10) ∧ ((uintE b).2.2 = 0 → 1 ≤ (uintE b).2.1 ∧ (uintE b).2.1 ≤ b.length) := by
  have := uintF_bd b 10 0 0 rfl ⟨by decide, by decide⟩
  refine ⟨this.1, this.2.1, fun h => ?_⟩
  rcases this.2.2 h with q | q
  · exact ⟨q.1, by unfold uintE; omega⟩
  · omega
def readH (H : AM.Heap) (m i fo : Nat) (o : AM.Obj) (r : Int × Int × Int) (at' : Nat) : AM.Heap := if r.2.2 = 0 then upd (upd H 6 (.var 3 (.i ((at' : Int) + r.2.1)))) m (o.wr i fo [.i r.1]) else H
theorem read_spec (H : AM.Heap) (f : Bool) (b : List Int) (at' m i fo : Nat) (o : AM.Obj) (hB : Bytes b) (hl : at' ≤ b.length) (hb : b.length ≤ 4611686018427387904) (h1 : AM.look H 1 = some (.var 27 (.sl f (b.map u8)))) (h6 : AM.look H 6 = some (.var 3 (.i (at' : Nat)))) (hm : AM.look H m = some o) (hne : m ≠ 6)
    (ho : i < o.len ∧ fo + 1 ≤ (o.elem i).cells.length) : AM.Spec Try.prog 19 [.ptr m i fo, .ptr 1 0 0, .ptr 6 0 0] H (fun r' H' => r' = .i (numE (b.drop at')).2.2 ∧ H' = readH H m i fo o (numE (b.drop at')) at') := by
  have hU : AM.Fn Try.prog 20 [.sl f (((b.map u8)).drop ((at' : Int)).toNat)] (uiV (uintE (b.drop at'))) := by
    rw [Int.toNat_natCast, ← List.map_drop]
    exact wire_Uint f (b.drop at') (hB.drop _)
  have hD : V.dataL [V.sl f (((b.map u8)).drop ((at' : Int)).toNat)] = true := by
    rw [← List.map_drop]; simp only [V.dataL, V.data, dl_u8, Bool.and_true]
  have hbd := uintE_bd (b.drop at')
  rw [List.length_drop] at hbd
  unfold numE readH
  generalize uintE (b.drop at') = u at *
  obtain ⟨v, n, e⟩ := u
  dsimp only at *
  (refine spec_of_runs Try.func19 rfl ?_; simp only [Try.f19]; refine ys ?_)
  repeat' (first | refine yw ?_ | ((with_reducible refine Runs.is ?_); first | refine Runs.region (id := 0) ?_ | refine Runs.region (id := 1) ?_ | ((with_reducible refine Runs.isC ?_); refine Runs.cond rfl (zc ?_) (zc ?_) <;> intro hc <;> (try (first | contradiction | (exfalso; omega; done) | (have : hc = trivial := rfl; clear this; clear hc))))) | ((with_reducible refine r_is ?_); first | refine yr ?_) | fail)
  refine r_v rfl (v_load_var TyF.h rfl h1 rfl zd rfl ?_); refine r_n zN ?_
  refine r_v rfl (v_load_var TyF.h rfl h6 rfl zd rfl ?_); refine r_n zN ?_
  repeat' (first | refine yw ?_ | ((with_reducible refine Runs.is ?_); first | refine Runs.region (id := 1) ?_ | refine Runs.region (id := 2) ?_ | refine Runs.region (id := 3) ?_ | refine Runs.region (id := 4) ?_ | refine Runs.region (id := 5) ?_ | ((with_reducible refine Runs.isC ?_); refine Runs.cond rfl (zc ?_) (zc ?_) <;> intro hc <;> (try (first | contradiction | (exfalso; omega; done) | (have : hc = trivial := rfl; clear this; clear hc))))) | ((with_reducible refine r_is ?_); first | refine yr ?_ | (refine r_fn rfl (hU) HbF.h zL1 zD ?_; refine r_nn zN zH ?_)) | fail)
  · rw [show (if e ≠ 0 then (0, 0, e) else if 2147483647 < v then (0, 0, 9) else (v, n, 0) : Int × Int × Int) = (0, 0, e) from if_pos hc]
    dsimp only
    rw [if_neg hc]
    exact Runs.ret_hand rfl rfl rfl rfl
  · rw [show (if e ≠ 0 then (0, 0, e) else if 2147483647 < v then (0, 0, 9) else (v, n, 0) : Int × Int × Int) = (0, 0, 9) from by rw [if_neg zo, if_pos zo]]
    dsimp only
    rw [if_neg zd]
    exact Runs.ret_hand rfl rfl rfl rfl
  · rw [show (if e ≠ 0 then (0, 0, e) else if 2147483647 < v then (0, 0, 9) else (v, n, 0) : Int × Int × Int) = (v, n, 0) from by rw [if_neg zo, if_neg zo]]
    dsimp only
    rw [if_pos rfl]
    repeat' (first | refine yw ?_ | ((with_reducible refine Runs.is ?_); first | refine Runs.region (id := 6) ?_ | ((with_reducible refine Runs.isC ?_); refine Runs.cond rfl (zc ?_) (zc ?_) <;> intro hc <;> (try (first | contradiction | (exfalso; omega; done) | (have : hc = trivial := rfl; clear this; clear hc))))) | ((with_reducible refine r_is ?_); first | refine yr ?_) | fail)
    refine r_v rfl (v_load_var TyF.h rfl h6 rfl zd rfl ?_); refine r_n zN ?_
    repeat' (first | refine yw ?_ | ((with_reducible refine Runs.is ?_); first | refine Runs.region (id := 6) ?_ | ((with_reducible refine Runs.isC ?_); refine Runs.cond rfl (zc ?_) (zc ?_) <;> intro hc <;> (try (first | contradiction | (exfalso; omega; done) | (have : hc = trivial := rfl; clear this; clear hc))))) | ((with_reducible refine r_is ?_); first | refine yr ?_) | fail)
    refine r_storeW TyF.h rfl h6 ⟨Nat.le_refl 1, by decide, rfl, rfl⟩ rfl ?_
    dsimp only [go_sem]
    repeat' (first | refine yw ?_ | ((with_reducible refine Runs.is ?_); first | refine Runs.region (id := 6) ?_ | refine Runs.region (id := 7) ?_ | ((with_reducible refine Runs.isC ?_); refine Runs.cond rfl (zc ?_) (zc ?_) <;> intro hc <;> (try (first | contradiction | (exfalso; omega; done) | (have : hc = trivial := rfl; clear this; clear hc))))) | ((with_reducible refine r_is ?_); first | refine yr ?_) | fail)
    have hm' : AM.look (upd H 6 (.var 3 (.i ((at' : Int) + n)))) m = some o := by rw [look_upd, if_neg hne]; exact hm
    refine r_store TyF.h rfl hm' ⟨ho.1, ho.2, by decide, rfl, rfl, .inr rfl⟩ ?_
    repeat' (first | refine yw ?_ | ((with_reducible refine Runs.is ?_); first | refine Runs.region (id := 7) ?_ | refine Runs.region (id := 8) ?_ | ((with_reducible refine Runs.isC ?_); refine Runs.cond rfl (zc ?_) (zc ?_) <;> intro hc <;> (try (first | contradiction | (exfalso; omega; done) | (have : hc = trivial := rfl; clear this; clear hc))))) | ((with_reducible refine r_is ?_); first | refine yr ?_) | fail)
    exact Runs.ret_hand rfl rfl rfl rfl
theorem numE_bd (b : List Int) : (0 ≤ (numE b).1 ∧ (numE b).1 ≤ 2147483647) ∧ (0 ≤ (numE b).2.1 ∧ (numE b).2.1 ≤ 10) ∧ ((numE b).2.2 = 0 → 1 ≤ (numE b).2.1 ∧ (numE b).2.1 ≤ b.length) := by
  have := uintE_bd b
  unfold numE
  split
  · exact ⟨by simp, by simp, fun h => absurd h (by assumption)⟩
  split
  · exact ⟨by simp, by simp, fun h => absurd h (by simp)⟩
  · rename_i h1 h2
    exact ⟨⟨this.1.1, by dsimp only; omega⟩, this.2.1, fun _ => this.2.2 zo⟩
theorem read_ok (H : AM.Heap) (f : Bool) (b : List Int) (at' m i fo : Nat) (o : AM.Obj) (hB : Bytes b) (hl : at' ≤ b.length) (hb : b.length ≤ 4611686018427387904) (h1 : AM.look H 1 = some (.var 27 (.sl f (b.map u8)))) (h6 : AM.look H 6 = some (.var 3 (.i (at' : Nat)))) (hm : AM.look H m = some o) (hne : m ≠ 6)
    (ho : i < o.len ∧ fo + 1 ≤ (o.elem i).cells.length) {v : Int} {n : Int} (hr : numE (b.drop at') = (v, n, 0)) : AM.Spec Try.prog 19 [.ptr m i fo, .ptr 1 0 0, .ptr 6 0 0] H (fun r' H' => r' = .i 0 ∧ H' = upd (upd H 6 (.var 3 (.i ((at' : Int) + n)))) m (o.wr i fo [.i v])) := by
  have := read_spec H f b at' m i fo o hB hl hb h1 h6 hm hne ho
  rw [hr] at this
  rw [readH, if_pos rfl] at this
  exact this
theorem read_no (H : AM.Heap) (f : Bool) (b : List Int) (at' m i fo : Nat) (o : AM.Obj) (hB : Bytes b) (hl : at' ≤ b.length) (hb : b.length ≤ 4611686018427387904) (h1 : AM.look H 1 = some (.var 27 (.sl f (b.map u8)))) (h6 : AM.look H 6 = some (.var 3 (.i (at' : Nat)))) (hm : AM.look H m = some o) (hne : m ≠ 6)
    (ho : i < o.len ∧ fo + 1 ≤ (o.elem i).cells.length) {v : Int} {n e : Int} (hr : numE (b.drop at') = (v, n, e)) (he : e ≠ 0) : AM.Spec Try.prog 19 [.ptr m i fo, .ptr 1 0 0, .ptr 6 0 0] H (fun r' H' => r' = .i e ∧ H' = H) := by
  have := read_spec H f b at' m i fo o hB hl hb h1 h6 hm hne ho
  rw [hr] at this
  rw [readH, if_neg he] at this
  exact this
end Go.Proofs
namespace Go.Proofs
open Go.AM
attribute [local irreducible] AM.evalR AM.evalD AM.Runs AM.valK AM.dK AM.opK AM.stepR AM.CallS AM.St.Le
def bs (k : Nat → Int) (i j : Nat) : Nat := if h : i < j then (if k ((i + j) / 2) < 0 then bs k ((i + j) / 2 + 1) j else bs k i ((i + j) / 2)) else i
termination_by j - i
decreasing_by all_goals omega
end Go.Proofs
namespace Go.Proofs
open Go.AM
attribute [local irreducible] AM.evalR AM.evalD AM.Runs AM.valK AM.dK AM.opK AM.stepR AM.CallS AM.St.Le
def indexI (n k : Int) : Int := if k < 1 then 0 else n % k
def atI (l : List Int) (i : Int) : Int := if l = [] then 0 else l.getD (indexI i l.length).toNat 0
def countR : Vector → Int → Int
  | [], _ => 0
  | e :: v, a => if e.author = a then e.count else countR v a
end Go.Proofs
namespace Go.Proofs
open Go.AM
attribute [local irreducible] AM.evalR AM.evalD AM.Runs AM.valK AM.dK AM.opK AM.stepR AM.CallS AM.St.Le
def Small (c : Config) : Prop := c.length ≤ 1000000000 ∧ ∀ p ∈ c, p.changes.length ≤ 1000000000000
theorem Small.getD {c : Config} (h : Small c) (i : Nat) : (c.getD i default).changes.length ≤ 1000000000000 := by
  by_cases hi : i < c.length
  · rw [List.getD_eq_getElem?_getD, List.getElem?_eq_getElem hi]; exact h.2 _ (List.getElem_mem hi)
  · rw [List.getD_eq_getElem?_getD, List.getElem?_eq_none zo]; exact Nat.zero_le _
end Go.Proofs
namespace Go.Proofs
open Go.AM
attribute [local irreducible] AM.evalR AM.evalD AM.Runs AM.valK AM.dK AM.opK AM.stepR AM.CallS AM.St.Le
end Go.Proofs
namespace Go.Proofs
open Go.AM
attribute [local irreducible] AM.evalR AM.evalD AM.Runs AM.valK AM.dK AM.opK AM.stepR AM.CallS AM.St.Le
theorem foldl_take {α β : Type} [Inhabited α] {g : β → α → β} {s : β} {xs : List α} {i : Nat} (h : i < xs.length) : (xs.take (i + 1)).foldl g s = g ((xs.take i).foldl g s) (xs.getD i default) := by
  rw [take_getD h, List.foldl_append]; rfl
section
variable {a n : Int} {l : Vector} {put : Bool} {e : Entry}
end
end Go.Proofs
namespace Go.Proofs
open Go.AM
attribute [local irreducible] AM.evalR AM.evalD AM.Runs AM.valK AM.dK AM.opK AM.stepR AM.CallS AM.St.Le
def Mild (v : Vector) : Prop := ∀ e ∈ v, 0 ≤ e.count ∧ e.count ≤ 1000000
theorem Mild.count {v : Vector} (h : Mild v) (a : Int) : 0 ≤ countR v a ∧ countR v a ≤ 1000000 := by
  induction v with
  | nil => simp [countR]
  | cons e v ih =>
    unfold countR
    split
    · exact h e (List.mem_cons_self ..)
    · exact ih fun x hx => h x (List.mem_cons_of_mem _ hx)
end Go.Proofs
namespace Go.Proofs
open Go.AM
attribute [local irreducible] AM.evalR AM.evalD AM.Runs AM.valK AM.dK AM.opK AM.stepR AM.CallS AM.St.Le
end Go.Proofs
namespace Go.Proofs
open Go.AM
attribute [local irreducible] AM.evalR AM.evalD AM.Runs AM.valK AM.dK AM.opK AM.stepR AM.CallS AM.St.Le
def upto (a b : Int) : List Int := (List.range (b + 1 - a).toNat).map fun k : Nat => a + k
theorem upto_succ {a b : Int} (h : a ≤ b + 1) : upto a (b + 1) = upto a b ++ [b + 1] := by
  unfold upto
  have e : (b + 1 + 1 - a).toNat = (b + 1 - a).toNat + 1 := by omega
  rw [e, List.range_succ, List.map_append, List.map_cons, List.map_nil]
  congr 2; omega
theorem upto_snoc {lo n : Int} (h : lo ≤ n) : upto lo n = upto lo (n - 1) ++ [n] := by
  have := upto_succ (a := lo) (b := n - 1) zo
  rwa [show n - 1 + 1 = n by omega] at this
theorem upto_len (a b : Int) : (upto a b).length = (b + 1 - a).toNat := by simp [upto]
def Below (a : Int) (k : Nat) (out : List Vector) : Prop := ∀ v ∈ out, v.length ≤ k ∧ ∀ e ∈ v, e.author < a
end Go.Proofs
namespace Go.Proofs
open Go.AM
attribute [local irreducible] AM.evalR AM.evalD AM.Runs AM.valK AM.dK AM.opK AM.stepR AM.CallS AM.St.Le
end Go.Proofs
namespace Go.Proofs
open Go.AM
attribute [local irreducible] AM.evalR AM.evalD AM.Runs AM.valK AM.dK AM.opK AM.stepR AM.CallS AM.St.Le
def Few (nodes : List Config) : Prop := nodes.length ≤ 100000 ∧ ∀ c ∈ nodes, c.length ≤ 1000000000
theorem Few.getD {nodes : List Config} (h : Few nodes) (i : Nat) : (nodes.getD i default).length ≤ 1000000000 := by
  by_cases hi : i < nodes.length
  · rw [List.getD_eq_getElem?_getD, List.getElem?_eq_getElem hi]; exact h.2 _ (List.getElem_mem hi)
  · rw [List.getD_eq_getElem?_getD, List.getElem?_eq_none zo]; exact Nat.zero_le _
end Go.Proofs
namespace Go.Proofs
open Go.AM Go.Sort
def sortI (zs : List Int) : List Int := zs.mergeSort fun x y => decide (x ≤ y)
theorem sortI_length (zs : List Int) : (sortI zs).length = zs.length := by simp [sortI]
theorem sort_turns (zs : List Int) (hsz : zs.length < 4611686018427387904) : AM.Turns Try.prog 35 3 zs (sortI zs) := by
  intro w x hrow
  rcases hrow.2 with ⟨rfl, h0⟩ | ⟨g, cap, cur, rfl, hb, hg, h1, h2, h3, h4⟩
  · have e : zs = [] := List.eq_nil_of_length_eq_zero h0
    subst e
    refine (Try.slices_Sort_int_none none 0 w).mono ?_
    rintro e w' ⟨rfl, rfl⟩
    exact ⟨rfl, by simpa [sortI] using hrow, Ext.refl _ _⟩
  · have ht : cur.toList.take zs.length = zs.map (Value.int .i64) := by simpa using h4
    refine (Try.slices_Sort_int g 0 cap zs w (holds_of_blockI hg ht) (Array.getElem?_eq_some_iff.1 hg).1 hsz).mono ?_
    rintro e w' ⟨rfl, n, os, rfl⟩
    have hl : (sortI zs).length = zs.length := sortI_length zs
    refine ⟨rfl, ?_, ?_⟩
    · have := ownsRow_sortedI (n := n) (os := os) hl hb hg h1 h2 h3
      rw [hl]; exact this
    · have := grownBy_sortedI (w := w) (g := g) (n := n) (os := os) (sortI zs).toArray
      obtain ⟨q1, q2, q3, q4, q5⟩ := this
      exact ⟨q1, q2, q3, q4, fun b hb hne => q5 b hb (fun e => hne (by simpa [blk, eq_comm] using e))⟩
end Go.Proofs
namespace Go.Proofs
open Go.AM
attribute [local irreducible] AM.evalR AM.evalD AM.Runs AM.valK AM.dK AM.opK AM.stepR AM.CallS AM.St.Le
end Go.Proofs
namespace Go.Proofs
open Go.AM
attribute [local irreducible] AM.evalR AM.evalD AM.Runs AM.valK AM.dK AM.opK AM.stepR AM.CallS AM.St.Le
def idxF (k : Int → Bool) : List Int → Nat → Int
  | [], _ => -1
  | x :: xs, i => if k x then (i : Int) else idxF k xs (i + 1)
theorem idxF_any (k : Int → Bool) (l : List Int) (i : Nat) : decide (0 ≤ idxF k l i) = l.any k := by
  induction l generalizing i with
  | nil => simp [idxF]
  | cons x xs ih =>
    unfold idxF
    rw [List.any_cons]
    cases h : k x
    · simpa using ih (i + 1)
    · simp
def wr (n : Int) : Int := IntKind.i64.wrap n
end Go.Proofs
namespace Go.Proofs
open Go.AM
attribute [local irreducible] AM.evalR AM.evalD AM.Runs AM.valK AM.dK AM.opK AM.stepR AM.CallS AM.St.Le
theorem cmp_Less (a b : Int) : AM.Fn Try.prog 63 [.i a, .i b] (.b (decide (a < b))) := by
  (refine spec_of_runs Try.func63 rfl ?_; simp only [Try.f63]; refine ys ?_)
  repeat' (first | refine yw ?_ | ((with_reducible refine Runs.is ?_); first | refine Runs.region ?_ | ((with_reducible refine Runs.isC ?_); refine Runs.cond rfl (zc ?_) (zc ?_) <;> intro hc <;> (try (first | contradiction | (exfalso; omega; done) | (have : hc = trivial := rfl; clear this; clear hc))))) | ((with_reducible refine r_is ?_); first | refine yr ?_ | (refine r_fn rfl (cmp_isNaN _) HbF.h zL1 zD ?_; refine r_nn zN zH ?_) | ((with_reducible refine r_gd ?_); (first | refine r_guardPf rfl rfl ?_ ?_ | refine r_guardNf rfl rfl ?_ ?_ | refine r_guardPt rfl rfl ?_ ?_ | refine r_guardNt rfl rfl ?_ ?_ | refine r_guard rfl rfl ?_ ?_) <;> intro hG <;> (try (exfalso; omega; done)) <;> refine r_nn zN zH ?_)) | fail)
  (refine Runs.ret1 Try.func63 rfl zM zD ?_; try exact zX)
theorem sl_isNaN (a : Int) : AM.Fn Try.prog 69 [.i a] (.b false) := by
  (refine spec_of_runs Try.func69 rfl ?_; simp only [Try.f69]; refine ys ?_)
  repeat' (first | refine yw ?_ | ((with_reducible refine Runs.is ?_); first | refine Runs.region ?_ | ((with_reducible refine Runs.isC ?_); refine Runs.cond rfl (zc ?_) (zc ?_) <;> intro hc <;> (try (first | contradiction | (exfalso; omega; done) | (have : hc = trivial := rfl; clear this; clear hc))))) | ((with_reducible refine r_is ?_); first | refine yr ?_) | fail)
  (refine Runs.ret1 Try.func69 rfl zM zD ?_; try exact zX)
def ltK (l : List Int) (x : Int) (t : Nat) : Int := if l.getD t default < x then -1 else 1
def bsI (l : List Int) (x : Int) : Nat := bs (ltK l x) 0 l.length
def foundI (l : List Int) (x : Int) : Bool := decide (bsI l x < l.length ∧ l.getD (bsI l x) default = x)
theorem ltK_neg {l : List Int} {x : Int} {t : Nat} : ltK l x t < 0 ↔ l.getD t default < x := by unfold ltK; split <;> omega
theorem search_ints (f : Bool) (l : List Int) (x : Int) : AM.Fn Try.prog 51 [.sl f (l.map .i), .i x] (.tup [.i (bsI l x : Nat), .b (foundI l x)]) := by
  (refine spec_of_runs Try.func51 rfl ?_; simp only [Try.f51]; refine ys ?_)
  (refine Runs.lens 0 ?_; refine yl ?_)
  intro hl
  repeat' (first | refine yw ?_ | ((with_reducible refine Runs.is ?_); first | refine Runs.region (id := 0) ?_ | refine Runs.region (id := 1) ?_ | refine Runs.region (id := 2) ?_ | ((with_reducible refine Runs.isC ?_); refine Runs.cond rfl (zc ?_) (zc ?_) <;> intro hc <;> (try (first | contradiction | (exfalso; omega; done) | (have : hc = trivial := rfl; clear this; clear hc))))) | ((with_reducible refine r_is ?_); first | refine yr ?_) | fail)
  refine Runs.loopI (α := Nat × Nat) (fun a => a.2 - a.1) (fun a => a.1 ≤ a.2 ∧ a.2 ≤ l.length ∧ bs (ltK l x) a.1 a.2 = bs (ltK l x) 0 l.length)
    (fun a => ⟨[.sl f (l.map .i), .i x, .any, .any, .any, .any, .i (l.length : Nat), .i (a.1 : Nat), .i (a.2 : Nat), .any, .any, .any, .any, .any, .any, .any, .any, .any, .any, .any, .any, .any, .any, .any, .any, .any, .any, .any, .any, .any, .any, .any, .any, .any, .any, .any, .any, .any, .any, .any, .any, .any, .any, .any, .any, .any, .any, .any, .any, .any, .any, .any, .any, .any], []⟩) (0, l.length) (by simp) ?_ ?_
  · (refine St.Le.clean zR zU zV)
  rintro ⟨i, j⟩ ⟨h0, h1, h2⟩ ih
  dsimp only at h0 h1 h2
  by_cases hij : i < j
  · repeat' (first | refine yw ?_ | ((with_reducible refine Runs.is ?_); first | refine Runs.region (id := 3) ?_ | refine Runs.region (id := 4) ?_ | refine Runs.region (id := 5) ?_ | refine Runs.region (id := 6) ?_ | refine Runs.region (id := 7) ?_ | ((with_reducible refine Runs.isC ?_); refine Runs.cond rfl (zc ?_) (zc ?_) <;> intro hc <;> (try (first | contradiction | (exfalso; omega; done) | (have : hc = trivial := rfl; clear this; clear hc))))) | ((with_reducible refine r_is ?_); first | refine yr ?_ | (refine r_fn rfl (cmp_Less _ _) HbF.h zL2 zD ?_; refine r_nn zN zH ?_)) | fail)
    · have e : (((i : Int) + (j : Int)) / 2).toNat = (i + j) / 2 := by omega
      rw [e] at hc
      refine ih ((i + j) / 2 + 1, j) _ ⟨by dsimp only; omega, h1, ?_⟩ (by dsimp only; omega) (by (refine St.Le.clean zR zU zV))
      rw [← h2, bs.eq_1 _ i j, dif_pos hij, if_pos (ltK_neg.2 hc)]
    · have e : (((i : Int) + (j : Int)) / 2).toNat = (i + j) / 2 := by omega
      rw [e] at hc
      refine ih (i, (i + j) / 2) _ ⟨by dsimp only; omega, by dsimp only; omega, ?_⟩ (by dsimp only; omega) (by (refine St.Le.clean zR zU zV))
      rw [← h2, bs.eq_1 _ i j, dif_pos hij, if_neg (fun h => by have := ltK_neg.1 h; omega)]
  · have e : bs (ltK l x) i j = i := by rw [bs.eq_1, dif_neg zo]
    rw [e] at h2
    have hr : bsI l x = i := h2.symm
    rw [foundI, hr]
    repeat' (first | refine yw ?_ | ((with_reducible refine Runs.is ?_); first | refine Runs.region (id := 3) ?_ | ((with_reducible refine Runs.isC ?_); refine Runs.cond rfl (zc ?_) (zc ?_) <;> intro hc <;> (try (first | contradiction | (exfalso; omega; done) | (have : hc = trivial := rfl; clear this; clear hc))))) | ((with_reducible refine r_is ?_); first | refine yr ?_) | fail)
    repeat' (first | refine yw ?_ | ((with_reducible refine Runs.is ?_); first | refine Runs.region (id := 8) ?_ | ((with_reducible refine Runs.isC ?_); refine Runs.cond rfl (zc ?_) (zc ?_) <;> intro hc <;> (try (first | contradiction | (exfalso; omega; done) | (have : hc = trivial := rfl; clear this; clear hc))))) | ((with_reducible refine r_is ?_); first | refine yr ?_ | (refine r_fn rfl (sl_isNaN _) HbF.h zL1 zD ?_; refine r_nn zN zH ?_) | ((with_reducible refine r_gd ?_); (first | refine r_guardPf rfl rfl ?_ ?_ | refine r_guardNf rfl rfl ?_ ?_ | refine r_guardPt rfl rfl ?_ ?_ | refine r_guardNt rfl rfl ?_ ?_ | refine r_guard rfl rfl ?_ ?_) <;> intro hG <;> (try (exfalso; omega; done)) <;> refine r_nn zN zH ?_)) | fail)
    all_goals ((refine Runs.ret2 Try.func51 rfl zM zM zD ?_; try exact zX))
    all_goals (refine V.Le.of_eq ?_; congr 3; refine congrArg V.b (Eq.symm ?_); first | exact decide_eq_true ⟨by omega, hG⟩ | exact decide_eq_false (fun q => hG q.2) | exact decide_eq_false (fun q => by have := q.1; omega))
theorem duplicate_ints (f : Bool) (l : List Int) (hl : l.length ≤ 1000000000) : AM.Spec Try.prog 50 [.sl f (l.map .i)] [] (OwnPost 3 1 fun r => r = l.map .i) := by
  (refine spec_of_runs Try.func50 rfl ?_; simp only [Try.f50]; refine ys ?_)
  repeat' (first | refine yw ?_ | ((with_reducible refine Runs.is ?_); first | refine Runs.region ?_ | ((with_reducible refine Runs.isC ?_); refine Runs.cond rfl (zc ?_) (zc ?_) <;> intro hc <;> (try (first | contradiction | (exfalso; omega; done) | (have : hc = trivial := rfl; clear this; clear hc))))) | ((with_reducible refine r_is ?_); first | refine yr ?_ | (refine r_copyA SlF.h SlF.s rfl rfl rfl zC (by simp) ?_; refine r_nn zN zH ?_)) | fail)
  · obtain rfl : l = [] := List.eq_nil_of_length_eq_zero zo
    exact Runs.ret_nil Try.func50 rfl rfl zd rfl rfl
  · exact Runs.ret_own Try.func50 rfl rfl rfl rfl
theorem index_ints (f : Bool) (l : List Int) (x : Int) : AM.Fn Try.prog 44 [.sl f (l.map .i), .i x] (.i (idxF (fun y => decide (y = x)) l 0)) := by
  (refine spec_of_runs Try.func44 rfl ?_; simp only [Try.f44]; refine ys ?_)
  (refine Runs.lens 0 ?_; refine yl ?_)
  intro hl
  repeat' (first | refine yw ?_ | ((with_reducible refine Runs.is ?_); first | refine Runs.region (id := 0) ?_ | refine Runs.region (id := 1) ?_ | ((with_reducible refine Runs.isC ?_); refine Runs.cond rfl (zc ?_) (zc ?_) <;> intro hc <;> (try (first | contradiction | (exfalso; omega; done) | (have : hc = trivial := rfl; clear this; clear hc))))) | ((with_reducible refine r_is ?_); first | refine yr ?_) | fail)
  refine Runs.loopI (fun i : Nat => l.length - i) (fun i => i ≤ l.length ∧ idxF (fun y => decide (y = x)) (l.drop i) i = idxF (fun y => decide (y = x)) l 0)
    (fun i => ⟨[.sl f (l.map .i), .i x, .any, .any, .any, .any, .any, .i (l.length : Nat), .i (i : Nat), .any, .any, .any, .any, .any, .any, .any, .any, .any, .any], []⟩) 0 (by simp) ?_ ?_
  · (refine St.Le.clean zR zU zV)
  rintro i ⟨h0, h1⟩ ih
  by_cases hi : i < l.length
  · rw [drop_getD hi, idxF] at h1
    repeat' (first | refine yw ?_ | ((with_reducible refine Runs.is ?_); first | refine Runs.region (id := 2) ?_ | refine Runs.region (id := 3) ?_ | refine Runs.region (id := 4) ?_ | refine Runs.region (id := 5) ?_ | refine Runs.region (id := 6) ?_ | refine Runs.region (id := 7) ?_ | ((with_reducible refine Runs.isC ?_); refine Runs.cond rfl (zc ?_) (zc ?_) <;> intro hc <;> (try (first | contradiction | (exfalso; omega; done) | (have : hc = trivial := rfl; clear this; clear hc))))) | ((with_reducible refine r_is ?_); first | refine yr ?_) | fail)
    · (refine Runs.ret1 Try.func44 rfl zM zD ?_; try exact zX)
      rw [← h1, if_pos (by simpa using hc.symm)]; exact V.Le.refl _
    · refine ih (i + 1) _ ⟨by omega, by rw [← h1, if_neg (by simpa using fun e => hc e.symm)]⟩ zo ?_
      (refine St.Le.clean zR zU zV)
  · repeat' (first | refine yw ?_ | ((with_reducible refine Runs.is ?_); first | refine Runs.region (id := 2) ?_ | refine Runs.region (id := 3) ?_ | refine Runs.region (id := 4) ?_ | refine Runs.region (id := 5) ?_ | refine Runs.region (id := 6) ?_ | refine Runs.region (id := 7) ?_ | ((with_reducible refine Runs.isC ?_); refine Runs.cond rfl (zc ?_) (zc ?_) <;> intro hc <;> (try (first | contradiction | (exfalso; omega; done) | (have : hc = trivial := rfl; clear this; clear hc))))) | ((with_reducible refine r_is ?_); first | refine yr ?_) | fail)
    (refine Runs.ret1 Try.func44 rfl zM zD ?_; try exact zX)
    rw [← h1, List.drop_eq_nil_of_le zo]; exact V.Le.refl _
theorem contains_ints (f : Bool) (l : List Int) (x : Int) : AM.Fn Try.prog 26 [.sl f (l.map .i), .i x] (.b (l.contains x)) := by
  have h := index_ints f l x
  have e : l.contains x = decide (0 ≤ idxF (fun y => decide (y = x)) l 0) := by
    rw [idxF_any, List.contains_eq_any_beq]
    congr 1
    funext y
    rw [Bool.eq_iff_iff, beq_iff_eq, decide_eq_true_eq]; exact ⟨Eq.symm, Eq.symm⟩
  rw [e]
  (refine spec_of_runs Try.func26 rfl ?_; simp only [Try.f26]; refine ys ?_)
  repeat' (first | refine yw ?_ | ((with_reducible refine Runs.is ?_); first | refine Runs.region ?_ | ((with_reducible refine Runs.isC ?_); refine Runs.cond rfl (zc ?_) (zc ?_) <;> intro hc <;> (try (first | contradiction | (exfalso; omega; done) | (have : hc = trivial := rfl; clear this; clear hc))))) | ((with_reducible refine r_is ?_); first | refine yr ?_ | (refine r_fn rfl (h) HbF.h zL2 zD ?_; refine r_nn zN zH ?_)) | fail)
  (refine Runs.ret1 Try.func26 rfl zM zD ?_; try exact zX)
end Go.Proofs
namespace Go.Proofs
open Go.AM
attribute [local irreducible] AM.evalR AM.evalD AM.Runs AM.valK AM.dK AM.opK AM.stepR AM.CallS AM.St.Le
def putI (l : List Int) (x : Int) : List Int := l.take (bsI l x) ++ x :: l.drop (bsI l x)
def insI (l : List Int) (x : Int) : List Int := if foundI l x then l else putI l x
def unionI (a b : List Int) : List Int := b.foldl insI a
def InsI (l : List Int) (x : Int) : Prop := AM.Gives Try.prog 52 1000 [.i (bsI l x : Nat), .sl true [.i x]] 3 1 (l.map .i) (fun r => r = (putI l x).map .i)
theorem member_union (f g : Bool) (a b : List Int) (ha : a.length ≤ 1000000000) (hI : ∀ k, k < b.length → foundI ((b.take k).foldl insI a) (b.getD k default) = false → InsI ((b.take k).foldl insI a) (b.getD k default)) :
    AM.Fn Try.prog 38 [.sl f (a.map .i), .sl g (b.map .i)] (.sl false ((unionI a b).map .i)) := by
  (refine spec_of_runs Try.func38 rfl ?_; simp only [Try.f38]; refine ys ?_)
  (refine Runs.lens 1 ?_; refine yl ?_)
  intro hlb
  repeat' (first | refine yw ?_ | ((with_reducible refine Runs.is ?_); first | refine Runs.region (id := 0) ?_ | refine Runs.region (id := 1) ?_ | refine Runs.region (id := 2) ?_ | ((with_reducible refine Runs.isC ?_); refine Runs.cond rfl (zc ?_) (zc ?_) <;> intro hc <;> (try (first | contradiction | (exfalso; omega; done) | (have : hc = trivial := rfl; clear this; clear hc))))) | ((with_reducible refine r_is ?_); first | refine yr ?_ | (refine r_own rfl (duplicate_ints f a ha) HbF.h zL1 zD rfl (fun _ hq _ => ?_); (try subst hq); refine r_nn zN zH ?_)) | fail)
  refine Runs.loopI (fun k : Nat => b.length - k) (fun k => k ≤ b.length)
    (fun k => ⟨[.any, .any, .any, .any, .any, .own 11, .any, .any, .any, .any, .any, .any, .sl g (b.map .i), .i (b.length : Nat), .i (k : Nat), .any, .any, .any, .any, .any, .any, .any, .any, .any, .any, .any, .any, .any, .any, .any, .any, .any, .any], [(11, .lst 3 1 (((b.take k).foldl insI a).map .i))]⟩) 0 (by simp) ?_ ?_
  · (refine St.Le.clean zR zU zV)
  rintro k hk ih
  have hst := fun (h : k < b.length) => foldl_take (g := insI) (s := a) h
  have hend : b.length ≤ k → (b.take k).foldl insI a = unionI a b := fun h => by rw [List.take_of_length_le h]; rfl
  have hIk := hI k
  generalize (b.take k).foldl insI a = l at hst hend hIk ⊢
  by_cases hlt : k < b.length
  · have hst2 := hst hlt
    have hI2 := hIk hlt
    by_cases hf : foundI l (b.getD k default) = true
    · rw [insI, if_pos hf] at hst2
      repeat' (first | refine yw ?_ | ((with_reducible refine Runs.is ?_); first | refine Runs.region (id := 3) ?_ | refine Runs.region (id := 4) ?_ | refine Runs.region (id := 5) ?_ | refine Runs.region (id := 6) ?_ | refine Runs.region (id := 7) ?_ | refine Runs.region (id := 8) ?_ | ((with_reducible refine Runs.isC ?_); refine Runs.cond rfl (zc ?_) (zc ?_) <;> intro hc <;> (try (first | contradiction | (exfalso; omega; done) | (have : hc = trivial := rfl; clear this; clear hc))))) | ((with_reducible refine r_is ?_); first | refine yr ?_ | (refine r_lend rfl (search_ints false _ _) HbF.h zY rfl ?_; refine r_nn zN zH ?_)) | fail)
      · exfalso; rw [hf] at hc; cases hc
      · refine ih (k + 1) _ zo zo ?_
        rw [hst2]
        (refine St.Le.clean zR zU zV)
    · have hf2 : foundI l (b.getD k default) = false := by simpa using hf
      rw [insI, if_neg hf] at hst2
      have hI3 := hI2 hf2
      unfold InsI at hI3
      repeat' (first | refine yw ?_ | ((with_reducible refine Runs.is ?_); first | refine Runs.region (id := 3) ?_ | refine Runs.region (id := 4) ?_ | refine Runs.region (id := 5) ?_ | refine Runs.region (id := 6) ?_ | refine Runs.region (id := 7) ?_ | refine Runs.region (id := 8) ?_ | ((with_reducible refine Runs.isC ?_); refine Runs.cond rfl (zc ?_) (zc ?_) <;> intro hc <;> (try (first | contradiction | (exfalso; omega; done) | (have : hc = trivial := rfl; clear this; clear hc))))) | ((with_reducible refine r_is ?_); first | refine yr ?_ | (refine r_lend rfl (search_ints false _ _) HbF.h zY rfl ?_; refine r_nn zN zH ?_) | (refine r_give rfl (hI3) HbF.h rfl rfl zL2 zD ?_; refine r_nn zN zH ?_)) | fail)
      · refine ih (k + 1) _ zo zo ?_
        rw [hst2]
        (refine St.Le.clean zR zU zV)
  · repeat' (first | refine yw ?_ | ((with_reducible refine Runs.is ?_); first | refine Runs.region (id := 3) ?_ | ((with_reducible refine Runs.isC ?_); refine Runs.cond rfl (zc ?_) (zc ?_) <;> intro hc <;> (try (first | contradiction | (exfalso; omega; done) | (have : hc = trivial := rfl; clear this; clear hc))))) | ((with_reducible refine r_is ?_); first | refine yr ?_) | fail)
    rw [hend zo]
    repeat' (first | refine yw ?_ | ((with_reducible refine Runs.is ?_); first | refine Runs.region (id := 9) ?_ | ((with_reducible refine Runs.isC ?_); refine Runs.cond rfl (zc ?_) (zc ?_) <;> intro hc <;> (try (first | contradiction | (exfalso; omega; done) | (have : hc = trivial := rfl; clear this; clear hc))))) | ((with_reducible refine r_is ?_); first | refine yr ?_) | fail)
    exact Runs.ret_frz Try.func38 rfl rfl rfl rfl
theorem member_newer (a b : WeightEntry) : AM.Fn Try.prog 36 [weV a, weV b] (.b (decide (0 < orI [cmpI b.version a.version, cmpI b.admin a.admin, cmpI b.number a.number]))) := by
  (refine spec_of_runs Try.func36 rfl ?_; simp only [Try.f36]; refine ys ?_)
  repeat' (first | refine yw ?_ | ((with_reducible refine Runs.is ?_); first | refine Runs.region ?_ | refine Runs.drawn mixed zK ?_ | ((with_reducible refine Runs.isC ?_); refine Runs.cond rfl (zc ?_) (zc ?_) <;> intro hc <;> (try (first | contradiction | (exfalso; omega; done) | (have : hc = trivial := rfl; clear this; clear hc))))) | ((with_reducible refine r_is ?_); first | refine yr ?_) | ((with_reducible refine d_is ?_); first | refine yd ?_ | (refine d_fn rfl (cmp_Compare _ _) HbF.h zL2 zD ?_; refine d_nn zN zH ?_) | (refine d_fn rfl (cmp_Or true [_, _, _]) HbF.h zL1 zD ?_; refine d_nn zN zH ?_)) | fail)
  (refine Runs.ret1 Try.func36 rfl zM zD ?_; try exact zX)
def newerW (a b : WeightEntry) : Bool := decide (0 < orI [cmpI b.version a.version, cmpI b.admin a.admin, cmpI b.number a.number])
def originW (s : Summary) : WeightEntry := ⟨0, 0, s.version, s.admin, s.number⟩
theorem member_origin (s : Summary) : AM.Fn Try.prog 37 [suV s] (weV (originW s)) := by
  (refine spec_of_runs Try.func37 rfl ?_; simp only [Try.f37]; refine ys ?_)
  repeat' (first | refine yw ?_ | ((with_reducible refine Runs.is ?_); first | refine Runs.region ?_ | ((with_reducible refine Runs.isC ?_); refine Runs.cond rfl (zc ?_) (zc ?_) <;> intro hc <;> (try (first | contradiction | (exfalso; omega; done) | (have : hc = trivial := rfl; clear this; clear hc))))) | ((with_reducible refine r_is ?_); first | refine yr ?_) | fail)
  (refine Runs.retC Try.func37 rfl zM rfl TyF.h (And.intro zE zd) zD ?_; try exact zX)
theorem weights1 (a b : WeightEntry) : AM.Fn Try.prog 55 [weV a, weV b] (.i (cmpI a.server b.server)) := by
  (refine spec_of_runs Try.func55 rfl ?_; simp only [Try.f55]; refine ys ?_)
  repeat' (first | refine yw ?_ | ((with_reducible refine Runs.is ?_); first | refine Runs.region ?_ | ((with_reducible refine Runs.isC ?_); refine Runs.cond rfl (zc ?_) (zc ?_) <;> intro hc <;> (try (first | contradiction | (exfalso; omega; done) | (have : hc = trivial := rfl; clear this; clear hc))))) | ((with_reducible refine r_is ?_); first | refine yr ?_ | (refine r_fn rfl (cmp_Compare _ _) HbF.h zL2 zD ?_; refine r_nn zN zH ?_)) | fail)
  (refine Runs.ret1 Try.func55 rfl zM zD ?_; try exact zX)
theorem duplicate_we (f : Bool) (l : List WeightEntry) (hl : l.length ≤ 1000000000) : AM.Spec Try.prog 53 [.sl f (l.map weV)] [] (OwnPost 72 5 fun r => r = l.map weV) := by
  (refine spec_of_runs Try.func53 rfl ?_; simp only [Try.f53]; refine ys ?_)
  repeat' (first | refine yw ?_ | ((with_reducible refine Runs.is ?_); first | refine Runs.region ?_ | ((with_reducible refine Runs.isC ?_); refine Runs.cond rfl (zc ?_) (zc ?_) <;> intro hc <;> (try (first | contradiction | (exfalso; omega; done) | (have : hc = trivial := rfl; clear this; clear hc))))) | ((with_reducible refine r_is ?_); first | refine yr ?_ | (refine r_copyA SlF.h SlF.s rfl rfl rfl zC (by simp) ?_; refine r_nn zN zH ?_)) | fail)
  · obtain rfl : l = [] := List.eq_nil_of_length_eq_zero zo
    exact Runs.ret_nil Try.func53 rfl rfl zd rfl rfl
  · exact Runs.ret_own Try.func53 rfl rfl rfl rfl
def weK (l : List WeightEntry) (w : WeightEntry) (t : Nat) : Int := cmpI (l.getD t default).server w.server
def bsW (l : List WeightEntry) (w : WeightEntry) : Nat := bs (weK l w) 0 l.length
def foundW (l : List WeightEntry) (w : WeightEntry) : Bool := decide (bsW l w < l.length ∧ cmpI (l.getD (bsW l w) default).server w.server = 0)
theorem search_we (f : Bool) (l : List WeightEntry) (w : WeightEntry) (g : FuncId) (hg : ∀ x, AM.Fn Try.prog g [weV x, weV w] (.i (cmpI x.server w.server))) (hb : hasBody Try.prog g) :
    AM.Fn Try.prog 54 [.sl f (l.map weV), weV w, .fn g []] (.tup [.i (bsW l w : Nat), .b (foundW l w)]) := by
  (refine spec_of_runs Try.func54 rfl ?_; simp only [Try.f54]; refine ys ?_)
  (refine Runs.lens 0 ?_; refine yl ?_)
  intro hl
  repeat' (first | refine yw ?_ | ((with_reducible refine Runs.is ?_); first | refine Runs.region (id := 0) ?_ | refine Runs.region (id := 1) ?_ | refine Runs.region (id := 2) ?_ | ((with_reducible refine Runs.isC ?_); refine Runs.cond rfl (zc ?_) (zc ?_) <;> intro hc <;> (try (first | contradiction | (exfalso; omega; done) | (have : hc = trivial := rfl; clear this; clear hc))))) | ((with_reducible refine r_is ?_); first | refine yr ?_) | fail)
  refine Runs.loopI (α := Nat × Nat) (fun a => a.2 - a.1) (fun a => a.1 ≤ a.2 ∧ a.2 ≤ l.length ∧ bs (weK l w) a.1 a.2 = bs (weK l w) 0 l.length)
    (fun a => ⟨[.sl f (l.map weV), .any, .fn g [], .any, .ptr 4 0 0, .any, .any, .any, .i (l.length : Nat), .i (a.1 : Nat), .i (a.2 : Nat), .any, .any, .any, .any, .any, .any, .any, .any, .any, .any, .any, .any, .any, .any, .any, .any, .any, .any, .any, .any, .any, .any, .any, .any, .any, .any, .any, .any, .any, .any, .any, .any, .any, .any, .any, .any, .any, .any], [(4, .var 72 (weV w))]⟩) (0, l.length) (by simp) ?_ ?_
  · (refine St.Le.clean zR zU zV)
  rintro ⟨i, j⟩ ⟨h0, h1, h2⟩ ih
  dsimp only at h0 h1 h2
  by_cases hij : i < j
  · repeat' (first | refine yw ?_ | ((with_reducible refine Runs.is ?_); first | refine Runs.region (id := 3) ?_ | refine Runs.region (id := 4) ?_ | refine Runs.drawn (id := 5) mixed zK ?_ | refine Runs.region (id := 6) ?_ | refine Runs.region (id := 7) ?_ | ((with_reducible refine Runs.isC ?_); refine Runs.cond rfl (zc ?_) (zc ?_) <;> intro hc <;> (try (first | contradiction | (exfalso; omega; done) | (have : hc = trivial := rfl; clear this; clear hc))))) | ((with_reducible refine r_is ?_); first | refine yr ?_) | ((with_reducible refine d_is ?_); first | refine yd ?_ | (refine d_fn rfl (hg _) (hb) zL2 zD ?_; refine d_nn zN zH ?_)) | fail)
    · have e : (((i : Int) + (j : Int)) / 2).toNat = (i + j) / 2 := by omega
      rw [e] at hc
      refine ih ((i + j) / 2 + 1, j) _ ⟨by dsimp only; omega, h1, ?_⟩ (by dsimp only; omega) (by (refine St.Le.clean zR zU zV))
      rw [← h2, bs.eq_1 _ i j, dif_pos hij, if_pos (show weK l w ((i + j) / 2) < 0 from hc)]
    · have e : (((i : Int) + (j : Int)) / 2).toNat = (i + j) / 2 := by omega
      rw [e] at hc
      refine ih (i, (i + j) / 2) _ ⟨by dsimp only; omega, by dsimp only; omega, ?_⟩ (by dsimp only; omega) (by (refine St.Le.clean zR zU zV))
      rw [← h2, bs.eq_1 _ i j, dif_pos hij, if_neg (show ¬ weK l w ((i + j) / 2) < 0 by unfold weK; omega)]
  · have e : bs (weK l w) i j = i := by rw [bs.eq_1, dif_neg zo]
    rw [e] at h2
    have hr : bsW l w = i := h2.symm
    rw [foundW, hr]
    repeat' (first | refine yw ?_ | ((with_reducible refine Runs.is ?_); first | refine Runs.region (id := 3) ?_ | ((with_reducible refine Runs.isC ?_); refine Runs.cond rfl (zc ?_) (zc ?_) <;> intro hc <;> (try (first | contradiction | (exfalso; omega; done) | (have : hc = trivial := rfl; clear this; clear hc))))) | ((with_reducible refine r_is ?_); first | refine yr ?_) | fail)
    repeat' (first | refine yw ?_ | ((with_reducible refine Runs.is ?_); first | refine Runs.drawn (id := 8) mixed zK ?_ | ((with_reducible refine Runs.isC ?_); refine Runs.cond rfl (zc ?_) (zc ?_) <;> intro hc <;> (try (first | contradiction | (exfalso; omega; done) | (have : hc = trivial := rfl; clear this; clear hc))))) | ((with_reducible refine d_is ?_); first | refine yd ?_ | (refine d_fn rfl (hg _) (hb) zL2 zD ?_; refine d_nn zN zH ?_) | ((with_reducible refine d_gd ?_); (first | refine d_guardPt rfl rfl ?_ ?_ | refine d_guardNt rfl rfl ?_ ?_ | refine d_guard rfl rfl ?_ ?_) <;> intro hG <;> (try (exfalso; omega; done)) <;> refine d_nn zN zH ?_)) | fail)
    all_goals ((refine Runs.ret2 Try.func54 rfl zM zM zD ?_; try exact zX))
    all_goals (refine V.Le.of_eq ?_; congr 3)
    · refine congrArg V.b (decide_eq_decide.2 ⟨fun h => ⟨by omega, h⟩, fun h => h.2⟩)
    · exact congrArg V.b (Eq.symm (decide_eq_false (fun q => by have := q.1; omega)))
def putW (l : List WeightEntry) (w : WeightEntry) : List WeightEntry := l.take (bsW l w) ++ w :: l.drop (bsW l w)
def insW (l : List WeightEntry) (w : WeightEntry) : List WeightEntry :=
  if foundW l w then (if newerW (l.getD (bsW l w) default) w then l.set (bsW l w) w else l) else putW l w
def weightsI (a b : List WeightEntry) : List WeightEntry := b.foldl insW a
def InsW (l : List WeightEntry) (w : WeightEntry) : Prop := AM.Gives Try.prog 56 1000 [.i (bsW l w : Nat), .sl true [weV w]] 72 5 (l.map weV) (fun r => r = (putW l w).map weV)
theorem member_weights (f g : Bool) (a b : List WeightEntry) (ha : a.length ≤ 1000000000) (hI : ∀ k, k < b.length → foundW ((b.take k).foldl insW a) (b.getD k default) = false → InsW ((b.take k).foldl insW a) (b.getD k default)) :
    AM.Fn Try.prog 39 [.sl f (a.map weV), .sl g (b.map weV)] (.sl false ((weightsI a b).map weV)) := by
  (refine spec_of_runs Try.func39 rfl ?_; simp only [Try.f39]; refine ys ?_)
  (refine Runs.lens 1 ?_; refine yl ?_)
  intro hlb
  repeat' (first | refine yw ?_ | ((with_reducible refine Runs.is ?_); first | refine Runs.region (id := 0) ?_ | refine Runs.region (id := 1) ?_ | refine Runs.region (id := 2) ?_ | ((with_reducible refine Runs.isC ?_); refine Runs.cond rfl (zc ?_) (zc ?_) <;> intro hc <;> (try (first | contradiction | (exfalso; omega; done) | (have : hc = trivial := rfl; clear this; clear hc))))) | ((with_reducible refine r_is ?_); first | refine yr ?_ | (refine r_own rfl (duplicate_we f a ha) HbF.h zL1 zD rfl (fun _ hq _ => ?_); (try subst hq); refine r_nn zN zH ?_)) | fail)
  refine Runs.loopI (fun k : Nat => b.length - k) (fun k => k ≤ b.length)
    (fun k => ⟨[.any, .any, .any, .any, .any, .own 11, .any, .any, .any, .any, .any, .any, .sl g (b.map weV), .i (b.length : Nat), .i (k : Nat), .any, .any, .any, .any, .any, .any, .any, .any, .any, .any, .any, .any, .any, .any, .any, .any, .any, .any, .any, .any, .any, .any, .any, .any, .any, .any, .any, .any, .any, .any], [(11, .lst 72 5 (((b.take k).foldl insW a).map weV))]⟩) 0 (by simp) ?_ ?_
  · (refine St.Le.clean zR zU zV)
  rintro k hk ih
  have hst := fun (h : k < b.length) => foldl_take (g := insW) (s := a) h
  have hend : b.length ≤ k → (b.take k).foldl insW a = weightsI a b := fun h => by rw [List.take_of_length_le h]; rfl
  have hIk := hI k
  generalize (b.take k).foldl insW a = l at hst hend hIk ⊢
  by_cases hlt : k < b.length
  · have hst2 := hst hlt
    have hI2 := hIk hlt
    by_cases hf : foundW l (b.getD k default) = true
    · rw [insW, if_pos hf] at hst2
      have hb : bsW l (b.getD k default) < l.length := by
        unfold foundW at hf; exact (of_decide_eq_true hf).1
      repeat' (first | refine yw ?_ | ((with_reducible refine Runs.is ?_); first | refine Runs.region (id := 3) ?_ | refine Runs.region (id := 4) ?_ | refine Runs.region (id := 5) ?_ | refine Runs.region (id := 6) ?_ | refine Runs.region (id := 7) ?_ | refine Runs.drawn (id := 8) mixed zK ?_ | refine Runs.region (id := 9) ?_ | refine Runs.region (id := 10) ?_ | ((with_reducible refine Runs.isC ?_); refine Runs.cond rfl (zc ?_) (zc ?_) <;> intro hc <;> (try (first | contradiction | (exfalso; omega; done) | (have : hc = trivial := rfl; clear this; clear hc))))) | ((with_reducible refine r_is ?_); first | refine yr ?_ | (refine r_lend rfl (search_we false _ _ _ (fun x => weights1 x _) hb55) HbF.h zY rfl ?_; refine r_nn zN zH ?_)) | ((with_reducible refine d_is ?_); first | refine yd ?_ | (refine d_fn rfl (member_newer _ _) HbF.h zL2 zD ?_; refine d_nn zN zH ?_)) | fail)
      · exfalso; rw [hf] at hc; cases hc
      · refine ih (k + 1) _ zo zo ?_
        rw [hst2, newerW, if_pos (by simpa using hc)]
        (refine St.Le.clean zR (by first | (simp [V.usesL, V.uses, AM.look_cons]; done) | (simp [V.usesL, V.uses, AM.look_cons, V.usesL_data, V.uses_data, da_i, da_chV, da_ruV, da_prV, da_enV, da_cfV, da_veV, da_inV, da_edV, da_grV, da_weV, da_mbV, da_suV, da_viV]; done)) ?_; (repeat' (first | exact True.intro | refine And.intro ?_ ?_)); all_goals (first | rfl | (simp [AM.look_cons, List.map_set, weV]; done) | (simp [V.uses, V.usesL, AM.look_cons, V.usesL_data, V.uses_data, da_i, da_chV, da_ruV, da_prV, da_enV, da_cfV, da_veV, da_inV, da_edV, da_grV, da_weV, da_mbV, da_suV, da_viV]; done)))
      · refine ih (k + 1) _ zo zo ?_
        rw [hst2, newerW, if_neg (by simpa using hc)]
        (refine St.Le.clean zR zU zV)
    · have hf2 : foundW l (b.getD k default) = false := by simpa using hf
      rw [insW, if_neg hf] at hst2
      have hI3 := hI2 hf2
      unfold InsW at hI3
      repeat' (first | refine yw ?_ | ((with_reducible refine Runs.is ?_); first | refine Runs.region (id := 3) ?_ | refine Runs.region (id := 4) ?_ | refine Runs.region (id := 5) ?_ | refine Runs.region (id := 6) ?_ | refine Runs.region (id := 7) ?_ | refine Runs.drawn (id := 8) mixed zK ?_ | refine Runs.region (id := 9) ?_ | refine Runs.region (id := 10) ?_ | ((with_reducible refine Runs.isC ?_); refine Runs.cond rfl (zc ?_) (zc ?_) <;> intro hc <;> (try (first | contradiction | (exfalso; omega; done) | (have : hc = trivial := rfl; clear this; clear hc))))) | ((with_reducible refine r_is ?_); first | refine yr ?_ | (refine r_lend rfl (search_we false _ _ _ (fun x => weights1 x _) hb55) HbF.h zY rfl ?_; refine r_nn zN zH ?_) | (refine r_give rfl (hI3) HbF.h rfl rfl zL2 zD ?_; refine r_nn zN zH ?_)) | ((with_reducible refine d_is ?_); first | refine yd ?_) | fail)
      · refine ih (k + 1) _ zo zo ?_
        rw [hst2]
        (refine St.Le.clean zR zU zV)
  · repeat' (first | refine yw ?_ | ((with_reducible refine Runs.is ?_); first | refine Runs.region (id := 3) ?_ | ((with_reducible refine Runs.isC ?_); refine Runs.cond rfl (zc ?_) (zc ?_) <;> intro hc <;> (try (first | contradiction | (exfalso; omega; done) | (have : hc = trivial := rfl; clear this; clear hc))))) | ((with_reducible refine r_is ?_); first | refine yr ?_) | fail)
    rw [hend zo]
    repeat' (first | refine yw ?_ | ((with_reducible refine Runs.is ?_); first | refine Runs.region (id := 11) ?_ | ((with_reducible refine Runs.isC ?_); refine Runs.cond rfl (zc ?_) (zc ?_) <;> intro hc <;> (try (first | contradiction | (exfalso; omega; done) | (have : hc = trivial := rfl; clear this; clear hc))))) | ((with_reducible refine r_is ?_); first | refine yr ?_) | fail)
    exact Runs.ret_frz Try.func39 rfl rfl rfl rfl
end Go.Proofs
