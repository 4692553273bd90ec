/- The reference's All. -/
import Derived.Test.YtmhnmookgbmmbaaGreatW11
import Derived.Test.YtmhnmookgbmmbaaGreatW9
set_option linter.unusedVariables false
set_option linter.unusedSimpArgs false
set_option maxRecDepth 8000
set_option maxHeartbeats 4000000
set_option pp.deepTerms false
set_option pp.deepTerms.threshold 6
namespace Go.Proofs
open Go.AM
attribute [local irreducible] AM.evalR AM.evalD AM.Runs AM.valK AM.dK AM.opK AM.stepR AM.CallS AM.St.Le

def cntR (c : Config) (a : Int) : Int := countR (vectorR c) a
theorem cntR_bd (c : Config) (a : Int) : 0 ≤ cntR c a ∧ cntR c a ≤ 1000000 := (vecFold c [] (by intro e he; cases he)).1.count a
def vec3 (i j k : Int) : Vector := withR (withR (withR [] 201 i) 202 j) 203 k
def allK (a b : Config) (i j : Int) : List Config := (upto (cntR a 203) (cntR b 203)).map fun k => restrictR b (vec3 i j k)
def allJ (a b : Config) (i : Int) : List Config := (upto (cntR a 202) (cntR b 202)).flatMap fun j => allK a b i j
def allR (a b : Config) : List Config := if containsR b a then (upto (cntR a 201) (cntR b 201)).flatMap fun i => allJ a b i else []
theorem withR_len' (v : Vector) (a n : Int) : (withR v a n).length ≤ v.length + 1 := withR_len v a n
theorem ref_All (f g : Bool) (a b : Config) (ha : a.length ≤ 10000000) (hb2 : b.length ≤ 10000000) (hc3 : ∀ t, cntR b t ≤ 3) : AM.Fn Tryz.prog 9 [.sl f (a.map prV), .sl g (b.map prV)] (.sl false ((allR a b).map cfV)) := by
  have a1 := cntR_bd a 201
  have a2 := cntR_bd a 202
  have a3 := cntR_bd a 203
  have b1 := cntR_bd b 201
  have b2 := cntR_bd b 202
  have b3 := cntR_bd b 203
  have c1 := hc3 201
  have c2 := hc3 202
  have c3 := hc3 203
  have na : ∀ t, AM.Fn Tryz.prog 32 [.sl f (a.map prV), .i t] (.i (cntR a t)) := fun t => ref_count f a t zo
  have nb : ∀ t, AM.Fn Tryz.prog 32 [.sl g (b.map prV), .i t] (.i (cntR b t)) := fun t => ref_count g b t zo
  have hK : ∀ i j, (allK a b i j).length ≤ 4 := fun i j => by rw [allK, List.length_map, upto_len]; omega
  have hJl : (upto (cntR a 202) (cntR b 202)).length ≤ 4 := by rw [upto_len]; omega
  have hJ : ∀ i, (allJ a b i).length ≤ 16 := fun i => by
    have := flatMap_len (fun j => allK a b i j) 4 (upto (cntR a 202) (cntR b 202)) (fun j _ => hK i j)
    rw [allJ]; omega
  (refine spec_of_runs Tryz.func9 rfl ?_; simp only [Tryz.f9]; refine ys ?_)
  repeat' (first | refine yw ?_ | ((with_reducible refine Runs.is ?_); first | refine Runs.region (id := 0) ?_ | refine Runs.region (id := 1) ?_ | refine Runs.region (id := 2) ?_ | refine Runs.region (id := 3) ?_ | refine Runs.region (id := 4) ?_ | refine Runs.region (id := 5) ?_ | ((with_reducible refine Runs.isC ?_); refine Runs.cond rfl (zc ?_) (zc ?_) <;> intro hc <;> (try (first | contradiction | (exfalso; omega; done) | (have : hc = trivial := rfl; clear this; clear hc))))) | ((with_reducible refine r_is ?_); first | refine yr ?_ | (refine r_fn rfl (ref_Contains g f _ _) HbF.h zL2 zD ?_; refine r_nn zN zH ?_) | (refine r_fn rfl (na _) HbF.h zL2 zD ?_; refine r_nn zN zH ?_)) | fail)
  · (refine Runs.ret1 Tryz.func9 rfl zM zD ?_; try exact zX)
    rw [allR, hc]; exact V.Le.nil _
  rw [allR, if_pos (by assumption)]
  (refine Runs.weaken (St.Le.nil 5 23 1 5 zd rfl rfl zE) ?_)
  refine Runs.loopI (α := Int) (fun i => (cntR b 201 + 1 - i).toNat) (fun i => cntR a 201 ≤ i ∧ (i ≤ cntR b 201 + 1 ∨ i = cntR a 201))
    (fun i => ⟨[.sl f (a.map prV), .sl g (b.map prV), .any, .any, .any, .own 5, .i 201, .i i, .any, .any, .any, .any, .any, .any, .any, .any, .any, .any, .any, .any, .any, .any, .any, .any, .any, .any, .any, .any, .any, .any, .any, .any, .any, .any, .any, .any, .any, .any, .any, .any, .any, .any, .any, .any, .any, .any, .any, .any, .any, .any, .any, .any, .any, .any, .any, .any, .any, .any, .any, .any, .any, .any, .any, .any, .any, .any, .any, .any], [(5, .lst 23 1 (((upto (cntR a 201) (i - 1)).flatMap fun i => allJ a b i).map cfV))]⟩) (cntR a 201) ⟨Int.le_refl _, .inr rfl⟩ ?_ ?_
  · rw [upto_nil]; (refine St.Le.clean zR zU zV)
  rintro i ⟨hi1, hi2⟩ ih
  repeat' (first | refine yw ?_ | ((with_reducible refine Runs.is ?_); first | refine Runs.region (id := 6) ?_ | refine Runs.region (id := 8) ?_ | refine Runs.region (id := 7) ?_ | ((with_reducible refine Runs.isC ?_); refine Runs.cond rfl (zc ?_) (zc ?_) <;> intro hc <;> (try (first | contradiction | (exfalso; omega; done) | (have : hc = trivial := rfl; clear this; clear hc))))) | ((with_reducible refine r_is ?_); first | refine yr ?_ | (refine r_fn rfl (nb _) HbF.h zL2 zD ?_; refine r_nn zN zH ?_) | (refine r_fn rfl (na _) HbF.h zL2 zD ?_; refine r_nn zN zH ?_)) | fail)
  · have hIl : ((upto (cntR a 201) (i - 1)).flatMap fun i => allJ a b i).length ≤ 64 := by
      have := flatMap_len (fun i => allJ a b i) 16 (upto (cntR a 201) (i - 1)) (fun j _ => hJ j)
      have hu := upto_len (cntR a 201) (i - 1)
      omega
    have hbase : ((upto (cntR a 201) (i + 1 - 1)).flatMap fun i => allJ a b i) = ((upto (cntR a 201) (i - 1)).flatMap fun i => allJ a b i) ++ allJ a b i := by
      rw [show i + 1 - 1 = i by omega, upto_snoc hi1]; simp
    generalize ((upto (cntR a 201) (i - 1)).flatMap fun i => allJ a b i) = accI at hIl hbase ⊢
    refine Runs.loopI (α := Int) (fun j => (cntR b 202 + 1 - j).toNat) (fun j => cntR a 202 ≤ j ∧ (j ≤ cntR b 202 + 1 ∨ j = cntR a 202))
      (fun j => ⟨[.sl f (a.map prV), .sl g (b.map prV), .any, .any, .any, .own 5, .i 201, .i i, .i j, .any, .any, .any, .any, .any, .any, .any, .any, .any, .any, .any, .any, .any, .any, .any, .any, .any, .any, .any, .any, .any, .any, .any, .any, .any, .any, .any, .any, .any, .any, .any, .any, .any, .any, .any, .any, .any, .any, .any, .any, .any, .any, .any, .any, .any, .any, .any, .any, .any, .any, .any, .any, .any, .any, .any, .any, .any, .any, .any], [(5, .lst 23 1 ((accI ++ (upto (cntR a 202) (j - 1)).flatMap fun j => allK a b i j).map cfV))]⟩) (cntR a 202) ⟨Int.le_refl _, .inr rfl⟩ ?_ ?_
    · rw [upto_nil]; (refine St.Le.clean zR zU zV)
    rintro j ⟨hj1, hj2⟩ ihj
    repeat' (first | refine yw ?_ | ((with_reducible refine Runs.is ?_); first | refine Runs.region (id := 9) ?_ | refine Runs.region (id := 11) ?_ | refine Runs.region (id := 10) ?_ | ((with_reducible refine Runs.isC ?_); refine Runs.cond rfl (zc ?_) (zc ?_) <;> intro hc <;> (try (first | contradiction | (exfalso; omega; done) | (have : hc = trivial := rfl; clear this; clear hc))))) | ((with_reducible refine r_is ?_); first | refine yr ?_ | (refine r_fn rfl (nb _) HbF.h zL2 zD ?_; refine r_nn zN zH ?_) | (refine r_fn rfl (na _) HbF.h zL2 zD ?_; refine r_nn zN zH ?_)) | fail)
    · have hIj : ((upto (cntR a 202) (j - 1)).flatMap fun j => allK a b i j).length ≤ 16 := by
        have := flatMap_len (fun j => allK a b i j) 4 (upto (cntR a 202) (j - 1)) (fun k _ => hK i k)
        have hu := upto_len (cntR a 202) (j - 1)
        omega
      have hbasej : ((upto (cntR a 202) (j + 1 - 1)).flatMap fun j => allK a b i j) = ((upto (cntR a 202) (j - 1)).flatMap fun j => allK a b i j) ++ allK a b i j := by
        rw [show j + 1 - 1 = j by omega, upto_snoc hj1]; simp
      generalize ((upto (cntR a 202) (j - 1)).flatMap fun j => allK a b i j) = accJ at hIj hbasej ⊢
      refine Runs.loopI (α := Int) (fun k => (cntR b 203 + 1 - k).toNat) (fun k => cntR a 203 ≤ k ∧ (k ≤ cntR b 203 + 1 ∨ k = cntR a 203))
        (fun k => ⟨[.sl f (a.map prV), .sl g (b.map prV), .any, .any, .any, .own 5, .i 201, .i i, .i j, .i k, .any, .any, .any, .any, .any, .any, .any, .any, .any, .any, .any, .any, .any, .any, .any, .any, .any, .any, .any, .any, .any, .any, .any, .any, .any, .any, .any, .any, .any, .any, .any, .any, .any, .any, .any, .any, .any, .any, .any, .any, .any, .any, .any, .any, .any, .any, .any, .any, .any, .any, .any, .any, .any, .any, .any, .any, .any, .any], [(5, .lst 23 1 ((accI ++ accJ ++ (upto (cntR a 203) (k - 1)).map fun k => restrictR b (vec3 i j k)).map cfV))]⟩) (cntR a 203) ⟨Int.le_refl _, .inr rfl⟩ ?_ ?_
      · rw [upto_nil]; (refine St.Le.clean zR zU zV)
      rintro k ⟨hk1, hk2⟩ ihk
      have hku := upto_len (cntR a 203) (k - 1)
      repeat' (first | refine yw ?_ | ((with_reducible refine Runs.is ?_); first | refine Runs.region (id := 12) ?_ | refine Runs.region (id := 14) ?_ | refine Runs.region (id := 15) ?_ | refine Runs.region (id := 13) ?_ | ((with_reducible refine Runs.isC ?_); refine Runs.cond rfl (zc ?_) (zc ?_) <;> intro hc <;> (try (first | contradiction | (exfalso; omega; done) | (have : hc = trivial := rfl; clear this; clear hc))))) | ((with_reducible refine r_is ?_); first | refine yr ?_ | (refine r_fn rfl (nb _) HbF.h zL2 zD ?_; refine r_nn zN zH ?_) | (refine r_fn rfl (ref_With false [] 201 i zd) HbF.h zL3 zD ?_; refine r_nn zN zH ?_) | (refine r_fn rfl (ref_With false (withR [] 201 i) 202 j (by have := withR_len [] 201 i; simp at this; omega)) HbF.h zL3 zD ?_; refine r_nn zN zH ?_) | (refine r_fn rfl (ref_With false (withR (withR [] 201 i) 202 j) 203 k (by have := withR_len [] 201 i; have := withR_len (withR [] 201 i) 202 j; simp at *; omega)) HbF.h zL3 zD ?_; refine r_nn zN zH ?_) | (refine r_fn rfl (Fn.of_own (ref_Restrict g false b (vec3 i j k) zo)) HbF.h zL2 zD ?_; refine r_nn zN zH ?_) | (refine r_append_full SlF.h SlF.s ZoF.h zd rfl rfl zC zJ zS rfl (fun hn => ?_) (fun hn => ?_) <;> refine r_nn zN zH ?_)) | fail)
      · simp only [Int.reduceAdd] at hc
        refine ihk (k + 1) _ ⟨by omega, by omega⟩ zo ?_
        rw [show k + 1 - 1 = k by omega, upto_snoc hk1]
        (refine St.Le.clean zR (by first | (simp [V.usesL, V.uses, AM.look_cons]; done) | (simp [V.usesL, V.uses, AM.look_cons, V.usesL_data, V.uses_data, da_i, da_chV, da_ruV, da_prV, da_enV, da_cfV, da_veV, da_inV, da_edV, da_grV, da_weV, da_mbV, da_suV, da_viV]; done)) ?_; (repeat' (first | exact True.intro | refine And.intro ?_ ?_)); all_goals (first | rfl | (simp [AM.look_cons, vec3]; done) | (simp [V.uses, V.usesL, AM.look_cons, V.usesL_data, V.uses_data, da_i, da_chV, da_ruV, da_prV, da_enV, da_cfV, da_veV, da_inV, da_edV, da_grV, da_weV, da_mbV, da_suV, da_viV]; done)))
      · simp only [Int.reduceAdd] at *
        repeat' (first | refine yw ?_ | ((with_reducible refine Runs.is ?_); first | refine Runs.region (id := 10) ?_ | ((with_reducible refine Runs.isC ?_); refine Runs.cond rfl (zc ?_) (zc ?_) <;> intro hc <;> (try (first | contradiction | (exfalso; omega; done) | (have : hc = trivial := rfl; clear this; clear hc))))) | ((with_reducible refine r_is ?_); first | refine yr ?_) | fail)
        refine ihj (j + 1) _ ⟨by omega, by omega⟩ zo ?_
        rw [hbasej, allK, upto_end hc hk2 hk1]
        (refine St.Le.clean zR zU zV)
    · simp only [Int.reduceAdd] at *
      repeat' (first | refine yw ?_ | ((with_reducible refine Runs.is ?_); first | refine Runs.region (id := 7) ?_ | ((with_reducible refine Runs.isC ?_); refine Runs.cond rfl (zc ?_) (zc ?_) <;> intro hc <;> (try (first | contradiction | (exfalso; omega; done) | (have : hc = trivial := rfl; clear this; clear hc))))) | ((with_reducible refine r_is ?_); first | refine yr ?_) | fail)
      refine ih (i + 1) _ ⟨by omega, by omega⟩ zo ?_
      rw [hbase, allJ, upto_end hc hj2 hj1]
      (refine St.Le.clean zR zU zV)
  · repeat' (first | refine yw ?_ | ((with_reducible refine Runs.is ?_); first | refine Runs.region (id := 16) ?_ | ((with_reducible refine Runs.isC ?_); refine Runs.cond rfl (zc ?_) (zc ?_) <;> intro hc <;> (try (first | contradiction | (exfalso; omega; done) | (have : hc = trivial := rfl; clear this; clear hc))))) | ((with_reducible refine r_is ?_); first | refine yr ?_) | fail)
    refine Runs.ret_frz Tryz.func9 rfl rfl rfl ?_
    rw [upto_end hc hi2 hi1]
end Go.Proofs
