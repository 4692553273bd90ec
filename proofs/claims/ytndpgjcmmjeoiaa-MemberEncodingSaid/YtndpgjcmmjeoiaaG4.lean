/- Contracts of functions and plain laws: W132, W134, W135, W136, W137, W92, W93, W96, W76, W77, W98, W138, W74, W139. -/
import Derived.Test.YtndpgjcmmjeoiaaMj
import Derived.Test.YtndpgjcmmjeoiaaRows
import Derived.Test.YtndpgjcmmjeoiaaG3
set_option linter.unusedVariables false
set_option linter.unusedSimpArgs false
set_option maxRecDepth 8000
set_option maxHeartbeats 4000000
set_option pp.deepTerms false
set_option pp.deepTerms.threshold 6
namespace Go.Proofs
open Go.AM
attribute [local irreducible] AM.evalR AM.evalD AM.Runs AM.valK AM.dK AM.opK AM.stepR AM.CallS AM.St.Le
theorem encL_append (a b : List Int) : encL (a ++ b) = encL a ++ encL b := by unfold encL; rw [List.flatMap_append]
theorem ref_Numbers (f g : Bool) (b l : List Int) (hb : b.length ≤ 1000000000) (hl : l.length ≤ 1000000000) : AM.Fn Try.prog 25 [.sl f (b.map u8), .sl g (l.map .i)] (.sl (f && decide (l = [])) ((b ++ encL l).map u8)) := by
  (refine spec_of_runs Try.func25 rfl ?_; simp only [Try.f25]; refine ys ?_)
  repeat' (first | refine yw ?_ | ((with_reducible refine Runs.is ?_); first | refine Runs.region (id := 0) ?_ | refine Runs.region (id := 1) ?_ | ((with_reducible refine Runs.isC ?_); refine Runs.cond rfl (zc ?_) (zc ?_) <;> intro hc <;> (try (first | contradiction | (exfalso; omega; done) | (have : hc = trivial := rfl; clear this; clear hc))))) | ((with_reducible refine r_is ?_); first | refine yr ?_) | fail)
  refine Runs.loopI (fun i : Nat => l.length - i) (fun i => i ≤ l.length)
    (fun i => ⟨[.sl (f && decide (i = 0)) ((b ++ encL (l.take i)).map u8), .sl g (l.map .i), .any, .any, .any, .i (i : Nat), .any, .any, .any, .any, .any, .any, .any, .any, .any, .any, .any, .any, .any, .any], []⟩) 0 (Nat.zero_le _) ?_ ?_
  · rw [show b ++ encL (l.take 0) = b by simp [encL], decide_eq_true rfl, Bool.and_true]
    (refine St.Le.clean zR zU zV)
  intro i hi ih
  have hel := encL_len (l.take i)
  rw [List.length_take] at hel
  by_cases hlt : i < l.length
  · have hA := ref_AppendUint (f && decide (i = 0)) (b ++ encL (l.take i)) (IntKind.u64.wrap (l.getD i default)) (by rw [wrap64_mod]; omega) (by rw [List.length_append]; omega)
    have hS : b ++ encL (l.take i) ++ encU (IntKind.u64.wrap (l.getD i default)) = b ++ encL (l.take (i + 1)) := by rw [wrap64_mod, List.append_assoc, encL_succ hlt]
    rw [hS] at hA
    have hne : (f && decide (i + 1 = 0)) = false := by simp
    repeat' (first | refine yw ?_ | ((with_reducible refine Runs.is ?_); first | refine Runs.region (id := 2) ?_ | refine Runs.region (id := 4) ?_ | refine Runs.region (id := 3) ?_ | ((with_reducible refine Runs.isC ?_); refine Runs.cond rfl (zc ?_) (zc ?_) <;> intro hc <;> (try (first | contradiction | (exfalso; omega; done) | (have : hc = trivial := rfl; clear this; clear hc))))) | ((with_reducible refine r_is ?_); first | refine yr ?_ | (refine r_fn rfl (hA) HbF.h zL2 zD ?_; refine r_nn zN zH ?_)) | fail)
    refine ih (i + 1) _ zo zo ?_
    rw [hne]
    (refine St.Le.clean zR zU zV)
  · have hi2 : i = l.length := by omega
    subst hi2
    have hz : decide (l.length = 0) = decide (l = []) := by cases l <;> simp
    rw [List.take_length, hz]
    repeat' (first | refine yw ?_ | ((with_reducible refine Runs.is ?_); first | refine Runs.region (id := 2) ?_ | refine Runs.region (id := 4) ?_ | refine Runs.region (id := 3) ?_ | refine Runs.region (id := 5) ?_ | ((with_reducible refine Runs.isC ?_); refine Runs.cond rfl (zc ?_) (zc ?_) <;> intro hc <;> (try (first | contradiction | (exfalso; omega; done) | (have : hc = trivial := rfl; clear this; clear hc))))) | ((with_reducible refine r_is ?_); first | refine yr ?_) | fail)
    (refine Runs.ret1 Try.func25 rfl zM zD ?_; try exact zX)
theorem ref_Number (f : Bool) (b : List Int) (hB : Bytes b) : AM.Fn Try.prog 21 [.sl f (b.map u8)] (.tup [.i (numE b).1, .i (numE b).2.1, .i (numE b).2.2]) := by
  have hU := ref_Uint f b hB
  have hgo : ∀ r, numE b = r → AM.Fn Try.prog 21 [.sl f (b.map u8)] (.tup [.i r.1, .i r.2.1, .i r.2.2]) := by
    intro r hr
    unfold numE at hr
    have hbd := uintE_bd b
    generalize uintE b = u at *
    obtain ⟨v, n, e⟩ := u
    dsimp only at hr hbd
    (refine spec_of_runs Try.func21 rfl ?_; simp only [Try.f21]; refine ys ?_)
    repeat' (first | refine yw ?_ | ((with_reducible refine Runs.is ?_); first | refine Runs.region ?_ | ((with_reducible refine Runs.isC ?_); refine Runs.cond rfl (zc ?_) (zc ?_) <;> intro hc <;> (try (first | contradiction | (exfalso; omega; done) | (have : hc = trivial := rfl; clear this; clear hc))))) | ((with_reducible refine r_is ?_); first | refine yr ?_ | (refine r_fn rfl (hU) HbF.h zL1 zD ?_; refine r_nn zN zH ?_)) | fail)
    all_goals first
      | (rw [if_pos zo] at hr; subst hr; (refine Runs.ret3 Try.func21 rfl zM zM zM zD ?_; try exact zX); done)
      | (rw [if_neg zo, if_pos zo] at hr; subst hr; (refine Runs.ret3 Try.func21 rfl zM zM zM zD ?_; try exact zX); done)
      | (rw [if_neg zo, if_neg zo] at hr; subst hr; (refine Runs.ret3 Try.func21 rfl zM zM zM zD ?_; try exact zX); done)
      | trace_state
  exact hgo _ rfl
end Go.Proofs
namespace Go.Proofs
open Go.AM
attribute [local irreducible] AM.evalR AM.evalD AM.Runs AM.valK AM.dK AM.opK AM.stepR AM.CallS AM.St.Le
theorem readF_drop (b : List Int) (s : Nat) : ∀ (k a : Nat) (ns : List Int), readF (b.drop s) k a ns = ((readF b k (s + a) ns).1, if (readF b k (s + a) ns).2.2 = 0 then (readF b k (s + a) ns).2.1 - s else 0, (readF b k (s + a) ns).2.2)
  | 0, a, ns => by
    rw [readF, readF, if_pos rfl]
    dsimp only
    rw [Nat.add_sub_cancel_left]
  | k + 1, a, ns => by
    rw [readF, readF, List.drop_drop]
    by_cases h : (numE (b.drop (s + a))).2.2 ≠ 0
    · rw [if_pos h, if_pos h]
      dsimp only
      rw [if_neg h]
    · rw [if_neg h, if_neg h, readF_drop b s k, Nat.add_assoc]
theorem dl_dr8 (n : Nat) (xs : List Int) : V.dataL (List.drop n (xs.map u8)) = true := by rw [← List.map_drop]; exact dl_u8 _
attribute [go_sem] dl_dr8
@[reducible] def reV (r : List Int × Nat × Int) : V := .tup [.sl false (r.1.map .i), .i (r.2.1 : Nat), .i r.2.2]
theorem ref_Read (f : Bool) (b : List Int) (k : Nat) (hB : Bytes b) (hb : b.length ≤ 4611686018427387904) (hk : k ≤ 1000) : AM.Fn Try.prog 22 [.sl f (b.map u8), .i (k : Nat)] (reV (readF b k 0 [])) := by
  have hgo : ∀ r, readF b k 0 [] = r → AM.Fn Try.prog 22 [.sl f (b.map u8), .i (k : Nat)] (reV r) := by
    intro r hr
    (refine spec_of_runs Try.func22 rfl ?_; simp only [Try.f22]; refine ys ?_)
    repeat' (first | refine yw ?_ | ((with_reducible refine Runs.is ?_); first | refine Runs.region (id := 0) ?_ | refine Runs.region (id := 1) ?_ | refine Runs.region (id := 2) ?_ | refine Runs.region (id := 3) ?_ | ((with_reducible refine Runs.isC ?_); refine Runs.cond rfl (zc ?_) (zc ?_) <;> intro hc <;> (try (first | contradiction | (exfalso; omega; done) | (have : hc = trivial := rfl; clear this; clear hc))))) | ((with_reducible refine r_is ?_); first | refine yr ?_) | fail)
    (refine Runs.weaken (St.Le.nil 7 3 1 7 zd rfl rfl zE) ?_)
    refine Runs.loopI (α := Nat × Nat × List Int) (fun a => k - a.1) (fun a => a.1 ≤ k ∧ a.2.1 ≤ b.length ∧ a.2.2.length = a.1 ∧ readF b (k - a.1) a.2.1 a.2.2 = r)
      (fun a => ⟨[.sl f (b.map u8), .i (k : Nat), .any, .any, .any, .any, .any, .own 7, .i (a.2.1 : Nat), .i (a.1 : Nat), .any, .any, .any, .any, .any, .any, .any, .any, .any, .any, .any, .any, .any, .any, .any, .any, .any, .any, .any, .any, .any, .any, .any, .any, .any, .any, .any, .any], [(7, .lst tInt 1 (a.2.2.map .i))]⟩) (0, 0, []) ⟨Nat.zero_le _, Nat.zero_le _, rfl, hr⟩ ?_ ?_
    · (refine St.Le.clean zR zU zV)
    rintro ⟨i, a, acc⟩ ⟨h0, h1, h2, h3⟩ ih
    dsimp only at h0 h1 h2 h3 ih ⊢
    by_cases hlt : i < k
    · rw [show k - i = (k - (i + 1)) + 1 by omega, readF] at h3
      have hN := ref_Number f (b.drop a) (hB.drop a)
      rw [List.map_drop, show (b.map u8).drop a = (b.map u8).drop (a : Int).toNat from rfl] at hN
      have hbd := numE_bd (b.drop a)
      rw [List.length_drop] at hbd
      generalize numE (b.drop a) = u at *
      obtain ⟨v, n, e⟩ := u
      dsimp only at h3 hN hbd
      by_cases he : e = 0
      · subst he
        rw [if_neg zd] at h3
        obtain ⟨n', rfl⟩ := Int.eq_ofNat_of_zero_le hbd.2.1.1
        have h3' : readF b (k - (i + 1)) (a + n') (acc ++ [v]) = r := h3
        repeat' (first | refine yw ?_ | ((with_reducible refine Runs.is ?_); first | refine Runs.region (id := 4) ?_ | refine Runs.region (id := 6) ?_ | refine Runs.region (id := 7) ?_ | refine Runs.region (id := 8) ?_ | refine Runs.region (id := 9) ?_ | refine Runs.region (id := 10) ?_ | refine Runs.region (id := 5) ?_ | ((with_reducible refine Runs.isC ?_); refine Runs.cond rfl (zc ?_) (zc ?_) <;> intro hc <;> (try (first | contradiction | (exfalso; omega; done) | (have : hc = trivial := rfl; clear this; clear hc))))) | ((with_reducible refine r_is ?_); first | refine yr ?_ | (refine r_fn rfl (hN) HbF.h zL1 zD ?_; refine r_nn zN zH ?_) | (refine r_append_full SlF.h SlF.s ZoF.h zd rfl rfl zC zJ zS rfl (fun hn => ?_) (fun hn => ?_) <;> refine r_nn zN zH ?_)) | fail)
        refine ih (i + 1, a + n', acc ++ [v]) _ ⟨by dsimp only; omega, by dsimp only; omega, by dsimp only; rw [List.length_append, List.length_singleton]; omega, h3'⟩ (by dsimp only; omega) ?_
        (refine St.Le.clean zR (by first | (simp [V.usesL, V.uses, AM.look_cons]; done) | (simp [V.usesL, V.uses, AM.look_cons, V.usesL_data, V.uses_data, da_i, da_chV, da_ruV, da_prV, da_enV, da_cfV, da_veV, da_inV, da_edV, da_grV, da_weV, da_mbV, da_suV, da_viV]; done)) ?_; (repeat' (first | exact True.intro | refine And.intro ?_ ?_)); all_goals (first | rfl | (simp [AM.look_cons, List.map_append]; done) | (simp [V.uses, V.usesL, AM.look_cons, V.usesL_data, V.uses_data, da_i, da_chV, da_ruV, da_prV, da_enV, da_cfV, da_veV, da_inV, da_edV, da_grV, da_weV, da_mbV, da_suV, da_viV]; done)))
      · rw [if_pos he] at h3
        subst h3
        repeat' (first | refine yw ?_ | ((with_reducible refine Runs.is ?_); first | refine Runs.region (id := 4) ?_ | refine Runs.region (id := 6) ?_ | refine Runs.region (id := 7) ?_ | refine Runs.region (id := 8) ?_ | refine Runs.region (id := 9) ?_ | refine Runs.region (id := 10) ?_ | refine Runs.region (id := 5) ?_ | ((with_reducible refine Runs.isC ?_); refine Runs.cond rfl (zc ?_) (zc ?_) <;> intro hc <;> (try (first | contradiction | (exfalso; omega; done) | (have : hc = trivial := rfl; clear this; clear hc))))) | ((with_reducible refine r_is ?_); first | refine yr ?_ | (refine r_fn rfl (hN) HbF.h zL1 zD ?_; refine r_nn zN zH ?_) | (refine r_append_full SlF.h SlF.s ZoF.h zd rfl rfl zC zJ zS rfl (fun hn => ?_) (fun hn => ?_) <;> refine r_nn zN zH ?_)) | fail)
        refine Runs.weaken (s' := ⟨[.any, .any, .any, .any, .sl false [], .i 0, .i e, .any, .any, .any, .any, .any, .any, .any, .any, .any, .any, .any, .any, .any, .any, .any, .any, .any, .any, .any, .any, .any, .any, .any, .any, .any, .any, .any, .any, .any, .any, .any], []⟩) (by (refine St.Le.clean zR zU zV)) ?_
        (refine Runs.ret3 Try.func22 rfl zM zM zM zD ?_; try exact zX)
    · rw [show k - i = 0 by omega, readF] at h3
      subst h3
      repeat' (first | refine yw ?_ | ((with_reducible refine Runs.is ?_); first | refine Runs.region (id := 4) ?_ | ((with_reducible refine Runs.isC ?_); refine Runs.cond rfl (zc ?_) (zc ?_) <;> intro hc <;> (try (first | contradiction | (exfalso; omega; done) | (have : hc = trivial := rfl; clear this; clear hc))))) | ((with_reducible refine r_is ?_); first | refine yr ?_) | fail)
      (refine Runs.weaken (St.Le.freeze_lst 7 rfl) ?_; refine yf ?_)
      repeat' (first | refine yw ?_ | ((with_reducible refine Runs.is ?_); first | refine Runs.region (id := 11) ?_ | ((with_reducible refine Runs.isC ?_); refine Runs.cond rfl (zc ?_) (zc ?_) <;> intro hc <;> (try (first | contradiction | (exfalso; omega; done) | (have : hc = trivial := rfl; clear this; clear hc))))) | ((with_reducible refine r_is ?_); first | refine yr ?_) | fail)
      (refine Runs.ret3 Try.func22 rfl zM zM zM zD ?_; try exact zX)
  exact hgo _ rfl
end Go.Proofs
namespace Go.Proofs
open Go.AM
attribute [local irreducible] AM.evalR AM.evalD AM.Runs AM.valK AM.dK AM.opK AM.stepR AM.CallS AM.St.Le
theorem ref_Num1 (f g : Bool) (b : List Int) (x : Int) (l : List Int) (hb : b.length ≤ 1000000000) (hl : l.length ≤ 100) : AM.Fn Try.prog 25 [.sl f (b.map u8), .sl g ((x :: l).map .i)] (byV (b ++ encL (x :: l))) := by
  have := ref_Numbers f g b (x :: l) hb (by rw [List.length_cons]; omega)
  rw [show (f && decide (x :: l = [])) = false by simp] at this
  exact this
theorem numsP_enc {ms : List Member} {i : Nat} (h : i < ms.length) : encL (numsP ms i) ++ encL [(ms.getD i default).server, (ms.getD i default).weight] = encL (numsP ms (i + 1)) := by rw [← encL_append, numsP_succ h]
theorem ref_AppendGenesis (f : Bool) (b : List Int) (g : View) (hb : b.length ≤ 1000000) (hm : g.members.length ≤ 1000000) : AM.Fn Try.prog 10 [.sl f (b.map u8), viV g] (byV (b ++ encL (numsG g))) := by
  obtain ⟨ms, ru⟩ := g
  dsimp only at hm
  have hA := ref_Num1 f true b (ms.length : Nat) [] zo zd
  rw [List.map_cons, List.map_nil] at hA
  have hlen := fun i => numsP_len ms i
  (refine spec_of_runs Try.func10 rfl ?_; simp only [Try.f10]; refine ys ?_)
  repeat' (first | refine yw ?_ | ((with_reducible refine Runs.is ?_); first | refine Runs.region (id := 0) ?_ | refine Runs.region (id := 1) ?_ | refine Runs.region (id := 2) ?_ | ((with_reducible refine Runs.isC ?_); refine Runs.cond rfl (zc ?_) (zc ?_) <;> intro hc <;> (try (first | contradiction | (exfalso; omega; done) | (have : hc = trivial := rfl; clear this; clear hc))))) | ((with_reducible refine r_is ?_); first | refine yr ?_ | (refine r_fn rfl (hA) HbF.h zL2 zD ?_; refine r_nn zN zH ?_)) | fail)
  refine Runs.loopI (fun i : Nat => ms.length - i) (fun i => i ≤ ms.length)
    (fun i => ⟨[.sl false ((b ++ encL (numsP ms i)).map u8), .any, .any, .ptr 3 0 0, .any, .i (i : Nat), .any, .any, .any, .any, .any, .any, .any, .any, .any, .any, .any, .any, .any, .any, .any, .any, .any, .any, .any, .any, .any, .any, .any, .any, .any, .any, .any, .any, .any, .any, .any, .any, .any, .any, .any, .any, .any, .any, .any, .any], [(3, .var tGen (viV ⟨ms, ru⟩))]⟩) 0 (Nat.zero_le _) ?_ ?_
  · rw [show numsP ms 0 = [(ms.length : Int)] by simp [numsP]]
    (refine St.Le.clean zR zU zV)
  intro i hi ih
  have hel := encL_len (numsP ms i)
  rw [hlen i hi] at hel
  by_cases hlt : i < ms.length
  · have hB := ref_Num1 false true (b ++ encL (numsP ms i)) (ms.getD i default).server [(ms.getD i default).weight] (by rw [List.length_append]; omega) (by simp)
    rw [List.append_assoc, numsP_enc hlt, List.map_cons, List.map_cons, List.map_nil] at hB
    repeat' (first | refine yw ?_ | ((with_reducible refine Runs.is ?_); first | refine Runs.region (id := 3) ?_ | refine Runs.drawn (id := 5) mixed zK ?_ | refine Runs.region (id := 4) ?_ | ((with_reducible refine Runs.isC ?_); refine Runs.cond rfl (zc ?_) (zc ?_) <;> intro hc <;> (try (first | contradiction | (exfalso; omega; done) | (have : hc = trivial := rfl; clear this; clear hc))))) | ((with_reducible refine r_is ?_); first | refine yr ?_) | ((with_reducible refine d_is ?_); first | refine yd ?_ | (refine d_fn rfl (hB) HbF.h zL2 zD ?_; refine d_nn zN zH ?_)) | fail)
    refine ih (i + 1) _ zo zo ?_
    (refine St.Le.clean zR zU zV)
  · have hi2 : i = ms.length := by omega
    subst hi2
    have hC := ref_Num1 false true (b ++ encL (numsP ms ms.length)) ru.kind [ru.columns, ru.faulty] (by rw [List.length_append]; omega) (by simp)
    rw [List.append_assoc, ← encL_append, show numsP ms ms.length ++ [ru.kind, ru.columns, ru.faulty] = numsG ⟨ms, ru⟩ from rfl, List.map_cons, List.map_cons, List.map_cons, List.map_nil] at hC
    repeat' (first | refine yw ?_ | ((with_reducible refine Runs.is ?_); first | refine Runs.region (id := 3) ?_ | refine Runs.drawn (id := 5) mixed zK ?_ | refine Runs.region (id := 4) ?_ | refine Runs.region (id := 6) ?_ | ((with_reducible refine Runs.isC ?_); refine Runs.cond rfl (zc ?_) (zc ?_) <;> intro hc <;> (try (first | contradiction | (exfalso; omega; done) | (have : hc = trivial := rfl; clear this; clear hc))))) | ((with_reducible refine r_is ?_); first | refine yr ?_ | (refine r_fn rfl (hC) HbF.h zL2 zD ?_; refine r_nn zN zH ?_)) | ((with_reducible refine d_is ?_); first | refine yd ?_ | (refine d_fn rfl (hC) HbF.h zL2 zD ?_; refine d_nn zN zH ?_)) | fail)
    (refine Runs.ret1 Try.func10 rfl zM zD ?_; try exact zX)
end Go.Proofs
namespace Go.Proofs
open Go.AM
attribute [local irreducible] AM.evalR AM.evalD AM.Runs AM.valK AM.dK AM.opK AM.stepR AM.CallS AM.St.Le
theorem memsN_succ (ns : List Int) (i : Nat) : memsN (i + 1) ns = memsN i ns ++ [⟨ns.getD (2 * i) default, ns.getD (2 * i + 1) default⟩] := by
  unfold memsN
  rw [List.range_succ, List.map_append]; rfl
theorem readF_ge (b : List Int) : ∀ (k a : Nat) (ns : List Int), (readF b k a ns).2.2 = 0 → a ≤ (readF b k a ns).2.1
  | 0, a, ns, _ => Nat.le_refl _
  | k + 1, a, ns, he => by
    rw [readF] at he ⊢
    split at he
    · rename_i h1; exact absurd he h1
    · rename_i h1
      rw [if_neg h1]
      have := readF_ge b k (a + (numE (b.drop a)).2.1.toNat) (ns ++ [(numE (b.drop a)).1]) he
      omega
theorem ref_DecodeGenesis (f : Bool) (b : List Int) (hB : Bytes b) (hb : b.length ≤ 4611686018427387904) : AM.Fn Try.prog 6 [.sl f (b.map u8)] (deV (decE b)) := by
  have hgo : ∀ d, decE b = d → AM.Fn Try.prog 6 [.sl f (b.map u8)] (deV d) := ?_
  · exact hgo _ rfl
  intro d hd
  unfold decE at hd
  have hN := ref_Number f b hB
  have hbd := numE_bd b
  generalize hr : numE b = r at hd hN hbd
  obtain ⟨v, n, e⟩ := r
  dsimp only at hd hN hbd
  (refine spec_of_runs Try.func6 rfl ?_; simp only [Try.f6]; refine ys ?_)
  repeat' (first | refine yw ?_ | ((with_reducible refine Runs.is ?_); first | refine Runs.region (id := 0) ?_ | refine Runs.region (id := 1) ?_ | refine Runs.region (id := 2) ?_ | refine Runs.region (id := 3) ?_ | refine Runs.region (id := 4) ?_ | refine Runs.region (id := 5) ?_ | ((with_reducible refine Runs.isC ?_); refine Runs.cond rfl (zc ?_) (zc ?_) <;> intro hc <;> (try (first | contradiction | (exfalso; omega; done) | (have : hc = trivial := rfl; clear this; clear hc))))) | ((with_reducible refine r_is ?_); first | refine yr ?_ | (refine r_fn rfl (hN) HbF.h zL1 zD ?_; refine r_nn zN zH ?_)) | fail)
  · rw [if_pos zo] at hd
    subst hd
    refine Runs.weaken (St.Le.leVar 2 0 (V.Le.nil false) rfl rfl) ?_
    exact Runs.retC3 (id := 2) rfl rfl rfl rfl TyF.h ⟨Nat.le_refl 4, by decide⟩ rfl rfl rfl rfl (V.Le.refl _)
  · rw [if_neg zo, if_pos zo] at hd
    subst hd
    refine Runs.weaken (St.Le.leVar 2 0 (V.Le.nil false) rfl rfl) ?_
    exact Runs.retC3 (id := 2) rfl rfl rfl rfl TyF.h ⟨Nat.le_refl 4, by decide⟩ rfl rfl rfl rfl (V.Le.refl _)
  have he : e = 0 := by omega
  subst he
  rw [if_neg zo, if_neg zo] at hd
  obtain ⟨m, rfl⟩ : ∃ m : Nat, v = m := ⟨v.toNat, by omega⟩
  obtain ⟨a, rfl⟩ : ∃ a : Nat, n = a := ⟨n.toNat, by omega⟩
  rw [Int.toNat_natCast, Int.toNat_natCast] at hd
  have hR := ref_Read f (b.drop a) (2 * m + 3) (hB.drop a) (by rw [List.length_drop]; omega) zo
  rw [readF_drop b a (2 * m + 3) 0 [], Nat.add_zero] at hR
  have hfb := readF_bd b (2 * m + 3) a [] zo
  have hge := readF_ge b (2 * m + 3) a []
  generalize readF b (2 * m + 3) a [] = u at *
  obtain ⟨ns, p, e⟩ := u
  dsimp only [List.length_nil] at hd hR hfb hge
  rw [List.map_drop, show (b.map u8).drop a = (b.map u8).drop (a : Int).toNat from rfl, show (((2 * m + 3 : Nat)) : Int) = 2 * (m : Int) + 3 by omega] at hR
  repeat' (first | refine yw ?_ | ((with_reducible refine Runs.is ?_); first | refine Runs.region (id := 6) ?_ | refine Runs.region (id := 7) ?_ | refine Runs.region (id := 8) ?_ | ((with_reducible refine Runs.isC ?_); refine Runs.cond rfl (zc ?_) (zc ?_) <;> intro hc <;> (try (first | contradiction | (exfalso; omega; done) | (have : hc = trivial := rfl; clear this; clear hc))))) | ((with_reducible refine r_is ?_); first | refine yr ?_ | (refine r_fn rfl (hR) HbF.h zL2 zD ?_; refine r_nn zN zH ?_)) | fail)
  · rw [if_pos (by assumption)] at hd
    subst hd
    refine Runs.weaken (St.Le.leVar 2 0 (V.Le.nil false) rfl rfl) ?_
    exact Runs.retC3 (id := 2) rfl rfl rfl rfl TyF.h ⟨Nat.le_refl 4, by decide⟩ rfl rfl rfl rfl (V.Le.refl _)
  have he : e = 0 := by omega
  subst he
  rw [if_neg zo] at hd
  rw [if_pos rfl]
  have hln := (hfb rfl).1
  have hge2 := hge rfl
  repeat' (first | (with_reducible refine And.intro (by intro a i h; cases h) ?_) | refine yw ?_ | ((with_reducible refine Runs.is ?_); first | (refine Runs.drawnT (id := 9) [] 19 mixed zK (by decide +kernel) ?_; dsimp only [List.take, List.drop]) | refine Runs.drawn (id := 9) mixed zK ?_ | refine Runs.region (id := 10) ?_ | ((with_reducible refine Runs.isC ?_); refine Runs.cond rfl (zc ?_) (zc ?_) <;> intro hc <;> (try (first | contradiction | (exfalso; omega; done) | (have : hc = trivial := rfl; clear this; clear hc))))) | ((with_reducible refine r_is ?_); first | refine yr ?_) | ((with_reducible refine d_is ?_); first | refine yd ?_) | fail)
  refine Runs.weaken (St.Le.nilVar 81 11 0 38 2 zd rfl rfl rfl) ?_
  have t0 : (2 * (m : Int)).toNat = 2 * m := by omega
  have t1 : (2 * (m : Int) + 1).toNat = 2 * m + 1 := by omega
  have t2 : (2 * (m : Int) + 2).toNat = 2 * m + 2 := by omega
  rw [t0, t1, t2]
  generalize hg0 : ns.getD (2 * m) default = r0
  generalize hg1 : ns.getD (2 * m + 1) default = r1
  generalize hg2 : ns.getD (2 * m + 2) default = r2
  have hgen : genN m ns = ⟨memsN m ns, ⟨r0, r1, r2⟩⟩ := by unfold genN; rw [← hg0, ← hg1, ← hg2]; rfl
  rw [hgen] at hd
  refine Runs.loopI (fun i : Nat => m - i) (fun i => i ≤ m)
    (fun i => ⟨[.any, .any, .ptr 2 0 0, .any, .any, .i (m : Nat), .i (a : Nat), .any, .sl false (ns.map .i), .i (p - a : Nat), .any, .ptr 11 0 0, .i (i : Nat), .any, .any, .any, .any, .any, .any, .any, .any, .any, .any, .any, .any, .any, .any, .any, .any, .any, .any, .any, .any, .any, .any, .any, .any, .any, .any, .any, .any, .any, .any, .any, .any, .any, .any, .any, .any, .any, .any, .any, .any, .any, .any, .any, .any, .any, .any, .any, .any, .any, .any, .any, .any, .any, .any, .any, .any, .any, .any, .any, .any, .any, .any, .any, .any, .any, .any, .any, .any, .any, .any, .any, .any, .any, .any, .any, .any, .any, .any, .any, .any], [(81, .lst 38 2 ((memsN i ns).map mbV)), (11, .var 26 (.agg [.own 81, .i r0, .i r1, .i r2])), (2, .var 26 zGen)]⟩) 0 (Nat.zero_le _) ?_ ?_
  · rw [show memsN 0 ns = [] from rfl]
    (refine St.Le.clean zR zU zV)
  intro i hi ih
  have hml := memsN_len i ns
  by_cases hlt : i < m
  · have u0 : (2 * (i : Int)).toNat = 2 * i := by omega
    have u1 : (2 * (i : Int) + 1).toNat = 2 * i + 1 := by omega
    repeat' (first | (with_reducible refine And.intro (by intro a i h; cases h) ?_) | refine yw ?_ | ((with_reducible refine Runs.is ?_); first | (refine Runs.drawnT (id := 13) [] 15 mixed zK (by decide +kernel) ?_; dsimp only [List.take, List.drop]) | refine Runs.region (id := 11) ?_ | refine Runs.drawn (id := 13) mixed zK ?_ | refine Runs.region (id := 12) ?_ | ((with_reducible refine Runs.isC ?_); refine Runs.cond rfl (zc ?_) (zc ?_) <;> intro hc <;> (try (first | contradiction | (exfalso; omega; done) | (have : hc = trivial := rfl; clear this; clear hc))))) | ((with_reducible refine r_is ?_); first | refine yr ?_ | (refine r_append_full SlF.h SlF.s ZoF.h zd rfl rfl zC zJ zS rfl (fun hn => ?_) (fun hn => ?_) <;> refine r_nn zN zH ?_)) | ((with_reducible refine d_is ?_); first | refine yd ?_) | fail)
    refine And.intro (fun x y hxy => by cases hxy) ?_
    simp only [List.map_cons, List.map_nil, ev, List.getD_cons_succ, List.getD_cons_zero]
    rw [u0, u1]
    repeat' (first | (with_reducible refine And.intro (by intro a i h; cases h) ?_) | refine yw ?_ | ((with_reducible refine Runs.is ?_); first | (refine Runs.drawnT (id := 13) [] 15 mixed zK (by decide +kernel) ?_; dsimp only [List.take, List.drop]) | refine Runs.drawn (id := 13) mixed zK ?_ | ((with_reducible refine Runs.isC ?_); refine Runs.cond rfl (zc ?_) (zc ?_) <;> intro hc <;> (try (first | contradiction | (exfalso; omega; done) | (have : hc = trivial := rfl; clear this; clear hc))))) | ((with_reducible refine r_is ?_); first | refine yr ?_ | (refine r_append_full SlF.h SlF.s ZoF.h zd rfl rfl zC zJ zS rfl (fun hn => ?_) (fun hn => ?_) <;> refine r_nn zN zH ?_)) | ((with_reducible refine d_is ?_); first | refine yd ?_) | fail)
    repeat' (first | refine yw ?_ | ((with_reducible refine Runs.is ?_); first | refine Runs.region (id := 12) ?_ | ((with_reducible refine Runs.isC ?_); refine Runs.cond rfl (zc ?_) (zc ?_) <;> intro hc <;> (try (first | contradiction | (exfalso; omega; done) | (have : hc = trivial := rfl; clear this; clear hc))))) | ((with_reducible refine r_is ?_); first | refine yr ?_) | fail)
    refine ih (i + 1) _ zo zo ?_
    rw [memsN_succ]
    (refine St.Le.clean zR (by first | (simp [V.usesL, V.uses, AM.look_cons]; done) | (simp [V.usesL, V.uses, AM.look_cons, V.usesL_data, V.uses_data, da_i, da_chV, da_ruV, da_prV, da_enV, da_cfV, da_veV, da_inV, da_edV, da_grV, da_weV, da_mbV, da_suV, da_viV]; done)) ?_; (repeat' (first | exact True.intro | refine And.intro ?_ ?_)); all_goals (first | rfl | (simp [AM.look_cons, List.map_append, mbV]; done) | (simp [V.uses, V.usesL, AM.look_cons, V.usesL_data, V.uses_data, da_i, da_chV, da_ruV, da_prV, da_enV, da_cfV, da_veV, da_inV, da_edV, da_grV, da_weV, da_mbV, da_suV, da_viV]; done)))
  · have hi2 : i = m := by omega
    subst hi2
    repeat' (first | refine yw ?_ | ((with_reducible refine Runs.is ?_); first | refine Runs.region (id := 11) ?_ | ((with_reducible refine Runs.isC ?_); refine Runs.cond rfl (zc ?_) (zc ?_) <;> intro hc <;> (try (first | contradiction | (exfalso; omega; done) | (have : hc = trivial := rfl; clear this; clear hc))))) | ((with_reducible refine r_is ?_); first | refine yr ?_) | fail)
    (refine Runs.weaken (St.Le.freeze_lst 81 rfl) ?_; refine yf ?_)
    have hV := vax_Gen ⟨memsN i ns, ⟨r0, r1, r2⟩⟩ (by dsimp only; omega)
    generalize genE ⟨memsN i ns, ⟨r0, r1, r2⟩⟩ = e at *
    generalize memsN i ns = ms at *
    repeat' (first | refine yw ?_ | ((with_reducible refine Runs.is ?_); first | refine Runs.region (id := 14) ?_ | refine Runs.region (id := 15) ?_ | refine Runs.region (id := 16) ?_ | refine Runs.region (id := 17) ?_ | ((with_reducible refine Runs.isC ?_); refine Runs.cond rfl (zc ?_) (zc ?_) <;> intro hc <;> (try (first | contradiction | (exfalso; omega; done) | (have : hc = trivial := rfl; clear this; clear hc))))) | ((with_reducible refine r_is ?_); first | refine yr ?_ | (refine r_fn rfl (hV) HbF.h zL1 zD ?_; refine r_nn zN zH ?_)) | fail)
    · rw [if_pos zo] at hd
      subst hd
      refine Runs.weaken (St.Le.leVar 2 0 (V.Le.nil false) rfl rfl) ?_
      exact Runs.retC3 (id := 2) rfl rfl rfl rfl TyF.h ⟨Nat.le_refl 4, by decide⟩ rfl rfl rfl rfl (V.Le.refl _)
    · rw [if_neg zo] at hd
      subst hd
      have hpa : (a : Int) + ((p - a : Nat) : Int) = (p : Int) := by omega
      rw [hpa]
      refine Runs.retC3 (id := 2) rfl rfl rfl rfl TyF.h ⟨Nat.le_refl 4, by decide⟩ rfl rfl rfl ?_ (V.Le.refl _)
      show V.data (.tup [.agg [.sl false (ms.map mbV), .i _, .i _, .i _], .i _, .i _]) = true
      simp only [V.data, V.dataL, dataL_map mbV ms fun _ => rfl, Bool.and_self]
end Go.Proofs
namespace Go.Proofs
open Go.AM
attribute [local irreducible] AM.evalR AM.evalD AM.Runs AM.valK AM.dK AM.opK AM.stepR AM.CallS AM.St.Le
theorem orS_add {v c : Int} {i : Nat} (hi : i ≤ 9) (hv : 0 ≤ v) (hv2 : v < 2 ^ (7 * i)) (hs : v + c % 128 * 2 ^ (7 * i) < 18446744073709551616) : orS v c i = v + c % 128 * 2 ^ (7 * i) := by
  obtain ⟨a, rfl⟩ := Int.eq_ofNat_of_zero_le hv
  obtain ⟨t, ht⟩ := Int.eq_ofNat_of_zero_le (show 0 ≤ c % 128 by omega)
  unfold orS
  rw [ht] at hs ⊢
  have hm : min (7 * (i : Int)).toNat IntKind.u64.bits = 7 * i := by
    rw [show (7 * (i : Int)).toNat = 7 * i by omega, show IntKind.u64.bits = 64 from rfl]; omega
  rw [hm]
  have hp : ((2 : Int) ^ (7 * i)) = ((2 ^ (7 * i) : Nat) : Int) := by rw [Int.natCast_pow]; rfl
  rw [hp] at hv2 hs ⊢
  have hor : a ||| (t * 2 ^ (7 * i)) = a + t * 2 ^ (7 * i) := by
    rw [Nat.or_comm, Nat.mul_comm t, ← Nat.two_pow_add_eq_or_of_lt zo t, Nat.add_comm]
  generalize 2 ^ (7 * i) = q at *
  rw [← Int.natCast_mul] at hs ⊢
  generalize t * q = m at *
  rw [wrap64 zo]
  unfold orZ
  rw [show IntKind.u64.bits = 64 from rfl, BitVec.toNat_or, BitVec.toNat_ofInt, BitVec.toNat_ofInt]
  rw [show ((a : Int) % ((2 ^ 64 : Nat) : Int)).toNat = a by omega, show ((m : Int) % ((2 ^ 64 : Nat) : Int)).toNat = m by omega, hor]
  rw [wrap64 zo]; omega
theorem uintF_enc (r : List Int) : ∀ (m : Nat) (pre : List Int) (v w : Int), pre.length + m = 9 → 0 ≤ v → v < 2 ^ (7 * pre.length) → 0 ≤ w → v + w * 2 ^ (7 * pre.length) < 18446744073709551616 → (0 < pre.length → 0 < w) →
    uintF (pre ++ (encF m w ++ r)) (m + 1) v pre.length = (v + w * 2 ^ (7 * pre.length), ((pre.length + (encF m w).length : Nat) : Int), 0)
  | 0, pre, v, w, hm, hv, hv2, hw, hs, hp => by
    have hw2 : w ≤ 1 := by
      rw [show pre.length = 9 by omega] at hs
      have : (2 : Int) ^ (7 * 9) = 9223372036854775808 := by decide
      rw [this] at hs; omega
    have hw3 : 0 < w := hp zo
    rw [uintF, encF, if_neg (by simp), show (pre ++ ([w] ++ r)).getD pre.length default = w by simp [List.getD_eq_getElem?_getD], if_neg zo, if_neg zo, if_neg zo]
    rw [orS_add zo hv hv2 (by rw [show w % 128 = w by omega]; exact hs), show w % 128 = w by omega]
    simp
  | m + 1, pre, v, w, hm, hv, hv2, hw, hs, hp => by
    have hP : (0 : Int) < 2 ^ (7 * pre.length) := Int.pow_pos zd
    have hP2 : (2 : Int) ^ (7 * (pre.length + 1)) = 128 * 2 ^ (7 * pre.length) := by rw [Nat.mul_add, Int.pow_add, Int.mul_comm]; rfl
    have hl := encF_pos (m + 1) w
    rw [uintF, if_neg (by rw [List.length_append, List.length_append]; omega), encF]
    by_cases h : 128 ≤ w
    · rw [if_pos h, show (pre ++ ((w % 128 + 128) :: encF m (w / 128) ++ r)).getD pre.length default = w % 128 + 128 by simp [List.getD_eq_getElem?_getD], if_neg zo, if_pos zo]
      have e1 : (w % 128 + 128) % 128 = w % 128 := by omega
      have e2 : w * 2 ^ (7 * pre.length) = w % 128 * 2 ^ (7 * pre.length) + w / 128 * (128 * 2 ^ (7 * pre.length)) := by
        rw [← Int.mul_assoc, ← Int.add_mul]; congr 1; omega
      have e3 : 0 ≤ w / 128 * (128 * 2 ^ (7 * pre.length)) := Int.mul_nonneg zo zo
      have e4 : 0 ≤ w % 128 * 2 ^ (7 * pre.length) := Int.mul_nonneg zo zo
      have e5 : w % 128 * 2 ^ (7 * pre.length) ≤ 127 * 2 ^ (7 * pre.length) := Int.mul_le_mul_of_nonneg_right zo zo
      rw [orS_add zo hv hv2 (by rw [e1]; omega), e1]
      have ih := uintF_enc r m (pre ++ [w % 128 + 128]) (v + w % 128 * 2 ^ (7 * pre.length)) (w / 128) (by rw [List.length_append, List.length_singleton]; omega) zo
        (by rw [List.length_append, List.length_singleton, hP2]; omega) zo (by rw [List.length_append, List.length_singleton, hP2]; omega) (fun _ => by omega)
      rw [List.length_append, List.length_singleton, hP2, List.append_assoc] at ih
      rw [show (w % 128 + 128) :: encF m (w / 128) ++ r = [w % 128 + 128] ++ (encF m (w / 128) ++ r) by simp, ih, List.length_cons]
      rw [e2]
      refine Prod.ext ?_ (Prod.ext ?_ rfl)
      · dsimp only; omega
      · dsimp only; omega
    · rw [if_neg h, show (pre ++ ([w] ++ r)).getD pre.length default = w by simp [List.getD_eq_getElem?_getD], if_neg zo, if_neg zo, if_neg zo]
      rw [orS_add zo hv hv2 (by rw [show w % 128 = w by omega]; exact hs), show w % 128 = w by omega]
      simp
theorem uintE_enc {w : Int} (h : 0 ≤ w ∧ w < 18446744073709551616) (r : List Int) : uintE (encU w ++ r) = (w, (((encU w).length : Nat) : Int), 0) := by
  have := uintF_enc r 9 [] 0 w rfl zd zd h.1 (by simp; omega) (fun h => absurd h (by simp))
  simpa [uintE, encU] using this
theorem numE_enc {w : Int} (h : 0 ≤ w ∧ w ≤ 2147483647) (r : List Int) : numE (encU (w % 18446744073709551616) ++ r) = (w, (((encU (w % 18446744073709551616)).length : Nat) : Int), 0) := by
  rw [show w % 18446744073709551616 = w by omega]
  unfold numE
  rw [uintE_enc zo, if_neg (by simp), if_neg (by dsimp only; omega)]
theorem readF_enc (r : List Int) : ∀ (l : List Int) (pre ns : List Int), (∀ x ∈ l, 0 ≤ x ∧ x ≤ 2147483647) → readF (pre ++ (encL l ++ r)) l.length pre.length ns = (ns ++ l, (pre ++ encL l).length, 0)
  | [], pre, ns, _ => by simp [readF, encL]
  | x :: l, pre, ns, h => by
    have hx := numE_enc (h x (by simp)) (encL l ++ r)
    have hd : (pre ++ (encL (x :: l) ++ r)).drop pre.length = encU (x % 18446744073709551616) ++ (encL l ++ r) := by
      rw [List.drop_left]; simp [encL]
    rw [List.length_cons, readF, hd, hx, if_neg (by simp)]
    dsimp only
    rw [Int.toNat_natCast]
    have ih := readF_enc r l (pre ++ encU (x % 18446744073709551616)) (ns ++ [x]) fun y hy => h y (by simp [hy])
    rw [List.length_append, List.append_assoc] at ih
    rw [show pre ++ (encL (x :: l) ++ r) = pre ++ (encU (x % 18446744073709551616) ++ (encL l ++ r)) by simp [encL], ih]
    simp [encL]
theorem flat2_get (t : List Int) : ∀ (ms : List Member) (i : Nat), i < ms.length → ((ms.flatMap fun x => [x.server, x.weight]) ++ t).getD (2 * i) 0 = (ms.getD i default).server ∧ ((ms.flatMap fun x => [x.server, x.weight]) ++ t).getD (2 * i + 1) 0 = (ms.getD i default).weight
  | [], i, h => by simp at h
  | x :: ms, 0, _ => by simp
  | x :: ms, i + 1, h => by
    have := flat2_get t ms i (by simpa using h)
    rw [List.flatMap_cons, show 2 * (i + 1) = 2 * i + 1 + 1 by omega]
    simpa using this
theorem flat2_tail (ms : List Member) (t : List Int) (j : Nat) : ((ms.flatMap fun x => [x.server, x.weight]) ++ t).getD (2 * ms.length + j) 0 = t.getD j 0 := by
  have hl := flat2_len ms
  rw [List.getD_eq_getElem?_getD, List.getD_eq_getElem?_getD, List.getElem?_append_right zo, hl, Nat.add_sub_cancel_left]
theorem memsN_flat (ms : List Member) (t : List Int) : memsN ms.length ((ms.flatMap fun x => [x.server, x.weight]) ++ t) = ms := by
  apply List.ext_getElem
  · exact memsN_len _ _
  · intro i h1 h2
    have := flat2_get t ms i h2
    simp only [memsN, List.getElem_map, List.getElem_range, this.1, this.2]
    rw [List.getD_eq_getElem?_getD, List.getElem?_eq_getElem h2]; rfl
theorem dec_enc {g : View} (h : genE g = 0) (hs : ∀ x ∈ numsG g, 0 ≤ x ∧ x ≤ 2147483647) (hm : g.members.length ≤ 12) (b : List Int) : decE (encL (numsG g) ++ b) = (g, (((encL (numsG g)).length : Nat) : Int), 0) := by
  obtain ⟨ms, ru⟩ := g
  dsimp only at hm
  have e0 : numsG ⟨ms, ru⟩ = (ms.length : Int) :: ((ms.flatMap fun x => [x.server, x.weight]) ++ [ru.kind, ru.columns, ru.faulty]) := by
    unfold numsG numsP
    rw [List.take_length]; rfl
  rw [e0] at hs ⊢
  generalize hr : (ms.flatMap fun x => [x.server, x.weight]) ++ [ru.kind, ru.columns, ru.faulty] = rest at *
  have hrl : rest.length = 2 * ms.length + 3 := by rw [← hr, List.length_append, flat2_len]; rfl
  have hN := numE_enc (hs (ms.length : Int) (by simp)) (encL rest ++ b)
  have hR := readF_enc b rest (encU ((ms.length : Int) % 18446744073709551616)) [] fun x hx => hs x (by simp [hx])
  have e1 : encL ((ms.length : Int) :: rest) = encU ((ms.length : Int) % 18446744073709551616) ++ encL rest := by simp [encL]
  rw [e1, List.append_assoc]
  unfold decE
  rw [hN]
  dsimp only
  rw [Int.toNat_natCast, Int.toNat_natCast, ← hrl, hR, if_neg (by simp), if_neg zo]
  dsimp only [List.nil_append]
  have e2 : genN ms.length rest = ⟨ms, ru⟩ := by
    unfold genN
    rw [← hr, memsN_flat]
    have t0 := flat2_tail ms [ru.kind, ru.columns, ru.faulty] 0
    have t1 := flat2_tail ms [ru.kind, ru.columns, ru.faulty] 1
    have t2 := flat2_tail ms [ru.kind, ru.columns, ru.faulty] 2
    rw [Nat.add_zero] at t0
    rw [t0, t1, t2]; rfl
  rw [if_neg (by simp), if_neg (by rw [e2, h]; simp), e2]
end Go.Proofs
namespace Go.Proofs
open Go.AM
attribute [local irreducible] AM.evalR AM.evalD AM.Runs AM.valK AM.dK AM.opK AM.stepR AM.CallS AM.St.Le
theorem equal_ints (f g : Bool) (a b : List Int) : AM.Fn Try.prog 27 [.sl f (a.map .i), .sl g (b.map .i)] (.b (decide (a = b))) := by
  (refine spec_of_runs Try.func27 rfl ?_; simp only [Try.f27]; refine ys ?_)
  (refine Runs.lens 0 ?_; refine yl ?_)
  intro hl
  repeat' (first | refine yw ?_ | ((with_reducible refine Runs.is ?_); first | refine Runs.region (id := 0) ?_ | refine Runs.region (id := 1) ?_ | refine Runs.region (id := 2) ?_ | refine Runs.region (id := 3) ?_ | ((with_reducible refine Runs.isC ?_); refine Runs.cond rfl (zc ?_) (zc ?_) <;> intro hc <;> (try (first | contradiction | (exfalso; omega; done) | (have : hc = trivial := rfl; clear this; clear hc))))) | ((with_reducible refine r_is ?_); first | refine yr ?_) | fail)
  · (refine Runs.ret1 Try.func27 rfl zM zD ?_; try exact zX)
    refine V.Le.of_eq (congrArg V.b (decide_eq_false ?_).symm)
    rintro rfl; omega
  · have hlen : a.length = b.length := by omega
    refine Runs.loopI (fun i : Nat => a.length - i) (fun i => i ≤ a.length ∧ a.take i = b.take i)
      (fun i => ⟨[.sl f (a.map .i), .sl g (b.map .i), .any, .any, .any, .any, .any, .any, .any, .any, .any, .any, .i (a.length : Nat), .i (i : Nat), .any, .any, .any, .any, .any, .any, .any, .any, .any, .any, .any, .any], []⟩) 0 (by simp) ?_ ?_
    · (refine St.Le.clean zR zU zV)
    rintro i ⟨hi, he⟩ ih
    by_cases hlt : i < a.length
    · repeat' (first | refine yw ?_ | ((with_reducible refine Runs.is ?_); first | refine Runs.region (id := 4) ?_ | refine Runs.region (id := 5) ?_ | refine Runs.drawn (id := 6) mixed zK ?_ | refine Runs.region (id := 7) ?_ | refine Runs.region (id := 8) ?_ | ((with_reducible refine Runs.isC ?_); refine Runs.cond rfl (zc ?_) (zc ?_) <;> intro hc <;> (try (first | contradiction | (exfalso; omega; done) | (have : hc = trivial := rfl; clear this; clear hc))))) | ((with_reducible refine r_is ?_); first | refine yr ?_) | ((with_reducible refine d_is ?_); first | refine yd ?_) | fail)
      · (refine Runs.ret1 Try.func27 rfl zM zD ?_; try exact zX)
        refine V.Le.of_eq (congrArg V.b (decide_eq_false ?_).symm)
        rintro rfl
        exact absurd rfl hc
      · refine ih (i + 1) _ ⟨by omega, ?_⟩ zo ?_
        · rw [take_getD hlt, take_getD zo, he, hc]
        · (refine St.Le.clean zR zU zV)
    · rw [List.take_of_length_le zo, List.take_of_length_le zo] at he
      repeat' (first | refine yw ?_ | ((with_reducible refine Runs.is ?_); first | refine Runs.region (id := 4) ?_ | ((with_reducible refine Runs.isC ?_); refine Runs.cond rfl (zc ?_) (zc ?_) <;> intro hc <;> (try (first | contradiction | (exfalso; omega; done) | (have : hc = trivial := rfl; clear this; clear hc))))) | ((with_reducible refine r_is ?_); first | refine yr ?_) | fail)
      repeat' (first | refine yw ?_ | ((with_reducible refine Runs.is ?_); first | refine Runs.region (id := 9) ?_ | ((with_reducible refine Runs.isC ?_); refine Runs.cond rfl (zc ?_) (zc ?_) <;> intro hc <;> (try (first | contradiction | (exfalso; omega; done) | (have : hc = trivial := rfl; clear this; clear hc))))) | ((with_reducible refine r_is ?_); first | refine yr ?_) | fail)
      (refine Runs.ret1 Try.func27 rfl zM zD ?_; try exact zX)
      exact V.Le.of_eq (congrArg V.b (decide_eq_true he).symm)
theorem equal_wes (f g : Bool) (a b : List WeightEntry) : AM.Fn Try.prog 28 [.sl f (a.map weV), .sl g (b.map weV)] (.b (decide (a = b))) := by
  (refine spec_of_runs Try.func28 rfl ?_; simp only [Try.f28]; refine ys ?_)
  (refine Runs.lens 0 ?_; refine yl ?_)
  intro hl
  repeat' (first | refine yw ?_ | ((with_reducible refine Runs.is ?_); first | refine Runs.region (id := 0) ?_ | refine Runs.region (id := 1) ?_ | refine Runs.region (id := 2) ?_ | refine Runs.region (id := 3) ?_ | ((with_reducible refine Runs.isC ?_); refine Runs.cond rfl (zc ?_) (zc ?_) <;> intro hc <;> (try (first | contradiction | (exfalso; omega; done) | (have : hc = trivial := rfl; clear this; clear hc))))) | ((with_reducible refine r_is ?_); first | refine yr ?_) | fail)
  · (refine Runs.ret1 Try.func28 rfl zM zD ?_; try exact zX)
    refine V.Le.of_eq (congrArg V.b (decide_eq_false ?_).symm)
    rintro rfl; omega
  · have hlen : a.length = b.length := by omega
    refine Runs.loopI (fun i : Nat => a.length - i) (fun i => i ≤ a.length ∧ a.take i = b.take i)
      (fun i => ⟨[.sl f (a.map weV), .sl g (b.map weV), .any, .any, .any, .any, .any, .any, .any, .any, .any, .any, .i (a.length : Nat), .i (i : Nat), .any, .any, .any, .any, .any, .any, .any, .any, .any, .any, .any, .any], []⟩) 0 (by simp) ?_ ?_
    · (refine St.Le.clean zR zU zV)
    rintro i ⟨hi, he⟩ ih
    by_cases hlt : i < a.length
    · repeat' (first | refine yw ?_ | ((with_reducible refine Runs.is ?_); first | refine Runs.region (id := 4) ?_ | refine Runs.region (id := 5) ?_ | refine Runs.drawn (id := 6) mixed zK ?_ | refine Runs.region (id := 7) ?_ | refine Runs.region (id := 8) ?_ | ((with_reducible refine Runs.isC ?_); refine Runs.cond rfl (zc ?_) (zc ?_) <;> intro hc <;> (try (first | contradiction | (exfalso; omega; done) | (have : hc = trivial := rfl; clear this; clear hc))))) | ((with_reducible refine r_is ?_); first | refine yr ?_) | ((with_reducible refine d_is ?_); first | refine yd ?_) | fail)
      · (refine Runs.ret1 Try.func28 rfl zM zD ?_; try exact zX)
        refine V.Le.of_eq (congrArg V.b (decide_eq_false ?_).symm)
        rintro rfl
        exact absurd rfl hc
      · refine ih (i + 1) _ ⟨by omega, ?_⟩ zo ?_
        · rw [take_getD hlt, take_getD zo, he, hc]
        · (refine St.Le.clean zR zU zV)
    · rw [List.take_of_length_le zo, List.take_of_length_le zo] at he
      repeat' (first | refine yw ?_ | ((with_reducible refine Runs.is ?_); first | refine Runs.region (id := 4) ?_ | ((with_reducible refine Runs.isC ?_); refine Runs.cond rfl (zc ?_) (zc ?_) <;> intro hc <;> (try (first | contradiction | (exfalso; omega; done) | (have : hc = trivial := rfl; clear this; clear hc))))) | ((with_reducible refine r_is ?_); first | refine yr ?_) | fail)
      repeat' (first | refine yw ?_ | ((with_reducible refine Runs.is ?_); first | refine Runs.region (id := 9) ?_ | ((with_reducible refine Runs.isC ?_); refine Runs.cond rfl (zc ?_) (zc ?_) <;> intro hc <;> (try (first | contradiction | (exfalso; omega; done) | (have : hc = trivial := rfl; clear this; clear hc))))) | ((with_reducible refine r_is ?_); first | refine yr ?_) | fail)
      (refine Runs.ret1 Try.func28 rfl zM zD ?_; try exact zX)
      exact V.Le.of_eq (congrArg V.b (decide_eq_true he).symm)
theorem member_Equal (a b : Summary) : AM.Fn Try.prog 13 [suV a, suV b] (.b (decide (a = b))) := by
  have h1 := equal_ints false false a.joined b.joined
  have h2 := equal_ints false false a.removed b.removed
  have h3 := equal_wes false false a.weights b.weights
  have hgo : ∀ e, decide (a = b) = e → AM.Fn Try.prog 13 [suV a, suV b] (.b e) := by
    intro e he
    obtain ⟨J, R, W, ru, ver, adm, num⟩ := a
    obtain ⟨J', R', W', ru', ver', adm', num'⟩ := b
    dsimp only at h1 h2 h3
    have key : decide ((⟨J, R, W, ru, ver, adm, num⟩ : Summary) = ⟨J', R', W', ru', ver', adm', num'⟩) = (decide (J = J') && decide (R = R') && decide (W = W') && decide (ru = ru') && decide (ver = ver') && decide (adm = adm') && decide (num = num')) := by
      simp only [Summary.mk.injEq, Bool.decide_and, Bool.and_assoc]
    rw [key] at he
    by_cases c1 : J = J'
    · rw [decide_eq_true c1] at h1 he
      by_cases c2 : R = R'
      · rw [decide_eq_true c2] at h2 he
        by_cases c3 : W = W'
        · rw [decide_eq_true c3] at h3 he
          (refine spec_of_runs Try.func13 rfl ?_; simp only [Try.f13]; refine ys ?_)
          repeat' (first | refine yw ?_ | ((with_reducible refine Runs.is ?_); first | refine Runs.region ?_ | ((with_reducible refine Runs.isC ?_); refine Runs.cond rfl (zc ?_) (zc ?_) <;> intro hc <;> (try (first | contradiction | (exfalso; omega; done) | (have : hc = trivial := rfl; clear this; clear hc))))) | ((with_reducible refine r_is ?_); first | refine yr ?_ | (refine r_fn rfl (h1) HbF.h zL2 zD ?_; refine r_nn zN zH ?_) | (refine r_fn rfl (h2) HbF.h zL2 zD ?_; refine r_nn zN zH ?_) | (refine r_fn rfl (h3) HbF.h zL2 zD ?_; refine r_nn zN zH ?_) | ((with_reducible refine r_gd ?_); (first | refine r_guardPt rfl rfl ?_ ?_ | refine r_guardNt rfl rfl ?_ ?_ | refine r_guard rfl rfl ?_ ?_) <;> intro hG <;> (try (exfalso; omega; done)) <;> refine r_nn zN zH ?_)) | fail)
          all_goals ((refine Runs.ret1 Try.func13 rfl zM zD ?_; try exact zX))
          all_goals (refine V.Le.of_eq (congrArg V.b ?_))
          all_goals rw [← he]
          all_goals clear he h1 h2 h3
          all_goals (try simp only [eqc_ru, Bool.not_true, decide_eq_true_eq, decide_eq_false_iff_not] at *)
          all_goals simp_all
        · rw [decide_eq_false c3] at h3 he
          (refine spec_of_runs Try.func13 rfl ?_; simp only [Try.f13]; refine ys ?_)
          repeat' (first | refine yw ?_ | ((with_reducible refine Runs.is ?_); first | refine Runs.region ?_ | ((with_reducible refine Runs.isC ?_); refine Runs.cond rfl (zc ?_) (zc ?_) <;> intro hc <;> (try (first | contradiction | (exfalso; omega; done) | (have : hc = trivial := rfl; clear this; clear hc))))) | ((with_reducible refine r_is ?_); first | refine yr ?_ | (refine r_fn rfl (h1) HbF.h zL2 zD ?_; refine r_nn zN zH ?_) | (refine r_fn rfl (h2) HbF.h zL2 zD ?_; refine r_nn zN zH ?_) | (refine r_fn rfl (h3) HbF.h zL2 zD ?_; refine r_nn zN zH ?_) | ((with_reducible refine r_gd ?_); (first | refine r_guardPt rfl rfl ?_ ?_ | refine r_guardNt rfl rfl ?_ ?_ | refine r_guard rfl rfl ?_ ?_) <;> intro hG <;> (try (exfalso; omega; done)) <;> refine r_nn zN zH ?_)) | fail)
          all_goals ((refine Runs.ret1 Try.func13 rfl zM zD ?_; try exact zX))
          all_goals (refine V.Le.of_eq (congrArg V.b ?_); simp_all)
      · rw [decide_eq_false c2] at h2 he
        (refine spec_of_runs Try.func13 rfl ?_; simp only [Try.f13]; refine ys ?_)
        repeat' (first | refine yw ?_ | ((with_reducible refine Runs.is ?_); first | refine Runs.region ?_ | ((with_reducible refine Runs.isC ?_); refine Runs.cond rfl (zc ?_) (zc ?_) <;> intro hc <;> (try (first | contradiction | (exfalso; omega; done) | (have : hc = trivial := rfl; clear this; clear hc))))) | ((with_reducible refine r_is ?_); first | refine yr ?_ | (refine r_fn rfl (h1) HbF.h zL2 zD ?_; refine r_nn zN zH ?_) | (refine r_fn rfl (h2) HbF.h zL2 zD ?_; refine r_nn zN zH ?_) | ((with_reducible refine r_gd ?_); (first | refine r_guardPt rfl rfl ?_ ?_ | refine r_guardNt rfl rfl ?_ ?_ | refine r_guard rfl rfl ?_ ?_) <;> intro hG <;> (try (exfalso; omega; done)) <;> refine r_nn zN zH ?_)) | fail)
        all_goals ((refine Runs.ret1 Try.func13 rfl zM zD ?_; try exact zX))
        all_goals (refine V.Le.of_eq (congrArg V.b ?_); simp_all)
    · rw [decide_eq_false c1] at h1 he
      (refine spec_of_runs Try.func13 rfl ?_; simp only [Try.f13]; refine ys ?_)
      repeat' (first | refine yw ?_ | ((with_reducible refine Runs.is ?_); first | refine Runs.region ?_ | ((with_reducible refine Runs.isC ?_); refine Runs.cond rfl (zc ?_) (zc ?_) <;> intro hc <;> (try (first | contradiction | (exfalso; omega; done) | (have : hc = trivial := rfl; clear this; clear hc))))) | ((with_reducible refine r_is ?_); first | refine yr ?_ | (refine r_fn rfl (h1) HbF.h zL2 zD ?_; refine r_nn zN zH ?_) | ((with_reducible refine r_gd ?_); (first | refine r_guardPt rfl rfl ?_ ?_ | refine r_guardNt rfl rfl ?_ ?_ | refine r_guard rfl rfl ?_ ?_) <;> intro hG <;> (try (exfalso; omega; done)) <;> refine r_nn zN zH ?_)) | fail)
      all_goals ((refine Runs.ret1 Try.func13 rfl zM zD ?_; try exact zX))
      all_goals (refine V.Le.of_eq (congrArg V.b ?_); simp_all)
  exact hgo _ rfl
end Go.Proofs
namespace Go.Proofs
open Go.AM
attribute [local irreducible] AM.evalR AM.evalD AM.Runs AM.valK AM.dK AM.opK AM.stepR AM.CallS AM.St.Le
theorem member_Validate (s : Summary) (hj : s.joined.length + s.removed.length ≤ 1000000000) (hw : s.weights.length ≤ 4611686018427387904) : AM.Fn Try.prog 15 [suV s] (.i (sumE s)) := by
  have hgo : ∀ e, sumE s = e → AM.Fn Try.prog 15 [suV s] (.i e) := by
    intro e he
    obtain ⟨J, R, W, ru, ver, adm, num⟩ := s
    unfold sumE at he
    dsimp only at he hj hw
    have hC := concat_ints true [J, R] (by simp; omega)
    have ha1 := member_ascending false J
    have ha2 := member_ascending false R
    have hru := quo_Rule ru
    (refine spec_of_runs Try.func15 rfl ?_; simp only [Try.f15]; refine ys ?_)
    repeat' (first | refine yw ?_ | ((with_reducible refine Runs.is ?_); first | refine Runs.region (id := 0) ?_ | refine Runs.region (id := 1) ?_ | ((with_reducible refine Runs.isC ?_); refine Runs.cond rfl (zc ?_) (zc ?_) <;> intro hc <;> (try (first | contradiction | (exfalso; omega; done) | (have : hc = trivial := rfl; clear this; clear hc))))) | ((with_reducible refine r_is ?_); first | refine yr ?_ | (refine r_own rfl (hC) HbF.h zL1 zD rfl (fun _ hq _ => ?_); (try subst hq); refine r_nn zN zH ?_)) | fail)
    (refine Runs.weaken (St.Le.freeze_lst 14 rfl) ?_; refine yf ?_)
    rw [List.append_nil]
    clear hC
    have hl : (J ++ R).length ≤ 1000000000 := by rw [List.length_append]; exact hj
    generalize J ++ R = L at *
    refine Runs.loopI (fun k : Nat => L.length - k) (fun k => k ≤ L.length ∧ (L.take k).all srvB = true)
      (fun k => ⟨[.any, .ptr 1 0 0, .any, .any, .any, .any, .any, .any, .any, .any, .any, .any, .any, .any, .sl false (L.map .i), .i (L.length : Nat), .i (k : Nat), .any, .any, .any, .any, .any, .any, .any, .any, .any, .any, .any, .any, .any, .any, .any, .any, .any, .any, .any, .any, .any, .any, .any, .any, .any, .any, .any, .any, .any, .any, .any, .any, .any, .any, .any, .any, .any, .any, .any, .any, .any, .any, .any, .any, .any, .any, .any, .any, .any, .any, .any, .any, .any, .any, .any, .any, .any, .any, .any, .any, .any, .any, .any, .any, .any, .any, .any, .any, .any, .any, .any, .any, .any, .any, .any, .any, .any, .any, .any, .any, .any, .any, .any, .any, .any, .any, .any, .any, .any, .any, .any, .any, .any, .any, .any, .any, .any, .any, .any, .any], [(1, .var 49 (suV ⟨J, R, W, ru, ver, adm, num⟩))]⟩) 0 (by simp) ?_ ?_
    · (refine St.Le.clean zR zU zV)
    rintro k ⟨hk, hall⟩ ih
    by_cases hlt : k < L.length
    · have hS := member_server (L.getD k default)
      cases hb : srvB (L.getD k default)
      · rw [hb] at hS
        have hbad : L.all srvB = false := by
          cases hq : L.all srvB
          · rfl
          · rw [List.all_eq_true] at hq
            rw [hq _ (getD_in hlt)] at hb; cases hb
        rw [if_pos hbad] at he
        subst he
        repeat' (first | refine yw ?_ | ((with_reducible refine Runs.is ?_); first | refine Runs.region (id := 2) ?_ | refine Runs.region (id := 3) ?_ | refine Runs.region (id := 4) ?_ | refine Runs.region (id := 5) ?_ | refine Runs.region (id := 6) ?_ | ((with_reducible refine Runs.isC ?_); refine Runs.cond rfl (zc ?_) (zc ?_) <;> intro hc <;> (try (first | contradiction | (exfalso; omega; done) | (have : hc = trivial := rfl; clear this; clear hc))))) | ((with_reducible refine r_is ?_); first | refine yr ?_ | (refine r_fn rfl (hS) HbF.h zL1 zD ?_; refine r_nn zN zH ?_)) | fail)
        (refine Runs.ret1 Try.func15 rfl zM zD ?_; try exact zX)
      · rw [hb] at hS
        repeat' (first | refine yw ?_ | ((with_reducible refine Runs.is ?_); first | refine Runs.region (id := 2) ?_ | refine Runs.region (id := 3) ?_ | refine Runs.region (id := 4) ?_ | refine Runs.region (id := 5) ?_ | refine Runs.region (id := 6) ?_ | ((with_reducible refine Runs.isC ?_); refine Runs.cond rfl (zc ?_) (zc ?_) <;> intro hc <;> (try (first | contradiction | (exfalso; omega; done) | (have : hc = trivial := rfl; clear this; clear hc))))) | ((with_reducible refine r_is ?_); first | refine yr ?_ | (refine r_fn rfl (hS) HbF.h zL1 zD ?_; refine r_nn zN zH ?_)) | fail)
        refine ih (k + 1) _ ⟨by omega, ?_⟩ zo ?_
        · rw [take_getD hlt, List.all_append, hall]; simp only [List.all_cons, List.all_nil, Bool.and_true, Bool.true_and]; exact hb
        · (refine St.Le.clean zR zU zV)
    · rw [List.take_of_length_le zo] at hall
      rw [if_neg (by rw [hall]; decide)] at he
      clear ih hl hk
      cases hA1 : ascR J
      · rw [hA1] at ha1 he
        rw [if_pos (.inl rfl)] at he
        subst he
        repeat' (first | refine yw ?_ | ((with_reducible refine Runs.is ?_); first | refine Runs.region (id := 2) ?_ | ((with_reducible refine Runs.isC ?_); refine Runs.cond rfl (zc ?_) (zc ?_) <;> intro hc <;> (try (first | contradiction | (exfalso; omega; done) | (have : hc = trivial := rfl; clear this; clear hc))))) | ((with_reducible refine r_is ?_); first | refine yr ?_) | fail)
        repeat' (first | refine yw ?_ | ((with_reducible refine Runs.is ?_); first | refine Runs.region (id := 7) ?_ | refine Runs.region (id := 8) ?_ | ((with_reducible refine Runs.isC ?_); refine Runs.cond rfl (zc ?_) (zc ?_) <;> intro hc <;> (try (first | contradiction | (exfalso; omega; done) | (have : hc = trivial := rfl; clear this; clear hc))))) | ((with_reducible refine r_is ?_); first | refine yr ?_ | (refine r_fn rfl (ha1) HbF.h zL1 zD ?_; refine r_nn zN zH ?_) | ((with_reducible refine r_gd ?_); (first | refine r_guardPf rfl rfl ?_ ?_ | refine r_guardNf rfl rfl ?_ ?_ | refine r_guard rfl rfl ?_ ?_) <;> intro hG <;> (try (exfalso; omega; done)) <;> refine r_nn zN zH ?_)) | fail)
        (refine Runs.ret1 Try.func15 rfl zM zD ?_; try exact zX)
      cases hA2 : ascR R
      · rw [hA1] at ha1 he
        rw [hA2] at ha2 he
        rw [if_pos (.inr rfl)] at he
        subst he
        repeat' (first | refine yw ?_ | ((with_reducible refine Runs.is ?_); first | refine Runs.region (id := 2) ?_ | ((with_reducible refine Runs.isC ?_); refine Runs.cond rfl (zc ?_) (zc ?_) <;> intro hc <;> (try (first | contradiction | (exfalso; omega; done) | (have : hc = trivial := rfl; clear this; clear hc))))) | ((with_reducible refine r_is ?_); first | refine yr ?_) | fail)
        repeat' (first | refine yw ?_ | ((with_reducible refine Runs.is ?_); first | refine Runs.region (id := 7) ?_ | refine Runs.region (id := 8) ?_ | ((with_reducible refine Runs.isC ?_); refine Runs.cond rfl (zc ?_) (zc ?_) <;> intro hc <;> (try (first | contradiction | (exfalso; omega; done) | (have : hc = trivial := rfl; clear this; clear hc))))) | ((with_reducible refine r_is ?_); first | refine yr ?_ | (refine r_fn rfl (ha1) HbF.h zL1 zD ?_; refine r_nn zN zH ?_) | (refine r_fn rfl (ha2) HbF.h zL1 zD ?_; refine r_nn zN zH ?_) | ((with_reducible refine r_gd ?_); (first | refine r_guardPf rfl rfl ?_ ?_ | refine r_guardNf rfl rfl ?_ ?_ | refine r_guard rfl rfl ?_ ?_) <;> intro hG <;> (try (exfalso; omega; done)) <;> refine r_nn zN zH ?_)) | fail)
        (refine Runs.ret1 Try.func15 rfl zM zD ?_; try exact zX)
      rw [hA1] at ha1 he
      rw [hA2] at ha2 he
      rw [if_neg zd] at he
      repeat' (first | refine yw ?_ | ((with_reducible refine Runs.is ?_); first | refine Runs.region (id := 2) ?_ | ((with_reducible refine Runs.isC ?_); refine Runs.cond rfl (zc ?_) (zc ?_) <;> intro hc <;> (try (first | contradiction | (exfalso; omega; done) | (have : hc = trivial := rfl; clear this; clear hc))))) | ((with_reducible refine r_is ?_); first | refine yr ?_) | fail)
      repeat' (first | refine yw ?_ | ((with_reducible refine Runs.is ?_); first | refine Runs.region (id := 7) ?_ | refine Runs.region (id := 8) ?_ | refine Runs.region (id := 9) ?_ | ((with_reducible refine Runs.isC ?_); refine Runs.cond rfl (zc ?_) (zc ?_) <;> intro hc <;> (try (first | contradiction | (exfalso; omega; done) | (have : hc = trivial := rfl; clear this; clear hc))))) | ((with_reducible refine r_is ?_); first | refine yr ?_ | (refine r_fn rfl (ha1) HbF.h zL1 zD ?_; refine r_nn zN zH ?_) | (refine r_fn rfl (ha2) HbF.h zL1 zD ?_; refine r_nn zN zH ?_) | ((with_reducible refine r_gd ?_); (first | refine r_guardPf rfl rfl ?_ ?_ | refine r_guardNf rfl rfl ?_ ?_ | refine r_guard rfl rfl ?_ ?_) <;> intro hG <;> (try (exfalso; omega; done)) <;> refine r_nn zN zH ?_)) | fail)
      clear hc
      have hsplit : ∀ e0, weiE W 0 W.length = e0 → (if e0 ≠ 0 then e0 else if ru ≠ ⟨0, 0, 0⟩ ∧ ruleE ru ≠ 0 then ruleE ru else if negB ver adm num = true ∨ (ru = ⟨0, 0, 0⟩ ∧ (ver ≠ 0 ∨ adm ≠ 0 ∨ num ≠ 0)) then 9 else 0) = e := fun e0 h => by rw [← h]; exact he
      obtain ⟨e0, he0⟩ : ∃ e0, weiE W 0 W.length = e0 := ⟨_, rfl⟩
      replace he := hsplit e0 he0
      clear hsplit
      refine Runs.loopI (fun i : Nat => W.length - i) (fun i => i ≤ W.length ∧ weiE W i (W.length - i) = e0)
        (fun i => ⟨[.any, .ptr 1 0 0, .any, .any, .any, .any, .any, .any, .any, .any, .any, .any, .any, .any, .any, .any, .any, .any, .any, .any, .any, .any, .any, .any, .any, .any, .any, .any, .any, .any, .any, .any, .any, .any, .any, .sl false (W.map weV), .i (W.length : Nat), .i (i : Nat), .any, .any, .any, .any, .any, .any, .any, .any, .any, .any, .any, .any, .any, .any, .any, .any, .any, .any, .any, .any, .any, .any, .any, .any, .any, .any, .any, .any, .any, .any, .any, .any, .any, .any, .any, .any, .any, .any, .any, .any, .any, .any, .any, .any, .any, .any, .any, .any, .any, .any, .any, .any, .any, .any, .any, .any, .any, .any, .any, .any, .any, .any, .any, .any, .any, .any, .any, .any, .any, .any, .any, .any, .any, .any, .any, .any, .any, .any, .any], [(1, .var 49 (suV ⟨J, R, W, ru, ver, adm, num⟩))]⟩) 0 (by simpa using he0) ?_ ?_
      · (refine St.Le.clean zR zU zV)
      rintro i ⟨hi, he2⟩ ih
      by_cases hlt : i < W.length
      · rw [show W.length - i = (W.length - (i + 1)) + 1 by omega, weiE] at he2
        have e1 : ((i : Int) - 1).toNat = i - 1 := by omega
        rw [← e1] at he2
        have hS := member_server (W.getD i default).server
        have hN := member_negative (W.getD i default).version (W.getD i default).admin (W.getD i default).number
        cases hb1 : srvB (W.getD i default).server
        · rw [hb1] at hS
          rw [if_pos (.inl hb1)] at he2
          subst he2
          rw [if_pos zd] at he
          subst he
          repeat' (first | refine yw ?_ | ((with_reducible refine Runs.is ?_); first | refine Runs.region (id := 10) ?_ | refine Runs.region (id := 11) ?_ | refine Runs.region (id := 12) ?_ | refine Runs.region (id := 13) ?_ | ((with_reducible refine Runs.isC ?_); refine Runs.cond rfl (zc ?_) (zc ?_) <;> intro hc <;> (try (first | contradiction | (exfalso; omega; done) | (have : hc = trivial := rfl; clear this; clear hc))))) | ((with_reducible refine r_is ?_); first | refine yr ?_ | (refine r_fn rfl (hS) HbF.h zL1 zD ?_; refine r_nn zN zH ?_) | ((with_reducible refine r_gd ?_); (first | refine r_guardPf rfl rfl ?_ ?_ | refine r_guardNf rfl rfl ?_ ?_ | refine r_guard rfl rfl ?_ ?_) <;> intro hG <;> (try (exfalso; omega; done)) <;> refine r_nn zN zH ?_)) | fail)
          all_goals ((refine Runs.ret1 Try.func15 rfl zM zD ?_; try exact zX))
        rw [hb1] at hS
        cases hb2 : negB (W.getD i default).version (W.getD i default).admin (W.getD i default).number
        · rw [hb2] at hN
          repeat' (first | refine yw ?_ | ((with_reducible refine Runs.is ?_); first | refine Runs.region (id := 10) ?_ | refine Runs.region (id := 11) ?_ | refine Runs.region (id := 12) ?_ | refine Runs.region (id := 13) ?_ | refine Runs.drawn (id := 14) mixed zK ?_ | refine Runs.region (id := 15) ?_ | refine Runs.region (id := 16) ?_ | ((with_reducible refine Runs.isC ?_); refine Runs.cond rfl (zc ?_) (zc ?_) <;> intro hc <;> (try (first | contradiction | (exfalso; omega; done) | (have : hc = trivial := rfl; clear this; clear hc))))) | ((with_reducible refine r_is ?_); first | refine yr ?_ | (refine r_fn rfl (hS) HbF.h zL1 zD ?_; refine r_nn zN zH ?_) | (refine r_fn rfl (hN) HbF.h zL3 zD ?_; refine r_nn zN zH ?_) | ((with_reducible refine r_gd ?_); (first | refine r_guardPf rfl rfl ?_ ?_ | refine r_guardNf rfl rfl ?_ ?_ | refine r_guard rfl rfl ?_ ?_) <;> intro hG <;> (try (exfalso; omega; done)) <;> refine r_nn zN zH ?_)) | ((with_reducible refine d_is ?_); first | refine yd ?_ | ((with_reducible refine d_gd ?_); (first | refine d_guardPt rfl rfl ?_ ?_ | refine d_guardNt rfl rfl ?_ ?_ | refine d_guard rfl rfl ?_ ?_) <;> intro hG <;> (try (exfalso; omega; done)) <;> refine d_nn zN zH ?_)) | fail)
          all_goals first
            | (rw [if_pos (by first | exact .inr (.inl zo) | exact .inr (.inr (.inl zo)))] at he2
               subst he2
               rw [if_pos zd] at he
               subst he
               (refine Runs.ret1 Try.func15 rfl zM zD ?_; try exact zX)
               done)
            | (rw [if_neg (by
                 rintro (h | h | h | h)
                 · rw [hb1] at h; cases h
                 · omega
                 · omega
                 · rw [hb2] at h; cases h)] at he2
               first
                 | (rw [if_pos zo] at he2
                    subst he2
                    rw [if_pos zd] at he
                    subst he
                    (refine Runs.ret1 Try.func15 rfl zM zD ?_; try exact zX)
                    done)
                 | (rw [if_neg zo] at he2
                    refine ih (i + 1) _ ⟨by omega, by first | exact he2 | (rw [show W.length - (i + 1) = W.length - i - 1 by omega]; exact he2)⟩ zo ?_
                    (refine St.Le.clean zR zU zV)
                    done))
            | trace_state
        · rw [hb2] at hN
          rw [if_pos (.inr (.inr (.inr hb2)))] at he2
          subst he2
          rw [if_pos zd] at he
          subst he
          repeat' (first | refine yw ?_ | ((with_reducible refine Runs.is ?_); first | refine Runs.region (id := 10) ?_ | refine Runs.region (id := 11) ?_ | refine Runs.region (id := 12) ?_ | refine Runs.region (id := 13) ?_ | ((with_reducible refine Runs.isC ?_); refine Runs.cond rfl (zc ?_) (zc ?_) <;> intro hc <;> (try (first | contradiction | (exfalso; omega; done) | (have : hc = trivial := rfl; clear this; clear hc))))) | ((with_reducible refine r_is ?_); first | refine yr ?_ | (refine r_fn rfl (hS) HbF.h zL1 zD ?_; refine r_nn zN zH ?_) | (refine r_fn rfl (hN) HbF.h zL3 zD ?_; refine r_nn zN zH ?_) | ((with_reducible refine r_gd ?_); (first | refine r_guardPf rfl rfl ?_ ?_ | refine r_guardNf rfl rfl ?_ ?_ | refine r_guard rfl rfl ?_ ?_) <;> intro hG <;> (try (exfalso; omega; done)) <;> refine r_nn zN zH ?_)) | fail)
          all_goals ((refine Runs.ret1 Try.func15 rfl zM zD ?_; try exact zX))
      · repeat' (first | refine yw ?_ | ((with_reducible refine Runs.is ?_); first | refine Runs.region (id := 10) ?_ | ((with_reducible refine Runs.isC ?_); refine Runs.cond rfl (zc ?_) (zc ?_) <;> intro hc <;> (try (first | contradiction | (exfalso; omega; done) | (have : hc = trivial := rfl; clear this; clear hc))))) | ((with_reducible refine r_is ?_); first | refine yr ?_) | fail)
        rw [show W.length - i = 0 by omega, weiE] at he2
        subst he2
        rw [if_neg zd] at he
        have hN := member_negative ver adm num
        have hno : ∀ {x : Bool} {p : Prop}, x = false → x = true → p := fun h1 h2 => by rw [h1] at h2; cases h2
        cases hb3 : negB ver adm num
        · rw [hb3] at hN
          by_cases hz : ru = ⟨0, 0, 0⟩
          · rw [if_neg (fun h => h.1 hz)] at he
            repeat' (first | refine yw ?_ | ((with_reducible refine Runs.is ?_); first | refine Runs.region (id := 17) ?_ | ((with_reducible refine Runs.isC ?_); refine Runs.cond rfl (zc ?_) (zc ?_) <;> intro hc <;> (try (first | contradiction | (exfalso; omega; done) | (have : hc = trivial := rfl; clear this; clear hc))))) | ((with_reducible refine r_is ?_); first | refine yr ?_) | fail)
            rw [show eqCells [V.i ru.kind, V.i ru.columns, V.i ru.faulty] [V.i 0, V.i 0, V.i 0] = true by rw [eqc_ru ru ⟨0, 0, 0⟩]; exact decide_eq_true hz]
            repeat' (first | refine yw ?_ | ((with_reducible refine Runs.is ?_); first | refine Runs.region (id := 18) ?_ | refine Runs.region (id := 19) ?_ | refine Runs.region (id := 20) ?_ | refine Runs.region (id := 21) ?_ | refine Runs.region (id := 22) ?_ | refine Runs.region (id := 23) ?_ | refine Runs.region (id := 24) ?_ | ((with_reducible refine Runs.isC ?_); refine Runs.cond rfl (zc ?_) (zc ?_) <;> intro hc <;> (try (first | contradiction | (exfalso; omega; done) | (have : hc = trivial := rfl; clear this; clear hc))))) | ((with_reducible refine r_is ?_); first | refine yr ?_ | (refine r_fn rfl (hru) HbF.h zL1 zD ?_; refine r_nn zN zH ?_) | (refine r_fn rfl (hN) HbF.h zL3 zD ?_; refine r_nn zN zH ?_) | ((with_reducible refine r_gd ?_); (first | refine r_guardPf rfl rfl ?_ ?_ | refine r_guardNf rfl rfl ?_ ?_ | refine r_guardPt rfl rfl ?_ ?_ | refine r_guardNt rfl rfl ?_ ?_ | refine r_guard rfl rfl ?_ ?_) <;> intro hG <;> (try (exfalso; omega; done)) <;> refine r_nn zN zH ?_)) | fail)
            all_goals first
              | (exact absurd hz (by assumption))
              | (rw [if_pos (.inr ⟨hz, by omega⟩)] at he
                 subst he
                 (refine Runs.ret1 Try.func15 rfl zM zD ?_; try exact zX)
                 done)
              | (rw [if_neg (by
                   rintro (h | ⟨_, h⟩)
                   · exact hno hb3 h
                   · omega)] at he
                 subst he
                 (refine Runs.ret1 Try.func15 rfl zM zD ?_; try exact zX)
                 done)
              | trace_state
          · repeat' (first | refine yw ?_ | ((with_reducible refine Runs.is ?_); first | refine Runs.region (id := 17) ?_ | ((with_reducible refine Runs.isC ?_); refine Runs.cond rfl (zc ?_) (zc ?_) <;> intro hc <;> (try (first | contradiction | (exfalso; omega; done) | (have : hc = trivial := rfl; clear this; clear hc))))) | ((with_reducible refine r_is ?_); first | refine yr ?_) | fail)
            rw [show eqCells [V.i ru.kind, V.i ru.columns, V.i ru.faulty] [V.i 0, V.i 0, V.i 0] = false by rw [eqc_ru ru ⟨0, 0, 0⟩]; exact decide_eq_false hz]
            repeat' (first | refine yw ?_ | ((with_reducible refine Runs.is ?_); first | refine Runs.region (id := 18) ?_ | refine Runs.region (id := 19) ?_ | refine Runs.region (id := 20) ?_ | refine Runs.region (id := 21) ?_ | refine Runs.region (id := 22) ?_ | refine Runs.region (id := 23) ?_ | refine Runs.region (id := 24) ?_ | ((with_reducible refine Runs.isC ?_); refine Runs.cond rfl (zc ?_) (zc ?_) <;> intro hc <;> (try (first | contradiction | (exfalso; omega; done) | (have : hc = trivial := rfl; clear this; clear hc))))) | ((with_reducible refine r_is ?_); first | refine yr ?_ | (refine r_fn rfl (hru) HbF.h zL1 zD ?_; refine r_nn zN zH ?_) | (refine r_fn rfl (hN) HbF.h zL3 zD ?_; refine r_nn zN zH ?_) | ((with_reducible refine r_gd ?_); (first | refine r_guardPf rfl rfl ?_ ?_ | refine r_guardNf rfl rfl ?_ ?_ | refine r_guardPt rfl rfl ?_ ?_ | refine r_guardNt rfl rfl ?_ ?_ | refine r_guard rfl rfl ?_ ?_) <;> intro hG <;> (try (exfalso; omega; done)) <;> refine r_nn zN zH ?_)) | fail)
            all_goals first
              | (exact absurd (by assumption) hz)
              | (rw [if_pos ⟨hz, by assumption⟩] at he
                 subst he
                 (refine Runs.ret1 Try.func15 rfl zM zD ?_; try exact zX)
                 done)
              | (rw [if_neg (fun h => h.2 (by assumption)), if_neg (by
                   rintro (h | ⟨h, _⟩)
                   · exact hno hb3 h
                   · exact hz h)] at he
                 subst he
                 (refine Runs.ret1 Try.func15 rfl zM zD ?_; try exact zX)
                 done)
              | trace_state
        · rw [hb3] at hN
          by_cases hz : ru = ⟨0, 0, 0⟩
          · rw [if_neg (fun h => h.1 hz), if_pos (.inl hb3)] at he
            subst he
            repeat' (first | refine yw ?_ | ((with_reducible refine Runs.is ?_); first | refine Runs.region (id := 17) ?_ | ((with_reducible refine Runs.isC ?_); refine Runs.cond rfl (zc ?_) (zc ?_) <;> intro hc <;> (try (first | contradiction | (exfalso; omega; done) | (have : hc = trivial := rfl; clear this; clear hc))))) | ((with_reducible refine r_is ?_); first | refine yr ?_) | fail)
            rw [show eqCells [V.i ru.kind, V.i ru.columns, V.i ru.faulty] [V.i 0, V.i 0, V.i 0] = true by rw [eqc_ru ru ⟨0, 0, 0⟩]; exact decide_eq_true hz]
            repeat' (first | refine yw ?_ | ((with_reducible refine Runs.is ?_); first | refine Runs.region (id := 18) ?_ | refine Runs.region (id := 19) ?_ | refine Runs.region (id := 20) ?_ | refine Runs.region (id := 21) ?_ | refine Runs.region (id := 22) ?_ | refine Runs.region (id := 23) ?_ | refine Runs.region (id := 24) ?_ | ((with_reducible refine Runs.isC ?_); refine Runs.cond rfl (zc ?_) (zc ?_) <;> intro hc <;> (try (first | contradiction | (exfalso; omega; done) | (have : hc = trivial := rfl; clear this; clear hc))))) | ((with_reducible refine r_is ?_); first | refine yr ?_ | (refine r_fn rfl (hru) HbF.h zL1 zD ?_; refine r_nn zN zH ?_) | (refine r_fn rfl (hN) HbF.h zL3 zD ?_; refine r_nn zN zH ?_) | ((with_reducible refine r_gd ?_); (first | refine r_guardPf rfl rfl ?_ ?_ | refine r_guardNf rfl rfl ?_ ?_ | refine r_guardPt rfl rfl ?_ ?_ | refine r_guardNt rfl rfl ?_ ?_ | refine r_guard rfl rfl ?_ ?_) <;> intro hG <;> (try (exfalso; omega; done)) <;> refine r_nn zN zH ?_)) | fail)
            all_goals first
              | (exact absurd hz (by assumption))
              | ((refine Runs.ret1 Try.func15 rfl zM zD ?_; try exact zX)
                 done)
              | trace_state
          · repeat' (first | refine yw ?_ | ((with_reducible refine Runs.is ?_); first | refine Runs.region (id := 17) ?_ | ((with_reducible refine Runs.isC ?_); refine Runs.cond rfl (zc ?_) (zc ?_) <;> intro hc <;> (try (first | contradiction | (exfalso; omega; done) | (have : hc = trivial := rfl; clear this; clear hc))))) | ((with_reducible refine r_is ?_); first | refine yr ?_) | fail)
            rw [show eqCells [V.i ru.kind, V.i ru.columns, V.i ru.faulty] [V.i 0, V.i 0, V.i 0] = false by rw [eqc_ru ru ⟨0, 0, 0⟩]; exact decide_eq_false hz]
            repeat' (first | refine yw ?_ | ((with_reducible refine Runs.is ?_); first | refine Runs.region (id := 18) ?_ | refine Runs.region (id := 19) ?_ | refine Runs.region (id := 20) ?_ | refine Runs.region (id := 21) ?_ | refine Runs.region (id := 22) ?_ | refine Runs.region (id := 23) ?_ | refine Runs.region (id := 24) ?_ | ((with_reducible refine Runs.isC ?_); refine Runs.cond rfl (zc ?_) (zc ?_) <;> intro hc <;> (try (first | contradiction | (exfalso; omega; done) | (have : hc = trivial := rfl; clear this; clear hc))))) | ((with_reducible refine r_is ?_); first | refine yr ?_ | (refine r_fn rfl (hru) HbF.h zL1 zD ?_; refine r_nn zN zH ?_) | (refine r_fn rfl (hN) HbF.h zL3 zD ?_; refine r_nn zN zH ?_) | ((with_reducible refine r_gd ?_); (first | refine r_guardPf rfl rfl ?_ ?_ | refine r_guardNf rfl rfl ?_ ?_ | refine r_guardPt rfl rfl ?_ ?_ | refine r_guardNt rfl rfl ?_ ?_ | refine r_guard rfl rfl ?_ ?_) <;> intro hG <;> (try (exfalso; omega; done)) <;> refine r_nn zN zH ?_)) | fail)
            all_goals first
              | (exact absurd (by assumption) hz)
              | (rw [if_pos ⟨hz, by assumption⟩] at he
                 subst he
                 (refine Runs.ret1 Try.func15 rfl zM zD ?_; try exact zX)
                 done)
              | (rw [if_neg (fun h => h.2 (by assumption)), if_pos (.inl hb3)] at he
                 subst he
                 (refine Runs.ret1 Try.func15 rfl zM zD ?_; try exact zX)
                 done)
              | trace_state
  exact hgo _ rfl
end Go.Proofs
namespace Go.Proofs
open Go.AM
attribute [local irreducible] AM.evalR AM.evalD AM.Runs AM.valK AM.dK AM.opK AM.stepR AM.CallS AM.St.Le
def Srv (x : Int) : Prop := 1 ≤ x ∧ x ≤ 12
def WOK (w : WeightEntry) : Prop := Srv w.server ∧ (1 ≤ w.weight ∧ w.weight ≤ 9) ∧ 0 ≤ w.version ∧ 0 ≤ w.admin ∧ 0 ≤ w.number
structure SumOK (s : Summary) : Prop where
  sort : SortedS s
  j : ∀ x ∈ s.joined, Srv x
  r : ∀ x ∈ s.removed, Srv x
  w : ∀ w ∈ s.weights, WOK w
  o : 0 ≤ s.version ∧ 0 ≤ s.admin ∧ 0 ≤ s.number
  ru : s.rule = ⟨0, 0, 0⟩ ∧ (s.version = 0 ∧ s.admin = 0 ∧ s.number = 0) ∨ s.rule ≠ ⟨0, 0, 0⟩ ∧ RuleOK s.rule
end Go.Proofs
namespace Go.Proofs
open Go.AM
attribute [local irreducible] AM.evalR AM.evalD AM.Runs AM.valK AM.dK AM.opK AM.stepR AM.CallS AM.St.Le
def dupB (d c : Change) : Bool := decide (d.kind = c.kind ∧ d.server = c.server)
def chsE : List Change → List Change → Int
  | _, [] => 0
  | pre, c :: cs => if changeE c ≠ 0 then changeE c else if pre.any (dupB · c) = true then 5 else chsE (pre ++ [c]) cs
def propE (p : Proposal) : Int := if ¬ (201 ≤ p.admin ∧ p.admin < 204) ∨ p.number < 1 ∨ 3 < p.number then 9 else if p.changes.length = 0 then 2 else if 6 < p.changes.length then 3 else chsE [] p.changes
theorem take_take_le {α : Type} {l : List α} {k i : Nat} (h : k ≤ i) : (l.take i).take k = l.take k := by rw [List.take_take, Nat.min_eq_left h]
end Go.Proofs
namespace Go.Proofs
open Go.AM
attribute [local irreducible] AM.evalR AM.evalD AM.Runs AM.valK AM.dK AM.opK AM.stepR AM.CallS AM.St.Le
theorem chsE_ok : ∀ {cs pre : List Change}, chsE pre cs = 0 → (∀ c ∈ cs, ChangeOK c) ∧ ∀ i, i < cs.length → ∀ d ∈ pre ++ cs.take i, ¬ (d.kind = (cs.getD i default).kind ∧ d.server = (cs.getD i default).server)
  | [], pre, _ => ⟨by simp, by simp⟩
  | c :: cs, pre, h => by
    rw [chsE] at h
    split at h
    · contradiction
    rename_i h0
    split at h
    · contradiction
    rename_i h1
    have h0' : changeE c = 0 := by omega
    obtain ⟨i1, i2⟩ := chsE_ok h
    refine ⟨fun d hd => ?_, fun i hi d hd => ?_⟩
    · rcases List.mem_cons.1 hd with rfl | hd
      · exact changeE_ok h0'
      · exact i1 d hd
    · cases i with
      | zero =>
        intro hk
        refine h1 (List.any_eq_true.2 ⟨d, ?_, decide_eq_true hk⟩)
        simpa using hd
      | succ i => exact i2 i (by simpa using hi) d (by simpa using hd)
theorem propE_ok {p : Proposal} (h : propE p = 0) : PropOK p := by
  unfold propE at h
  split at h
  · contradiction
  split at h
  · contradiction
  split at h
  · contradiction
  obtain ⟨h1, h2⟩ := chsE_ok h
  refine ⟨by omega, by omega, by omega, h1, fun i k hk hi => ?_⟩
  refine h2 i hi _ ?_
  rw [List.nil_append, ← List.take_append_drop k (p.changes.take i), take_take_le zo]
  refine List.mem_append.2 (.inr ?_)
  rw [drop_getD (show k < (p.changes.take i).length by rw [List.length_take]; omega)]
  have : (p.changes.take i).getD k default = p.changes.getD k default := by rw [List.getD_eq_getElem?_getD, List.getD_eq_getElem?_getD, List.getElem?_take_of_lt hk]
  rw [this]; exact List.mem_cons_self
end Go.Proofs
namespace Go.Proofs
open Go.AM
attribute [local irreducible] AM.evalR AM.evalD AM.Runs AM.valK AM.dK AM.opK AM.stepR AM.CallS AM.St.Le
def awG : View := ⟨[⟨1, 1⟩, ⟨2, 3⟩], ⟨1, 0, 0⟩⟩
def awP : Proposal := ⟨201, 1, [⟨1, 4, 2, 0, ⟨0, 0, 0⟩⟩, ⟨2, 1, 0, 0, ⟨0, 0, 0⟩⟩, ⟨4, 0, 0, 1, ⟨2, 0, 0⟩⟩]⟩
def awS : Summary := ⟨[1, 2, 4], [1], [⟨1, 1, 0, 0, 0⟩, ⟨2, 3, 0, 0, 0⟩, ⟨4, 2, 0, 201, 1⟩], ⟨2, 0, 0⟩, 1, 201, 1⟩
def awVw : View := ⟨[⟨2, 3⟩, ⟨4, 2⟩], ⟨2, 0, 0⟩⟩
theorem aw_propE : propE awP = 0 := by decide +kernel
theorem aw_genE : genE awG = 0 := by decide +kernel
theorem aw_sumT : sumT awG [awP] = awS := by decide +kernel
theorem aw_sumS : sumS awG [awP] = awS ∧ SortedS awS := by
  have h := sumS_T (genE_ok aw_genE).2.1 (c := [awP]) (fun p hp => by rw [List.mem_singleton.1 hp]; exact propE_ok aw_propE)
  rw [aw_sumT] at h; exact h
theorem aw_viewT : viewT awS = awVw := by decide +kernel
theorem aw_viewS : viewS awS = awVw := by rw [viewS_T aw_sumS.2.2.2, aw_viewT]
theorem aw_join : joinS awS awS = awS := by rw [(joinS_T aw_sumS.2 awS).1]; decide +kernel
theorem aw_ofT : ofT awP = ⟨[4], [1], [⟨4, 2, 0, 201, 1⟩], ⟨2, 0, 0⟩, 1, 201, 1⟩ := by decide +kernel
theorem aw_ofS : ofS awP = ⟨[4], [1], [⟨4, 2, 0, 201, 1⟩], ⟨2, 0, 0⟩, 1, 201, 1⟩ := by rw [(ofS_T (propE_ok aw_propE)).1, aw_ofT]
theorem aw_sumE : sumE awS = 0 := by decide +kernel
theorem aw_enc : encL (numsG awG) = [2, 1, 1, 2, 3, 1, 0, 0] := by decide +kernel
theorem aw_dec : decE [2, 1, 1, 2, 3, 1, 0, 0] = (awG, 8, 0) := by decide +kernel
theorem aw_le : V.Le (.sl false [.agg [.i 201, .i 1, .sl true (awP.changes.map chV)]]) (.sl false ([awP].map prV)) := by
  refine V.Le.slE _ _ _ rfl (dl_prV _) ?_ ?_
  · intro i hi
    have : i = 0 := by simpa using hi
    subst this; rfl
  · intro i j hi hj
    have : i = 0 := by simpa using hi
    subst this
    have hj : j < 3 := hj
    rcases (by omega : j = 0 ∨ j = 1 ∨ j = 2) with rfl | rfl | rfl
    · exact V.Le.refl _
    · exact V.Le.refl _
    · exact V.Le.full _
theorem law_awake : AM.Fn Try.prog 4 [] (.b true) := by
  (refine spec_of_runs Try.func4 rfl ?_; simp only [Try.f4]; refine ys ?_)
  repeat' (first | refine yw ?_ | ((with_reducible refine Runs.is ?_); first | refine Runs.region (id := 0) ?_ | refine Runs.region (id := 1) ?_ | ((with_reducible refine Runs.isC ?_); refine Runs.cond rfl (zc ?_) (zc ?_) <;> intro hc <;> (try (first | contradiction | (exfalso; omega; done) | (have : hc = trivial := rfl; clear this; clear hc))))) | ((with_reducible refine r_is ?_); first | refine yrb ?_ | (refine r_buildOwn (D := 10) SlF.h ZoF.h zd zB zd rfl ?_; refine r_nn zN zH ?_) | (refine r_build SlF.h ZoF.h zd zB ?_; refine r_n zN ?_)) | fail)
  (refine Runs.weaken (St.Le.freeze_lst 10 rfl) ?_; refine yf ?_)
  repeat' (first | refine yw ?_ | ((with_reducible refine Runs.is ?_); first | refine Runs.region (id := 2) ?_ | ((with_reducible refine Runs.isC ?_); refine Runs.cond rfl (zc ?_) (zc ?_) <;> intro hc <;> (try (first | contradiction | (exfalso; omega; done) | (have : hc = trivial := rfl; clear this; clear hc))))) | ((with_reducible refine r_is ?_); first | refine yrb ?_ | (refine r_buildOwn (D := 19) SlF.h ZoF.h zd zB zd rfl ?_; refine r_nn zN zH ?_) | (refine r_build SlF.h ZoF.h zd zB ?_; refine r_n zN ?_)) | fail)
  (refine Runs.weaken (St.Le.freeze_lst 19 rfl) ?_; refine yf ?_)
  refine Runs.weaken (St.Le.clean (s' := ⟨[.any, .ptr 1 0 0, .sl false ([awP].map prV), .any, .any, .any, .any, .any, .any, .any, .any, .any, .any, .any, .any, .any, .any, .any, .any, .any, .any, .any, .any, .any, .any, .any, .any, .any, .any, .any, .any, .any, .any, .any, .any, .any, .any, .any, .any, .any, .any, .any, .any, .any, .any, .any, .any, .any, .any, .any, .any, .any, .any, .any, .any, .any, .any, .any, .any, .any, .any, .any, .any, .any, .any, .any, .any, .any, .any, .any, .any, .any, .any, .any, .any, .any, .any, .any, .any, .any, .any, .any, .any, .any, .any, .any, .any, .any, .any, .any, .any, .any, .any, .any, .any, .any, .any, .any, .any, .any, .any, .any, .any, .any, .any, .any, .any, .any, .any, .any, .any, .any, .any, .any, .any, .any, .any, .any, .any], [(1, .var 26 (viV awG))]⟩) (by repeat' (first | exact V.LeL.nil | refine V.LeL.cons ?_ ?_ | exact V.Le.any _ | exact V.Le.full _ | exact V.Le.refl _ | exact aw_le)) (by simp [V.usesL, V.uses, AM.look_cons, V.usesL_data, da_prV]) (by simp [AM.sub, AM.look_cons, V.uses, V.uses_data, da_viV]; try rfl)) ?_
  have hS := member_Summarize false awG [awP] zd zd (by intro p hp; rw [List.mem_singleton.1 hp]; exact ⟨by decide, True.intro⟩)
  rw [aw_sumS.1] at hS
  have hV := member_View awS zd zd
  rw [aw_viewS] at hV
  have hA := member_AppendGenesis true [] awG zd zd
  rw [aw_enc, List.nil_append] at hA
  have hD := member_DecodeGenesis false [2, 1, 1, 2, 3, 1, 0, 0] (by unfold Bytes; decide) zd
  rw [aw_dec] at hD
  have hE := member_Equal awS awS
  rw [decide_eq_true rfl] at hE
  have hGe := member_Gen ⟨[], awG.rule⟩ zd
  rw [show genE ⟨[], awG.rule⟩ = 2 by decide] at hGe
  have hVa := member_Validate awS zd zd
  rw [aw_sumE] at hVa
  have hI := member_Initial awG zd
  have hO := member_Of awP zd
  rw [aw_ofS] at hO
  have hJ := member_Join awS awS (member_union_all false false _ _ zd) (member_union_all false false _ _ zd) (member_weights_all false false _ _ zd)
  rw [aw_join] at hJ
  repeat' (first | refine yw ?_ | ((with_reducible refine Runs.is ?_); first | refine Runs.region (id := 3) ?_ | refine Runs.region (id := 4) ?_ | ((with_reducible refine Runs.isC ?_); refine Runs.cond rfl (zc ?_) (zc ?_) <;> intro hc <;> (try (first | contradiction | (exfalso; omega; done) | (have : hc = trivial := rfl; clear this; clear hc))))) | ((with_reducible refine r_is ?_); first | refine yr ?_ | (refine r_fn rfl (hS) HbF.h zL2 zD ?_; refine r_nn zN zH ?_) | (refine r_fn rfl (hV) HbF.h zL1 zD ?_; refine r_nn zN zH ?_)) | fail)
  repeat' (first | refine yw ?_ | ((with_reducible refine Runs.is ?_); first | refine Runs.region (id := 5) ?_ | ((with_reducible refine Runs.isC ?_); refine Runs.cond rfl (zc ?_) (zc ?_) <;> intro hc <;> (try (first | contradiction | (exfalso; omega; done) | (have : hc = trivial := rfl; clear this; clear hc))))) | ((with_reducible refine r_is ?_); first | refine yr ?_ | (refine r_fn rfl (hA) HbF.h zL2 zD ?_; refine r_nn zN zH ?_) | (refine r_fn rfl (hD) HbF.h zL1 zD ?_; refine r_nn zN zH ?_)) | fail)
  clear hS hV hA hD
  have hI2 : ∃ q : Summary, q.joined.length = 2 ∧ AM.Fn Try.prog 16 [viV awG] (suV q) := ⟨_, rfl, hI⟩
  have hO2 : ∃ q : Summary, q.joined.length = 1 ∧ AM.Fn Try.prog 17 [prV awP] (suV q) := ⟨_, rfl, hO⟩
  clear hI hO
  obtain ⟨⟨J1, R1, W1, u1, v1, a1, n1⟩, l1, hI⟩ := hI2
  obtain ⟨⟨J2, R2, W2, u2, v2, a2, n2⟩, l2, hO⟩ := hO2
  have l3 : awS.joined.length = 3 := rfl
  have l4 : awS.removed.length = 1 := rfl
  have m1 : awVw.members.length = 2 := rfl
  have m2 : eqCells [V.i (awVw.members.getD 0 default).server, V.i (awVw.members.getD 0 default).weight] [V.i 2, V.i 3] = true := rfl
  have m3 : eqCells [V.i (awVw.members.getD 1 default).server, V.i (awVw.members.getD 1 default).weight] [V.i 4, V.i 2] = true := rfl
  have m4 : awVw.rule.kind = 2 := rfl
  have g1 : awG.members.length = 2 := rfl
  generalize awS = s at *
  generalize awVw = v at *
  generalize awG = g at *
  have hP : [awP].getD 0 default = awP := rfl
  have hP2 : [awP].length = 1 := rfl
  generalize [awP] = ps at *
  obtain ⟨J, R, W, ru, ver, adm, num⟩ := s
  obtain ⟨ms, vru⟩ := v
  obtain ⟨gm, gr⟩ := g
  dsimp only at l1 l2 l3 l4 m1 m2 m3 m4 g1 hGe
  rw [← hP] at hO
  replace hGe : AM.Fn Try.prog 14 [.agg [.sc (.slice none 0 0), .i gr.kind, .i gr.columns, .i gr.faulty]] (V.i 2) := Spec.args hGe (.cons (.aggL (.cons (.nil _) (V.LeL.refl _))) .nil) rfl
  refine Runs.region ?_
  dsimp only [List.append]
  repeat' (first | refine yw ?_ | ((with_reducible refine Runs.is ?_); first | refine Runs.region (id := 6) ?_ | ((with_reducible refine Runs.isC ?_); refine Runs.cond rfl (zc ?_) (zc ?_) <;> intro hc <;> (try (first | contradiction | (exfalso; omega; done) | (have : hc = trivial := rfl; clear this; clear hc))))) | ((with_reducible refine r_is ?_); first | refine yr ?_ | (refine r_fn rfl (hE) HbF.h zL2 zD ?_; refine r_nn zN zH ?_) | (refine r_fn rfl (hGe) HbF.h zL1 zD ?_; refine r_nn zN zH ?_) | (refine r_fn rfl (hVa) HbF.h zL1 zD ?_; refine r_nn zN zH ?_) | (refine r_fn rfl (hI) HbF.h zL1 zD ?_; refine r_nn zN zH ?_) | (refine r_fn rfl (hO) HbF.h zL1 zD ?_; refine r_nn zN zH ?_) | (refine r_fn rfl (hJ) HbF.h zL2 zD ?_; refine r_nn zN zH ?_) | ((with_reducible refine r_gd ?_); (first | refine r_guardPt rfl rfl ?_ ?_ | refine r_guardNt rfl rfl ?_ ?_ | refine r_guard rfl rfl ?_ ?_) <;> intro hG <;> (try (exfalso; omega; done)) <;> refine r_nn zN zH ?_)) | fail)
  all_goals first
    | (exfalso
       have q : eqCells [V.i (ms.getD 0 default).server, V.i (ms.getD 0 default).weight] [V.i 2, V.i 3] = false := by assumption
       rw [m2] at q; cases q)
    | (exfalso
       have q : eqCells [V.i (ms.getD 1 default).server, V.i (ms.getD 1 default).weight] [V.i 4, V.i 2] = false := by assumption
       rw [m3] at q; cases q)
    | skip
  all_goals ((refine Runs.ret1 Try.func4 rfl zM zD ?_; try exact zX))
  all_goals (refine V.Le.of_eq (congrArg V.b ?_); first | rfl | (refine decide_eq_true ?_; omega))
end Go.Proofs
namespace Go.Proofs
open Go.AM
attribute [local irreducible] AM.evalR AM.evalD AM.Runs AM.valK AM.dK AM.opK AM.stepR AM.CallS AM.St.Le
theorem decE_len (b : List Int) : (decE b).1.members.length ≤ 12 := by
  unfold decE
  split
  · exact Nat.zero_le _
  split
  · exact Nat.zero_le _
  split
  · exact Nat.zero_le _
  split
  · exact Nat.zero_le _
  · show (memsN _ _).length ≤ 12
    rw [memsN_len]; omega
theorem nums_bd {g : View} (hm : MemOK g) (hr : RuleOK g.rule) : ∀ x ∈ numsG g, 0 ≤ x ∧ x ≤ 2147483647 := by
  intro x hx
  have hl := hm.len
  obtain ⟨r1, r2, r3, r4, r5⟩ := hr
  unfold numsG numsP at hx
  rw [List.take_length] at hx
  simp only [List.mem_append, List.mem_cons, List.mem_flatMap, List.not_mem_nil, or_false] at hx
  rcases hx with (rfl | ⟨m, h, rfl | rfl⟩) | rfl | rfl | rfl
  · omega
  · have := hm.1 m h; omega
  · have := hm.1 m h; omega
  · omega
  · by_cases h : g.rule.kind = 3
    · have := r2 h; omega
    · have := r3 h; omega
  · by_cases h : g.rule.kind = 4
    · have := r4 h; omega
    · have := r5 h; omega
theorem encL_bytes : ∀ (l : List Int), (∀ x ∈ l, 0 ≤ x ∧ x ≤ 2147483647) → Bytes (encL l)
  | [], _ => fun c hc => by cases hc
  | x :: l, h => by
    intro c hc
    unfold encL at hc
    rw [List.flatMap_cons, List.mem_append] at hc
    rcases hc with hc | hc
    · have := h x (by simp)
      exact encF_bytes 9 _ zo (Int.lt_of_lt_of_le (Int.emod_lt_of_pos x zd) zd) c hc
    · exact encL_bytes l (fun y hy => h y (by simp [hy])) c hc
theorem d_eqlS {P : Program} {A : Array Oper} {rest : List Oper} {K1 : St → Prop} {slots : List V} {H : AM.Heap} {D : Tmp} {ty T : TypeId} {x y : Operand} {t : TypeId} {pos : String} {af : Array Edge} {p : ByteArray} (hx : ev slots x = .sc (.string p)) (hy : ev slots y = .sc (.string p)) (h : evalD P A rest ⟨(slots).set D (.b true), H⟩ K1) :
    evalD P A (⟨some D, .binOp .eql T x y ty, t, pos, af, none⟩ :: rest) ⟨slots, H⟩ K1 := by
  rw [evalD_cons]
  simp only [dK, hx, hy, valK, binK, strK, decide_true]
  exact h
theorem law_MemberEncoding (f : Bool) (g : View) (b : List Int) (hB : Bytes b) (hb : b.length ≤ 4611686018427387904) (hgl : g.members.length ≤ 140737488351232) : AM.Fn Try.prog 3 [viV g, .sl f (b.map u8)] (.b true) := by
  by_cases hbig : 300 < b.length ∨ 60 < g.members.length
  · (refine spec_of_runs Try.func3 rfl ?_; simp only [Try.f3]; refine ys ?_)
    repeat' (first | refine yw ?_ | ((with_reducible refine Runs.is ?_); first | refine Runs.region (id := 0) ?_ | refine Runs.region (id := 1) ?_ | refine Runs.region (id := 2) ?_ | ((with_reducible refine Runs.isC ?_); refine Runs.cond rfl (zc ?_) (zc ?_) <;> intro hc <;> (try (first | contradiction | (exfalso; omega; done) | (have : hc = trivial := rfl; clear this; clear hc))))) | ((with_reducible refine r_is ?_); first | refine yr ?_ | (refine r_fn rfl (law_awake) HbF.h zL0 zD ?_; refine r_nn zN zH ?_) | ((with_reducible refine r_gd ?_); (first | refine r_guardPf rfl rfl ?_ ?_ | refine r_guardNf rfl rfl ?_ ?_ | refine r_guard rfl rfl ?_ ?_) <;> intro hG <;> (try (exfalso; omega; done)) <;> refine r_nn zN zH ?_)) | fail)
    all_goals ((refine Runs.ret1 Try.func3 rfl zM zD ?_; try exact zX))
  have hD1 := member_DecodeGenesis f b hB hb
  have hD2 := ref_DecodeGenesis f b hB hb
  have hdl := decE_len b
  generalize decE b = d at *
  obtain ⟨x, n, e⟩ := d
  dsimp only at hdl
  have hE1 := ref_EqualView x x zo
  rw [decide_eq_true rfl] at hE1
  have hV := vax_Gen g zo
  by_cases hg0 : genE g = 0
  rotate_left
  · generalize genE g = e2 at *
    (refine spec_of_runs Try.func3 rfl ?_; simp only [Try.f3]; refine ys ?_)
    repeat' (first | refine yw ?_ | ((with_reducible refine Runs.is ?_); first | refine Runs.region (id := 0) ?_ | refine Runs.region (id := 1) ?_ | refine Runs.region (id := 2) ?_ | refine Runs.region (id := 3) ?_ | refine Runs.region (id := 4) ?_ | refine Runs.region (id := 5) ?_ | refine Runs.region (id := 6) ?_ | refine Runs.region (id := 7) ?_ | refine Runs.region (id := 8) ?_ | ((with_reducible refine Runs.isC ?_); refine Runs.cond rfl (zc ?_) (zc ?_) <;> intro hc <;> (try (first | contradiction | (exfalso; omega; done) | (have : hc = trivial := rfl; clear this; clear hc))))) | ((with_reducible refine r_is ?_); first | refine yr ?_ | (refine r_fn rfl (law_awake) HbF.h zL0 zD ?_; refine r_nn zN zH ?_) | (refine r_fn rfl (hD1) HbF.h zL1 zD ?_; refine r_nn zN zH ?_) | (refine r_fn rfl (hD2) HbF.h zL1 zD ?_; refine r_nn zN zH ?_) | (refine r_fn rfl (hE1) HbF.h zL2 zD ?_; refine r_nn zN zH ?_) | (refine r_fn rfl (hV) HbF.h zL1 zD ?_; refine r_nn zN zH ?_) | ((with_reducible refine r_gd ?_); (first | refine r_guardPf rfl rfl ?_ ?_ | refine r_guardNf rfl rfl ?_ ?_ | refine r_guard rfl rfl ?_ ?_) <;> intro hG <;> (try (exfalso; omega; done)) <;> refine r_nn zN zH ?_)) | fail)
    all_goals ((refine Runs.ret1 Try.func3 rfl zM zD ?_; try exact zX))
  obtain ⟨hr, hm, _⟩ := genE_ok hg0
  have hml := hm.len
  have hA := member_AppendGenesis false [] g (by simp) zo
  have hA2 := ref_AppendGenesis false [] g (by simp) zo
  have hbd := nums_bd hm hr
  have hdec := dec_enc hg0 hbd hml b
  have hcb := encL_bytes _ hbd
  have hcl := encL_len (numsG g)
  have hcp : 0 < (encL (numsG g)).length := by
    unfold numsG numsP
    rw [List.cons_append]
    unfold encL
    rw [List.flatMap_cons, List.length_append]
    have := encF_pos 9 ((g.members.length : Int) % 18446744073709551616)
    dsimp only [encU]; omega
  have hnl : (numsG g).length ≤ 100 := by unfold numsG; rw [List.length_append, numsP_len _ _ (Nat.le_refl _)]; simp; omega
  rw [List.nil_append] at hA hA2
  generalize encL (numsG g) = c at *
  have hD3 := member_DecodeGenesis false (c ++ b) (fun y hy => (List.mem_append.1 hy).elim (hcb y) (hB y)) (by rw [List.length_append]; omega)
  rw [hdec] at hD3
  rw [hg0] at hV
  have hE3 := ref_EqualView g g zo
  rw [decide_eq_true rfl] at hE3
  have hcne : c.map u8 ≠ [] := fun h => by rw [List.map_eq_nil_iff] at h; rw [h] at hcp; simp at hcp
  (refine spec_of_runs Try.func3 rfl ?_; simp only [Try.f3]; refine ys ?_)
  repeat' (first | refine yw ?_ | ((with_reducible refine Runs.is ?_); first | refine Runs.region (id := 0) ?_ | refine Runs.region (id := 1) ?_ | refine Runs.region (id := 2) ?_ | refine Runs.region (id := 3) ?_ | refine Runs.region (id := 4) ?_ | refine Runs.region (id := 5) ?_ | refine Runs.region (id := 6) ?_ | refine Runs.region (id := 7) ?_ | refine Runs.region (id := 8) ?_ | refine Runs.region (id := 9) ?_ | ((with_reducible refine Runs.isC ?_); refine Runs.cond rfl (zc ?_) (zc ?_) <;> intro hc <;> (try (first | contradiction | (exfalso; omega; done) | (have : hc = trivial := rfl; clear this; clear hc))))) | ((with_reducible refine r_is ?_); first | refine yr ?_ | (refine r_fn rfl (hD1) HbF.h zL1 zD ?_; refine r_nn zN zH ?_) | (refine r_fn rfl (hD2) HbF.h zL1 zD ?_; refine r_nn zN zH ?_) | (refine r_fn rfl (hE1) HbF.h zL2 zD ?_; refine r_nn zN zH ?_) | (refine r_fn rfl (hV) HbF.h zL1 zD ?_; refine r_nn zN zH ?_) | (refine r_fn rfl (hA) HbF.h zL2 zD ?_; refine r_nn zN zH ?_) | ((with_reducible refine r_gd ?_); (first | refine r_guardPf rfl rfl ?_ ?_ | refine r_guardNf rfl rfl ?_ ?_ | refine r_guard rfl rfl ?_ ?_) <;> intro hG <;> (try (exfalso; omega; done)) <;> refine r_nn zN zH ?_)) | fail)
  refine Runs.regionAt 5 ?_
  dsimp only [List.take, List.drop]
  repeat' (first | refine yw ?_ | ((with_reducible refine Runs.is ?_); first | refine Runs.region (id := 10) ?_ | ((with_reducible refine Runs.isC ?_); refine Runs.cond rfl (zc ?_) (zc ?_) <;> intro hc <;> (try (first | contradiction | (exfalso; omega; done) | (have : hc = trivial := rfl; clear this; clear hc))))) | ((with_reducible refine r_is ?_); first | refine yr ?_ | (refine r_append_full SlF.h SlF.s ZoF.h zd rfl rfl zC zJ zS rfl (fun hn => ?_) (fun hn => ?_) <;> refine r_nn zN zH ?_)) | fail)
  · exact absurd (by assumption) hcne
  · exact absurd (by assumption) hcne
  refine ⟨_, St.Le.freeze_lst 68 rfl, ?_⟩
  refine yf ?_
  rw [← List.map_append]
  repeat' (first | refine yw ?_ | ((with_reducible refine Runs.is ?_); first | refine Runs.region (id := 10) ?_ | ((with_reducible refine Runs.isC ?_); refine Runs.cond rfl (zc ?_) (zc ?_) <;> intro hc <;> (try (first | contradiction | (exfalso; omega; done) | (have : hc = trivial := rfl; clear this; clear hc))))) | ((with_reducible refine r_is ?_); first | refine yr ?_ | (refine r_fn rfl (hD3) HbF.h zL1 zD ?_; refine r_nn zN zH ?_) | (refine r_append_full SlF.h SlF.s ZoF.h zd rfl rfl zC zJ zS rfl (fun hn => ?_) (fun hn => ?_) <;> refine r_nn zN zH ?_)) | fail)
  repeat' (first | refine yw ?_ | ((with_reducible refine Runs.is ?_); first | refine Runs.drawn (id := 11) mixed zK ?_ | ((with_reducible refine Runs.isC ?_); refine Runs.cond rfl (zc ?_) (zc ?_) <;> intro hc <;> (try (first | contradiction | (exfalso; omega; done) | (have : hc = trivial := rfl; clear this; clear hc))))) | ((with_reducible refine d_is ?_); first | refine yd ?_ | (refine d_fn rfl (hA2) HbF.h zL2 zD ?_; refine d_nn zN zH ?_) | (refine d_fn rfl (hE3) HbF.h zL2 zD ?_; refine d_nn zN zH ?_) | (refine d_fn rfl (law_awake) HbF.h zL0 zD ?_; refine d_nn zN zH ?_) | ((with_reducible refine d_gd ?_); (first | refine d_guardPt rfl rfl ?_ ?_ | refine d_guardNt rfl rfl ?_ ?_ | refine d_guard rfl rfl ?_ ?_) <;> intro hG <;> (try (exfalso; omega; done)) <;> refine d_nn zN zH ?_)) | fail)
  refine d_v rfl (v_conv_str (te := 5) rfl (by kernel_rfl) (by kernel_rfl) (by kernel_rfl) ?_)
  refine d_n zN ?_
  repeat' (first | refine yw ?_ | ((with_reducible refine Runs.is ?_); first | refine Runs.drawn (id := 11) mixed zK ?_ | ((with_reducible refine Runs.isC ?_); refine Runs.cond rfl (zc ?_) (zc ?_) <;> intro hc <;> (try (first | contradiction | (exfalso; omega; done) | (have : hc = trivial := rfl; clear this; clear hc))))) | ((with_reducible refine d_is ?_); first | refine yd ?_ | (refine d_fn rfl (hA2) HbF.h zL2 zD ?_; refine d_nn zN zH ?_) | (refine d_fn rfl (hE3) HbF.h zL2 zD ?_; refine d_nn zN zH ?_) | (refine d_fn rfl (law_awake) HbF.h zL0 zD ?_; refine d_nn zN zH ?_) | ((with_reducible refine d_gd ?_); (first | refine d_guardPt rfl rfl ?_ ?_ | refine d_guardNt rfl rfl ?_ ?_ | refine d_guard rfl rfl ?_ ?_) <;> intro hG <;> (try (exfalso; omega; done)) <;> refine d_nn zN zH ?_)) | fail)
  refine d_v rfl (v_conv_str (te := 5) rfl (by kernel_rfl) (by kernel_rfl) (by kernel_rfl) ?_)
  refine d_n zN ?_
  repeat' (first | refine yw ?_ | ((with_reducible refine Runs.is ?_); first | refine Runs.drawn (id := 11) mixed zK ?_ | ((with_reducible refine Runs.isC ?_); refine Runs.cond rfl (zc ?_) (zc ?_) <;> intro hc <;> (try (first | contradiction | (exfalso; omega; done) | (have : hc = trivial := rfl; clear this; clear hc))))) | ((with_reducible refine d_is ?_); first | refine yd ?_ | (refine d_fn rfl (hA2) HbF.h zL2 zD ?_; refine d_nn zN zH ?_) | (refine d_fn rfl (hE3) HbF.h zL2 zD ?_; refine d_nn zN zH ?_) | (refine d_fn rfl (law_awake) HbF.h zL0 zD ?_; refine d_nn zN zH ?_) | ((with_reducible refine d_gd ?_); (first | refine d_guardPt rfl rfl ?_ ?_ | refine d_guardNt rfl rfl ?_ ?_ | refine d_guard rfl rfl ?_ ?_) <;> intro hG <;> (try (exfalso; omega; done)) <;> refine d_nn zN zH ?_)) | fail)
  refine d_eqlS rfl rfl ?_
  refine d_n zN ?_
  repeat' (first | refine yw ?_ | ((with_reducible refine Runs.is ?_); first | refine Runs.drawn (id := 11) mixed zK ?_ | ((with_reducible refine Runs.isC ?_); refine Runs.cond rfl (zc ?_) (zc ?_) <;> intro hc <;> (try (first | contradiction | (exfalso; omega; done) | (have : hc = trivial := rfl; clear this; clear hc))))) | ((with_reducible refine d_is ?_); first | refine yd ?_ | (refine d_fn rfl (hA2) HbF.h zL2 zD ?_; refine d_nn zN zH ?_) | (refine d_fn rfl (hE3) HbF.h zL2 zD ?_; refine d_nn zN zH ?_) | (refine d_fn rfl (law_awake) HbF.h zL0 zD ?_; refine d_nn zN zH ?_) | ((with_reducible refine d_gd ?_); (first | refine d_guardPt rfl rfl ?_ ?_ | refine d_guardNt rfl rfl ?_ ?_ | refine d_guard rfl rfl ?_ ?_) <;> intro hG <;> (try (exfalso; omega; done)) <;> refine d_nn zN zH ?_)) | fail)
  (refine Runs.ret1 Try.func3 rfl zM zD ?_; try exact zX)
end Go.Proofs
namespace Go.Proofs
open Go.AM
attribute [local irreducible] AM.evalR AM.evalD AM.Runs AM.valK AM.dK AM.opK AM.stepR AM.CallS AM.St.Le
theorem row_own : ownKnob Try.prog.godebug = none := by kernel_rfl
theorem row_laid : laidOutB Try.prog = true := by kernel_rfl
theorem row_bool : Try.prog.underlying 4 = some .bool := by kernel_rfl
theorem row_int : Try.prog.underlying 3 = some (.int .i64) := by kernel_rfl
def I64 (z : Int) : Prop := -9223372036854775808 ≤ z ∧ z ≤ 9223372036854775807
theorem wf_i64 {z : Int} (h : (Lit.int .i64 z).wf = true) : I64 z := by
  simp only [Lit.wf, Bool.and_eq_true, decide_eq_true_eq] at h
  exact h
theorem opI : Opens Try.prog 3 1 (fun vs => ∃ z, I64 z ∧ vs = [V.i z]) := (opens_int row_int (by kernel_rfl)).imp fun vs ⟨z, h, e⟩ => ⟨z, wf_i64 h, e⟩
theorem opRu : Opens Try.prog 24 3 (fun vs => ∃ r : Rule, (I64 r.kind ∧ I64 r.columns ∧ I64 r.faulty) ∧ vs = [.i r.kind, .i r.columns, .i r.faulty]) :=
  (opens_struct (L := [(3, 0), (3, 1), (3, 2)]) (by kernel_rfl) zd (by kernel_rfl) (fs_cons opI (fs_cons opI (fs_cons opI fs_nil)))).imp fun vs h => by
    simp only [CatQ] at h
    obtain ⟨_, _, rfl, ⟨k, hk, rfl⟩, _, _, rfl, ⟨c, hc, rfl⟩, _, _, rfl, ⟨f, hf, rfl⟩, rfl⟩ := h
    exact ⟨⟨k, c, f⟩, ⟨hk, hc, hf⟩, rfl⟩
theorem opMb : Opens Try.prog 38 2 (fun vs => ∃ m : Member, (I64 m.server ∧ I64 m.weight) ∧ .agg vs = mbV m) :=
  (opens_struct (L := [(3, 0), (3, 1)]) (by kernel_rfl) zd (by kernel_rfl) (fs_cons opI (fs_cons opI fs_nil))).imp fun vs h => by
    simp only [CatQ] at h
    obtain ⟨_, _, rfl, ⟨k, hk, rfl⟩, _, _, rfl, ⟨c, hc, rfl⟩, rfl⟩ := h
    exact ⟨⟨k, c⟩, ⟨hk, hc⟩, rfl⟩
theorem opGe : Opens Try.prog 26 4 (fun vs => ∃ g : View, (g.members.length ≤ 140737488351232 ∧ ∀ m ∈ g.members, I64 m.server ∧ I64 m.weight) ∧ .agg vs = viV g) :=
  (opens_struct (L := [(22, 0), (24, 1)]) (by kernel_rfl) zd (by kernel_rfl) (fs_cons (opens_slice true (e := 38) (by kernel_rfl) (by kernel_rfl) opMb zd (by kernel_rfl) (by intro h; cases h)) (fs_cons opRu fs_nil))).imp fun vs h => by
    simp only [CatQ] at h
    obtain ⟨_, _, rfl, ⟨ess, h1, h2, rfl⟩, _, _, rfl, ⟨r, _, rfl⟩, rfl⟩ := h
    obtain ⟨xs, e1, e3, e2⟩ := lists_of (f := mbV) (ok := fun m => I64 m.server ∧ I64 m.weight) (ag := true) (ess := ess) fun c hc => h1 c hc
    have : reachBytes = 140737488351232 := rfl
    exact ⟨⟨xs, r⟩, ⟨by dsimp only; omega, e3⟩, by rw [e1]; rfl⟩
theorem oaGe : OpensV Try.prog 26 (fun u => ∃ g : View, (g.members.length ≤ 140737488351232 ∧ ∀ m ∈ g.members, I64 m.server ∧ I64 m.weight) ∧ u = viV g) := opGe.agg (L := [(22, 0), (24, 1)]) (by kernel_rfl) zd fun vs h => h
end Go.Proofs
namespace Go.Proofs
open Go.AM
attribute [local irreducible] AM.evalR AM.evalD AM.Runs AM.valK AM.dK AM.opK AM.stepR AM.CallS AM.St.Le
theorem row_u8 : Try.prog.underlying 5 = some (.int .u8) := by kernel_rfl
theorem wf_u8 {z : Int} (h : (Lit.int .u8 z).wf = true) : 0 ≤ z ∧ z < 256 := by
  simp only [Lit.wf, Bool.and_eq_true, decide_eq_true_eq] at h
  have h1 : (0 : Int) ≤ z := h.1
  have h2 : z ≤ 255 := h.2
  omega
theorem opU8 : Opens Try.prog 5 1 (fun vs => ∃ z, (0 ≤ z ∧ z < 256) ∧ vs = [u8 z]) := (opens_int row_u8 (by kernel_rfl)).imp fun vs ⟨z, h, e⟩ => ⟨z, wf_u8 h, e⟩
theorem opBy : Opens Try.prog 27 1 (fun vs => ∃ l : List Int, (Bytes l ∧ l.length ≤ 4611686018427387904) ∧ vs = [byV l]) := (opens_slice false (e := 5) (by kernel_rfl) (by kernel_rfl) opU8 zd (by kernel_rfl) (by rintro _ c ⟨z, _, rfl⟩; rfl)).imp fun vs ⟨ess, h1, h2, e⟩ => by
  obtain ⟨xs, e1, h3, e2⟩ := lists_of (f := u8) (ok := fun z => 0 ≤ z ∧ z < 256) (ag := false) (ess := ess) fun c hc => by obtain ⟨z, hz, rfl⟩ := h1 c hc; exact ⟨z, hz, rfl⟩
  have : reachBytes = 140737488351232 := rfl
  exact ⟨xs, ⟨h3, by omega⟩, by rw [e, e1]⟩
theorem oaBy : OpensV Try.prog 27 (fun u => ∃ l : List Int, (Bytes l ∧ l.length ≤ 4611686018427387904) ∧ u = byV l) := opBy.sl (e := 5) (by kernel_rfl) fun u ⟨l, h, e⟩ => ⟨l, h, by simpa using e⟩
end Go.Proofs
