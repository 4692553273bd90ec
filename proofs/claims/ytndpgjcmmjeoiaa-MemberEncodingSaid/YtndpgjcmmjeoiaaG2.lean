/- Contracts of functions and plain laws: W44, W42, W45, W43, W46, W47, W48, W49, W50, W63, W64, W19, W65, W66, W67, W68, W69, W70, W13, W20, W51, W52, W10, W54. -/
import Derived.Test.YtndpgjcmmjeoiaaG1
set_option linter.unusedVariables false
set_option linter.unusedSimpArgs false
set_option maxRecDepth 8000
set_option maxHeartbeats 4000000
set_option pp.deepTerms false
set_option pp.deepTerms.threshold 6
namespace Go.Proofs
open Go.AM
attribute [local irreducible] AM.evalR AM.evalD AM.Runs AM.valK AM.dK AM.opK AM.stepR AM.CallS AM.St.Le
section
variable {α : Type} {row L : List α} {x z : α} {i n c : Nat}
theorem insA (h : row.take n = L) (hi : i < n) : row.take (i + 1) ++ (((row.drop i).take (n + 1 - i)).take (n - i) ++ row.drop (i + 1 + (n - i))) = row.take (i + 1) ++ (L.drop i ++ row.drop (n + 1)) := by
  rw [List.take_take, Nat.min_eq_left zo, List.take_drop, show i + (n - i) = n by omega, h, show i + 1 + (n - i) = n + 1 by omega]
theorem insB (h : row.take n = L) (hi : i < n) (hc : n + 1 ≤ row.length) :
    (row.take (i + 1) ++ (L.drop i ++ row.drop (n + 1))).take i ++ ([x].take 1 ++ (row.take (i + 1) ++ (L.drop i ++ row.drop (n + 1))).drop (i + 1)) = L.take i ++ ([x] ++ (L.drop i ++ row.drop (n + 1))) := by
  have h1 : (row.take (i + 1)).length = i + 1 := by rw [List.length_take]; omega
  rw [List.take_append_of_le_length zo, List.take_take, Nat.min_eq_left zo, List.drop_left' h1, ← h, List.take_take, Nat.min_eq_left zo]
  rfl
theorem insC {rest : List α} (hL : L.length = n) (hi : i < n) : (L.take i ++ ([x] ++ (L.drop i ++ rest))).take (n + 1) = L.take i ++ x :: L.drop i := by
  have e : L.take i ++ ([x] ++ (L.drop i ++ rest)) = (L.take i ++ x :: L.drop i) ++ rest := by simp
  rw [e, List.take_left' (by simp; omega)]
theorem insD (hL : L.length = n) (hi : i < n) (hc : n + 1 ≤ c) : (L.take i ++ List.replicate (c - i) z).take i ++ ([x].take 1 ++ (L.take i ++ List.replicate (c - i) z).drop (i + 1)) = L.take i ++ ([x] ++ List.replicate (c - (i + 1)) z) := by
  have h1 : (L.take i).length = i := by rw [List.length_take]; omega
  rw [List.take_left' h1, List.drop_append, h1, List.drop_of_length_le zo, show i + 1 - i = 1 by omega, List.drop_replicate, show c - i - 1 = c - (i + 1) by omega]
  rfl
theorem insE (h : row.take n = L) (hL : L.length = n) (hi : i < n) (hc : n + 1 ≤ c) :
    (L.take i ++ ([x] ++ List.replicate (c - (i + 1)) z)).take (i + 1) ++ (((row.drop i).take (n - i)).take (n - i) ++ (L.take i ++ ([x] ++ List.replicate (c - (i + 1)) z)).drop (i + 1 + (n - i))) = L.take i ++ ([x] ++ (L.drop i ++ List.replicate (c - (n + 1)) z)) := by
  have h1 : (L.take i ++ [x]).length = i + 1 := by rw [List.length_append, List.length_take]; simp; omega
  have e : L.take i ++ ([x] ++ List.replicate (c - (i + 1)) z) = (L.take i ++ [x]) ++ List.replicate (c - (i + 1)) z := (List.append_assoc ..).symm
  rw [e, List.take_left' h1, List.take_take, Nat.min_self, List.take_drop, show i + (n - i) = n by omega, h, List.drop_append, List.drop_of_length_le (l := L.take i ++ [x]) (by rw [h1]; omega), h1, List.nil_append, show i + 1 + (n - i) - (i + 1) = n - i by omega, List.drop_replicate, show c - (i + 1) - (n - i) = c - (n + 1) by omega]
  simp
end
section
variable {P : Program} {e : Operand → V} {H : Heap} {K : V → Prop} {t te te' : TypeId} {x : Operand} {sz by_ id off len cap : Nat} {es : List V} {k k' : IntKind}
theorem v_slice_vloN {lo : Operand} {li : Int} (l : Nat) {off' len' cap' : Nat} (hs : slv P t = some (te, sz, by_)) (hx : e x = .vw id off len cap) (ho : AM.look H id = some (.row te' sz es)) (hl : e lo = .sc (.int k li)) (hli : li = (l : Nat)) (hb : l ≤ len ∧ l < cap) (h1 : off + l = off') (h2 : len - l = len') (h3 : cap - l = cap')
    (h : K (.vw id off' len' cap')) : valK P (.slice t x (some lo) none none) e H K := by
  subst hli
  refine v_slice_vlo hs hx ho hl ⟨by omega, by omega⟩ ?_
  rw [Int.toNat_natCast, if_neg zo, h1, h2, h3]; exact h
theorem v_slice_vhiN {hi : Operand} {li : Int} (l : Nat) (hs : slv P t = some (te, sz, by_)) (hx : e x = .vw id off len cap) (ho : AM.look H id = some (.row te' sz es)) (hl : e hi = .sc (.int k li)) (hli : li = (l : Nat)) (hb : l ≤ cap) (h : K (.vw id off l cap)) : valK P (.slice t x none (some hi) none) e H K := by
  subst hli
  refine v_slice_vhi hs hx ho hl ⟨by omega, by omega⟩ ?_
  rw [Int.toNat_natCast]; exact h
end
theorem insert_ints_mid (l : List Int) (i : Nat) (x : Int) (hi : i < l.length) (hl : l.length ≤ 1000000000) :
    AM.Gives Try.prog 52 1000 [.i (i : Nat), .sl true [.i x]] 3 1 (l.map .i) (fun r => r = (l.take i ++ x :: l.drop i).map .i) := by
  have hne : l.map V.i ≠ [] := by intro e; rw [List.map_eq_nil_iff] at e; subst e; simp at hi
  (refine gives_open Try.func52 rfl ?_ ?_ fun c hc0 => ?_; rotate_left; rotate_left; simp only [Try.f52]; refine ys ?_)
  · rw [List.length_map] at hc0 ⊢
    generalize hrow : l.map V.i ++ List.replicate (c - l.length) _ = row
    have hrl : row.length = c := by rw [← hrow]; simp; omega
    have hrt : row.take l.length = l.map V.i := by rw [← hrow, List.take_left' (by simp)]
    clear hrow
    have hL : (l.map V.i).length = l.length := by simp
    have hst : Storable (l.map V.i) := st_i l
    have hfin : (l.take i ++ x :: l.drop i).map V.i = (l.map V.i).take i ++ V.i x :: (l.map V.i).drop i := by simp
    rw [hfin]
    clear hfin
    generalize l.map V.i = L at hrt hL hst hne ⊢
    generalize l.length = n at *
    have hsd : Storable (L.drop i) := fun v hv => hst v (List.mem_of_mem_drop hv)
    repeat' (first | refine yw ?_ | ((with_reducible refine Runs.is ?_); first | refine Runs.region (id := 0) ?_ | refine Runs.region (id := 1) ?_ | ((with_reducible refine Runs.isC ?_); refine Runs.cond rfl (zc ?_) (zc ?_) <;> intro hc <;> (try (first | contradiction | (exfalso; omega; done) | (have : hc = trivial := rfl; clear this; clear hc))))) | ((with_reducible refine r_is ?_); first | refine yr ?_) | fail)
    refine r_v rfl (v_slice_vloN i SlF.h rfl rfl rfl rfl ⟨by omega, by omega⟩ (show 0 + i = i by omega) rfl rfl ?_)
    refine r_n zN ?_
    repeat' (first | refine yw ?_ | ((with_reducible refine Runs.is ?_); first | refine Runs.region (id := 2) ?_ | refine Runs.region (id := 3) ?_ | refine Runs.region (id := 4) ?_ | refine Runs.region (id := 5) ?_ | refine Runs.region (id := 6) ?_ | refine Runs.region (id := 7) ?_ | refine Runs.region (id := 8) ?_ | ((with_reducible refine Runs.isC ?_); refine Runs.cond rfl (zc ?_) (zc ?_) <;> intro hc <;> (try (first | contradiction | (exfalso; omega; done) | (have : hc = trivial := rfl; clear this; clear hc))))) | ((with_reducible refine r_is ?_); first | refine yr ?_ | (refine r_append_full SlF.h SlF.s ZoF.h zd rfl rfl zC zJ zS rfl (fun hn => ?_) (fun hn => ?_) <;> refine r_nn zN zH ?_)) | fail)
    · repeat' (first | refine yw ?_ | ((with_reducible refine Runs.is ?_); first | refine Runs.region (id := 9) ?_ | ((with_reducible refine Runs.isC ?_); refine Runs.cond rfl (zc ?_) (zc ?_) <;> intro hc <;> (try (first | contradiction | (exfalso; omega; done) | (have : hc = trivial := rfl; clear this; clear hc))))) | ((with_reducible refine r_is ?_); first | refine yr ?_ | (refine r_append_full SlF.h SlF.s ZoF.h zd rfl rfl zC zJ zS rfl (fun hn => ?_) (fun hn => ?_) <;> refine r_nn zN zH ?_)) | fail)
      refine r_v rfl (v_slice_vhiN i SlF.h rfl rfl rfl rfl zo ?_)
      refine r_n zN ?_
      repeat' (first | refine yw ?_ | ((with_reducible refine Runs.is ?_); first | refine Runs.region (id := 9) ?_ | ((with_reducible refine Runs.isC ?_); refine Runs.cond rfl (zc ?_) (zc ?_) <;> intro hc <;> (try (first | contradiction | (exfalso; omega; done) | (have : hc = trivial := rfl; clear this; clear hc))))) | ((with_reducible refine r_is ?_); first | refine yr ?_ | (refine r_append_full SlF.h SlF.s ZoF.h zd rfl rfl zC zJ zS rfl (fun hn => ?_) (fun hn => ?_) <;> refine r_nn zN zH ?_)) | fail)
      refine r_zap (m := n + 1 - i) (z := .i 0) SlF.h UnF.h rfl (congrArg (fun q => V.sc (.int .i64 q)) zo) rfl zo ⟨by omega, by omega, by omega, by omega⟩ ZvF.h ⟨rfl, rfl⟩ rfl (show _ = L.take i by rw [List.drop_zero, ← hrt, List.take_take, Nat.min_eq_left zo]) fun c' hc' => ?_
      refine r_nn zN zH ?_
      rw [show i + (n + 1 - i) = n + 1 by omega] at hc' ⊢
      repeat' (first | refine yw ?_ | ((with_reducible refine Runs.is ?_); first | refine Runs.region (id := 9) ?_ | refine Runs.region (id := 10) ?_ | ((with_reducible refine Runs.isC ?_); refine Runs.cond rfl (zc ?_) (zc ?_) <;> intro hc <;> (try (first | contradiction | (exfalso; omega; done) | (have : hc = trivial := rfl; clear this; clear hc))))) | ((with_reducible refine r_is ?_); first | refine yr ?_ | (refine r_copyA SlF.h SlF.s rfl rfl rfl zC (by simp) ?_; refine r_nn zN zH ?_) | (refine r_append_full SlF.h SlF.s ZoF.h zd rfl rfl zC zJ zS rfl (fun hn => ?_) (fun hn => ?_) <;> refine r_nn zN zH ?_)) | fail)
      refine r_v rfl (v_slice_vloN i SlF.h rfl rfl rfl rfl ⟨by omega, by omega⟩ (show 0 + i = i by omega) rfl rfl ?_)
      refine r_n zN ?_
      repeat' (first | refine yw ?_ | ((with_reducible refine Runs.is ?_); first | refine Runs.region (id := 10) ?_ | ((with_reducible refine Runs.isC ?_); refine Runs.cond rfl (zc ?_) (zc ?_) <;> intro hc <;> (try (first | contradiction | (exfalso; omega; done) | (have : hc = trivial := rfl; clear this; clear hc))))) | ((with_reducible refine r_is ?_); first | refine yr ?_ | (refine r_copyA SlF.h SlF.s rfl rfl rfl zC (by simp) ?_; refine r_nn zN zH ?_)) | fail)
      refine r_copyVS (n := 1) SlF.h SlF.s rfl rfl rfl (by simp; omega) (sd_i [x]) (by simp; omega) (fun v hv => by rw [List.mem_singleton.1 hv]; rfl) (insD hL hi hc') ?_
      refine r_nn zN zH ?_
      repeat' (first | refine yw ?_ | ((with_reducible refine Runs.is ?_); first | refine Runs.region (id := 10) ?_ | refine Runs.drawn (id := 11) mixed zK ?_ | ((with_reducible refine Runs.isC ?_); refine Runs.cond rfl (zc ?_) (zc ?_) <;> intro hc <;> (try (first | contradiction | (exfalso; omega; done) | (have : hc = trivial := rfl; clear this; clear hc))))) | ((with_reducible refine r_is ?_); first | refine yr ?_ | (refine r_copyA SlF.h SlF.s rfl rfl rfl zC (by simp) ?_; refine r_nn zN zH ?_)) | ((with_reducible refine d_is ?_); first | refine yd ?_) | fail)
      refine d_v rfl (v_slice_vloN (i + 1) SlF.h rfl rfl rfl zo ⟨by omega, by omega⟩ (show 0 + (i + 1) = i + 1 by omega) (show n + 1 - (i + 1) = n - i by omega) rfl ?_)
      refine d_n zN ?_
      repeat' (first | refine yw ?_ | ((with_reducible refine Runs.is ?_); first | refine Runs.drawn (id := 11) mixed zK ?_ | ((with_reducible refine Runs.isC ?_); refine Runs.cond rfl (zc ?_) (zc ?_) <;> intro hc <;> (try (first | contradiction | (exfalso; omega; done) | (have : hc = trivial := rfl; clear this; clear hc))))) | ((with_reducible refine d_is ?_); first | refine yd ?_) | fail)
      refine d_v rfl (v_slice_vloN i SlF.h rfl rfl rfl rfl ⟨by omega, by omega⟩ (show 0 + i = i by omega) rfl rfl ?_)
      refine d_n zN ?_
      repeat' (first | refine yw ?_ | ((with_reducible refine Runs.is ?_); first | refine Runs.drawn (id := 11) mixed zK ?_ | ((with_reducible refine Runs.isC ?_); refine Runs.cond rfl (zc ?_) (zc ?_) <;> intro hc <;> (try (first | contradiction | (exfalso; omega; done) | (have : hc = trivial := rfl; clear this; clear hc))))) | ((with_reducible refine d_is ?_); first | refine yd ?_) | fail)
      refine d_copyVV (n := n - i) SlF.h SlF.s rfl rfl rfl rfl (by simp; omega) zo zo (by rw [List.take_take, Nat.min_self, List.take_drop, show i + (n - i) = n by omega, hrt]; exact hsd) (insE hrt hL hi hc') ?_
      refine d_nn zN zH ?_
      repeat' (first | refine yw ?_ | ((with_reducible refine Runs.is ?_); first | refine Runs.drawn (id := 11) mixed zK ?_ | refine Runs.region (id := 12) ?_ | ((with_reducible refine Runs.isC ?_); refine Runs.cond rfl (zc ?_) (zc ?_) <;> intro hc <;> (try (first | contradiction | (exfalso; omega; done) | (have : hc = trivial := rfl; clear this; clear hc))))) | ((with_reducible refine r_is ?_); first | refine yr ?_ | (refine r_copyA SlF.h SlF.s rfl rfl rfl zC (by simp) ?_; refine r_nn zN zH ?_)) | ((with_reducible refine d_is ?_); first | refine yd ?_) | fail)
      exact Runs.ret_giveV Try.func52 rfl rfl rfl (by simp; omega) (insC hL hi) rfl
    · repeat' (first | refine yw ?_ | ((with_reducible refine Runs.is ?_); first | refine Runs.region (id := 13) ?_ | ((with_reducible refine Runs.isC ?_); refine Runs.cond rfl (zc ?_) (zc ?_) <;> intro hc <;> (try (first | contradiction | (exfalso; omega; done) | (have : hc = trivial := rfl; clear this; clear hc))))) | ((with_reducible refine r_is ?_); first | refine yr ?_) | fail)
      refine r_v rfl (v_slice_vhiN (n + 1) SlF.h rfl rfl rfl zo zo ?_)
      refine r_n zN ?_
      repeat' (first | refine yw ?_ | ((with_reducible refine Runs.is ?_); first | refine Runs.region (id := 13) ?_ | refine Runs.region (id := 14) ?_ | ((with_reducible refine Runs.isC ?_); refine Runs.cond rfl (zc ?_) (zc ?_) <;> intro hc <;> (try (first | contradiction | (exfalso; omega; done) | (have : hc = trivial := rfl; clear this; clear hc))))) | ((with_reducible refine r_is ?_); first | refine yr ?_) | fail)
      refine r_v rfl (v_slice_vloN (i + 1) SlF.h rfl rfl rfl zo ⟨by omega, by omega⟩ (show 0 + (i + 1) = i + 1 by omega) (show n + 1 - (i + 1) = n - i by omega) rfl ?_)
      refine r_n zN ?_
      repeat' (first | refine yw ?_ | ((with_reducible refine Runs.is ?_); first | refine Runs.region (id := 14) ?_ | ((with_reducible refine Runs.isC ?_); refine Runs.cond rfl (zc ?_) (zc ?_) <;> intro hc <;> (try (first | contradiction | (exfalso; omega; done) | (have : hc = trivial := rfl; clear this; clear hc))))) | ((with_reducible refine r_is ?_); first | refine yr ?_) | fail)
      refine r_overlaps (tS := 46) (tR := 4) Try.func70 (by kernel_rfl) (by kernel_rfl) (by kernel_rfl) (by kernel_rfl) SlF.h rfl rfl rfl ?_
      refine r_n zN ?_
      repeat' (first | refine yw ?_ | ((with_reducible refine Runs.is ?_); first | refine Runs.region (id := 14) ?_ | refine Runs.drawn (id := 15) mixed zK ?_ | ((with_reducible refine Runs.isC ?_); refine Runs.cond rfl (zc ?_) (zc ?_) <;> intro hc <;> (try (first | contradiction | (exfalso; omega; done) | (have : hc = trivial := rfl; clear this; clear hc))))) | ((with_reducible refine r_is ?_); first | refine yr ?_ | (refine r_copyA SlF.h SlF.s rfl rfl rfl zC (by simp) ?_; refine r_nn zN zH ?_)) | ((with_reducible refine d_is ?_); first | refine yd ?_) | fail)
      refine d_v rfl (v_slice_vloN (i + 1) SlF.h rfl rfl rfl zo ⟨by omega, by omega⟩ (show 0 + (i + 1) = i + 1 by omega) (show n + 1 - (i + 1) = n - i by omega) rfl ?_)
      refine d_n zN ?_
      repeat' (first | refine yw ?_ | ((with_reducible refine Runs.is ?_); first | refine Runs.drawn (id := 15) mixed zK ?_ | ((with_reducible refine Runs.isC ?_); refine Runs.cond rfl (zc ?_) (zc ?_) <;> intro hc <;> (try (first | contradiction | (exfalso; omega; done) | (have : hc = trivial := rfl; clear this; clear hc))))) | ((with_reducible refine d_is ?_); first | refine yd ?_) | fail)
      refine d_v rfl (v_slice_vloN i SlF.h rfl rfl rfl rfl ⟨by omega, by omega⟩ (show 0 + i = i by omega) rfl rfl ?_)
      refine d_n zN ?_
      repeat' (first | refine yw ?_ | ((with_reducible refine Runs.is ?_); first | refine Runs.drawn (id := 15) mixed zK ?_ | ((with_reducible refine Runs.isC ?_); refine Runs.cond rfl (zc ?_) (zc ?_) <;> intro hc <;> (try (first | contradiction | (exfalso; omega; done) | (have : hc = trivial := rfl; clear this; clear hc))))) | ((with_reducible refine d_is ?_); first | refine yd ?_) | fail)
      refine d_copyVV (n := n - i) SlF.h SlF.s rfl rfl rfl rfl zo zo zo (by rw [List.take_take, Nat.min_eq_left zo, List.take_drop, show i + (n - i) = n by omega, hrt]; exact hsd) (insA hrt hi) ?_
      refine d_nn zN zH ?_
      repeat' (first | refine yw ?_ | ((with_reducible refine Runs.is ?_); first | refine Runs.drawn (id := 15) mixed zK ?_ | refine Runs.region (id := 16) ?_ | ((with_reducible refine Runs.isC ?_); refine Runs.cond rfl (zc ?_) (zc ?_) <;> intro hc <;> (try (first | contradiction | (exfalso; omega; done) | (have : hc = trivial := rfl; clear this; clear hc))))) | ((with_reducible refine r_is ?_); first | refine yr ?_ | (refine r_copyA SlF.h SlF.s rfl rfl rfl zC (by simp) ?_; refine r_nn zN zH ?_)) | ((with_reducible refine d_is ?_); first | refine yd ?_) | fail)
      refine r_v rfl (v_slice_vloN i SlF.h rfl rfl rfl rfl ⟨by omega, by omega⟩ (show 0 + i = i by omega) rfl rfl ?_)
      refine r_n zN ?_
      repeat' (first | refine yw ?_ | ((with_reducible refine Runs.is ?_); first | refine Runs.region (id := 16) ?_ | ((with_reducible refine Runs.isC ?_); refine Runs.cond rfl (zc ?_) (zc ?_) <;> intro hc <;> (try (first | contradiction | (exfalso; omega; done) | (have : hc = trivial := rfl; clear this; clear hc))))) | ((with_reducible refine r_is ?_); first | refine yr ?_ | (refine r_copyA SlF.h SlF.s rfl rfl rfl zC (by simp) ?_; refine r_nn zN zH ?_)) | fail)
      refine r_copyVS (n := 1) SlF.h SlF.s rfl rfl rfl (by simp; omega) (sd_i [x]) (by simp; omega) (fun v hv => by rw [List.mem_singleton.1 hv]; rfl) (insB hrt hi zo) ?_
      refine r_nn zN zH ?_
      repeat' (first | refine yw ?_ | ((with_reducible refine Runs.is ?_); first | refine Runs.region (id := 16) ?_ | refine Runs.region (id := 17) ?_ | ((with_reducible refine Runs.isC ?_); refine Runs.cond rfl (zc ?_) (zc ?_) <;> intro hc <;> (try (first | contradiction | (exfalso; omega; done) | (have : hc = trivial := rfl; clear this; clear hc))))) | ((with_reducible refine r_is ?_); first | refine yr ?_ | (refine r_copyA SlF.h SlF.s rfl rfl rfl zC (by simp) ?_; refine r_nn zN zH ?_)) | fail)
      exact Runs.ret_giveV Try.func52 rfl rfl rfl (by simp; omega) (insC hL hi) rfl
  · exact hne
  · rfl
theorem insert_ints (l : List Int) (i : Nat) (x : Int) (hi : i ≤ l.length) (hl : l.length ≤ 1000000000) :
    AM.Gives Try.prog 52 1000 [.i (i : Nat), .sl true [.i x]] 3 1 (l.map .i) (fun r => r = (l.take i ++ x :: l.drop i).map .i) := by
  by_cases h : i < l.length
  · exact insert_ints_mid l i x h hl
  obtain rfl : i = l.length := by omega
  (refine spec_of_runs Try.func52 rfl ?_; simp only [Try.f52]; refine ys ?_)
  repeat' (first | refine yw ?_ | ((with_reducible refine Runs.is ?_); first | refine Runs.region (id := 0) ?_ | refine Runs.region (id := 1) ?_ | refine Runs.region (id := 2) ?_ | refine Runs.region (id := 3) ?_ | refine Runs.region (id := 4) ?_ | refine Runs.region (id := 5) ?_ | refine Runs.region (id := 6) ?_ | refine Runs.region (id := 7) ?_ | ((with_reducible refine Runs.isC ?_); refine Runs.cond rfl (zc ?_) (zc ?_) <;> intro hc <;> (try (first | contradiction | (exfalso; omega; done) | (have : hc = trivial := rfl; clear this; clear hc))))) | ((with_reducible refine r_is ?_); first | refine yr ?_ | (refine r_append_full SlF.h SlF.s ZoF.h zd rfl rfl zC zJ zS rfl (fun hn => ?_) (fun hn => ?_) <;> refine r_nn zN zH ?_)) | fail)
  all_goals first
    | (refine Runs.ret_give Try.func52 rfl rfl rfl ?_; simp; done)
    | (exfalso; simp at hc; done)
    | fail
theorem insert_we_mid (l : List WeightEntry) (i : Nat) (x : WeightEntry) (hi : i < l.length) (hl : l.length ≤ 1000000000) :
    AM.Gives Try.prog 56 1000 [.i (i : Nat), .sl true [weV x]] 72 5 (l.map weV) (fun r => r = (l.take i ++ x :: l.drop i).map weV) := by
  have hne : l.map weV ≠ [] := by intro e; rw [List.map_eq_nil_iff] at e; subst e; simp at hi
  (refine gives_open Try.func56 rfl ?_ ?_ fun c hc0 => ?_; rotate_left; rotate_left; simp only [Try.f56]; refine ys ?_)
  · rw [List.length_map] at hc0 ⊢
    generalize hrow : l.map weV ++ List.replicate (c - l.length) _ = row
    have hrl : row.length = c := by rw [← hrow]; simp; omega
    have hrt : row.take l.length = l.map weV := by rw [← hrow, List.take_left' (by simp)]
    clear hrow
    have hL : (l.map weV).length = l.length := by simp
    have hst : Storable (l.map weV) := st_weV l
    have hfin : (l.take i ++ x :: l.drop i).map weV = (l.map weV).take i ++ weV x :: (l.map weV).drop i := by simp
    rw [hfin]
    clear hfin
    generalize l.map weV = L at hrt hL hst hne ⊢
    generalize l.length = n at *
    have hsd : Storable (L.drop i) := fun v hv => hst v (List.mem_of_mem_drop hv)
    repeat' (first | refine yw ?_ | ((with_reducible refine Runs.is ?_); first | refine Runs.region (id := 0) ?_ | refine Runs.region (id := 1) ?_ | ((with_reducible refine Runs.isC ?_); refine Runs.cond rfl (zc ?_) (zc ?_) <;> intro hc <;> (try (first | contradiction | (exfalso; omega; done) | (have : hc = trivial := rfl; clear this; clear hc))))) | ((with_reducible refine r_is ?_); first | refine yr ?_) | fail)
    refine r_v rfl (v_slice_vloN i SlF.h rfl rfl rfl rfl ⟨by omega, by omega⟩ (show 0 + i = i by omega) rfl rfl ?_)
    refine r_n zN ?_
    repeat' (first | refine yw ?_ | ((with_reducible refine Runs.is ?_); first | refine Runs.region (id := 2) ?_ | refine Runs.region (id := 3) ?_ | refine Runs.region (id := 4) ?_ | refine Runs.region (id := 5) ?_ | refine Runs.region (id := 6) ?_ | refine Runs.region (id := 7) ?_ | refine Runs.region (id := 8) ?_ | ((with_reducible refine Runs.isC ?_); refine Runs.cond rfl (zc ?_) (zc ?_) <;> intro hc <;> (try (first | contradiction | (exfalso; omega; done) | (have : hc = trivial := rfl; clear this; clear hc))))) | ((with_reducible refine r_is ?_); first | refine yr ?_ | (refine r_append_full SlF.h SlF.s ZoF.h zd rfl rfl zC zJ zS rfl (fun hn => ?_) (fun hn => ?_) <;> refine r_nn zN zH ?_)) | fail)
    · repeat' (first | refine yw ?_ | ((with_reducible refine Runs.is ?_); first | refine Runs.region (id := 9) ?_ | ((with_reducible refine Runs.isC ?_); refine Runs.cond rfl (zc ?_) (zc ?_) <;> intro hc <;> (try (first | contradiction | (exfalso; omega; done) | (have : hc = trivial := rfl; clear this; clear hc))))) | ((with_reducible refine r_is ?_); first | refine yr ?_ | (refine r_append_full SlF.h SlF.s ZoF.h zd rfl rfl zC zJ zS rfl (fun hn => ?_) (fun hn => ?_) <;> refine r_nn zN zH ?_)) | fail)
      refine r_v rfl (v_slice_vhiN i SlF.h rfl rfl rfl rfl zo ?_)
      refine r_n zN ?_
      repeat' (first | refine yw ?_ | ((with_reducible refine Runs.is ?_); first | refine Runs.region (id := 9) ?_ | ((with_reducible refine Runs.isC ?_); refine Runs.cond rfl (zc ?_) (zc ?_) <;> intro hc <;> (try (first | contradiction | (exfalso; omega; done) | (have : hc = trivial := rfl; clear this; clear hc))))) | ((with_reducible refine r_is ?_); first | refine yr ?_ | (refine r_append_full SlF.h SlF.s ZoF.h zd rfl rfl zC zJ zS rfl (fun hn => ?_) (fun hn => ?_) <;> refine r_nn zN zH ?_)) | fail)
      refine r_zap (m := n + 1 - i) (z := weV ⟨0, 0, 0, 0, 0⟩) SlF.h UnF.h rfl (congrArg (fun q => V.sc (.int .i64 q)) zo) rfl zo ⟨by omega, by omega, by omega, by omega⟩ ZvF.h ⟨rfl, rfl⟩ rfl (show _ = L.take i by rw [List.drop_zero, ← hrt, List.take_take, Nat.min_eq_left zo]) fun c' hc' => ?_
      refine r_nn zN zH ?_
      rw [show i + (n + 1 - i) = n + 1 by omega] at hc' ⊢
      repeat' (first | refine yw ?_ | ((with_reducible refine Runs.is ?_); first | refine Runs.region (id := 9) ?_ | refine Runs.region (id := 10) ?_ | ((with_reducible refine Runs.isC ?_); refine Runs.cond rfl (zc ?_) (zc ?_) <;> intro hc <;> (try (first | contradiction | (exfalso; omega; done) | (have : hc = trivial := rfl; clear this; clear hc))))) | ((with_reducible refine r_is ?_); first | refine yr ?_ | (refine r_copyA SlF.h SlF.s rfl rfl rfl zC (by simp) ?_; refine r_nn zN zH ?_) | (refine r_append_full SlF.h SlF.s ZoF.h zd rfl rfl zC zJ zS rfl (fun hn => ?_) (fun hn => ?_) <;> refine r_nn zN zH ?_)) | fail)
      refine r_v rfl (v_slice_vloN i SlF.h rfl rfl rfl rfl ⟨by omega, by omega⟩ (show 0 + i = i by omega) rfl rfl ?_)
      refine r_n zN ?_
      repeat' (first | refine yw ?_ | ((with_reducible refine Runs.is ?_); first | refine Runs.region (id := 10) ?_ | ((with_reducible refine Runs.isC ?_); refine Runs.cond rfl (zc ?_) (zc ?_) <;> intro hc <;> (try (first | contradiction | (exfalso; omega; done) | (have : hc = trivial := rfl; clear this; clear hc))))) | ((with_reducible refine r_is ?_); first | refine yr ?_ | (refine r_copyA SlF.h SlF.s rfl rfl rfl zC (by simp) ?_; refine r_nn zN zH ?_)) | fail)
      refine r_copyVS (n := 1) SlF.h SlF.s rfl rfl rfl (by simp; omega) (sd_weV [x]) (by simp; omega) (fun v hv => by rw [List.mem_singleton.1 hv]; rfl) (insD hL hi hc') ?_
      refine r_nn zN zH ?_
      repeat' (first | refine yw ?_ | ((with_reducible refine Runs.is ?_); first | refine Runs.region (id := 10) ?_ | refine Runs.drawn (id := 11) mixed zK ?_ | ((with_reducible refine Runs.isC ?_); refine Runs.cond rfl (zc ?_) (zc ?_) <;> intro hc <;> (try (first | contradiction | (exfalso; omega; done) | (have : hc = trivial := rfl; clear this; clear hc))))) | ((with_reducible refine r_is ?_); first | refine yr ?_ | (refine r_copyA SlF.h SlF.s rfl rfl rfl zC (by simp) ?_; refine r_nn zN zH ?_)) | ((with_reducible refine d_is ?_); first | refine yd ?_) | fail)
      refine d_v rfl (v_slice_vloN (i + 1) SlF.h rfl rfl rfl zo ⟨by omega, by omega⟩ (show 0 + (i + 1) = i + 1 by omega) (show n + 1 - (i + 1) = n - i by omega) rfl ?_)
      refine d_n zN ?_
      repeat' (first | refine yw ?_ | ((with_reducible refine Runs.is ?_); first | refine Runs.drawn (id := 11) mixed zK ?_ | ((with_reducible refine Runs.isC ?_); refine Runs.cond rfl (zc ?_) (zc ?_) <;> intro hc <;> (try (first | contradiction | (exfalso; omega; done) | (have : hc = trivial := rfl; clear this; clear hc))))) | ((with_reducible refine d_is ?_); first | refine yd ?_) | fail)
      refine d_v rfl (v_slice_vloN i SlF.h rfl rfl rfl rfl ⟨by omega, by omega⟩ (show 0 + i = i by omega) rfl rfl ?_)
      refine d_n zN ?_
      repeat' (first | refine yw ?_ | ((with_reducible refine Runs.is ?_); first | refine Runs.drawn (id := 11) mixed zK ?_ | ((with_reducible refine Runs.isC ?_); refine Runs.cond rfl (zc ?_) (zc ?_) <;> intro hc <;> (try (first | contradiction | (exfalso; omega; done) | (have : hc = trivial := rfl; clear this; clear hc))))) | ((with_reducible refine d_is ?_); first | refine yd ?_) | fail)
      refine d_copyVV (n := n - i) SlF.h SlF.s rfl rfl rfl rfl (by simp; omega) zo zo (by rw [List.take_take, Nat.min_self, List.take_drop, show i + (n - i) = n by omega, hrt]; exact hsd) (insE hrt hL hi hc') ?_
      refine d_nn zN zH ?_
      repeat' (first | refine yw ?_ | ((with_reducible refine Runs.is ?_); first | refine Runs.drawn (id := 11) mixed zK ?_ | refine Runs.region (id := 12) ?_ | ((with_reducible refine Runs.isC ?_); refine Runs.cond rfl (zc ?_) (zc ?_) <;> intro hc <;> (try (first | contradiction | (exfalso; omega; done) | (have : hc = trivial := rfl; clear this; clear hc))))) | ((with_reducible refine r_is ?_); first | refine yr ?_ | (refine r_copyA SlF.h SlF.s rfl rfl rfl zC (by simp) ?_; refine r_nn zN zH ?_)) | ((with_reducible refine d_is ?_); first | refine yd ?_) | fail)
      exact Runs.ret_giveV Try.func56 rfl rfl rfl (by simp; omega) (insC hL hi) rfl
    · repeat' (first | refine yw ?_ | ((with_reducible refine Runs.is ?_); first | refine Runs.region (id := 13) ?_ | ((with_reducible refine Runs.isC ?_); refine Runs.cond rfl (zc ?_) (zc ?_) <;> intro hc <;> (try (first | contradiction | (exfalso; omega; done) | (have : hc = trivial := rfl; clear this; clear hc))))) | ((with_reducible refine r_is ?_); first | refine yr ?_) | fail)
      refine r_v rfl (v_slice_vhiN (n + 1) SlF.h rfl rfl rfl zo zo ?_)
      refine r_n zN ?_
      repeat' (first | refine yw ?_ | ((with_reducible refine Runs.is ?_); first | refine Runs.region (id := 13) ?_ | refine Runs.region (id := 14) ?_ | ((with_reducible refine Runs.isC ?_); refine Runs.cond rfl (zc ?_) (zc ?_) <;> intro hc <;> (try (first | contradiction | (exfalso; omega; done) | (have : hc = trivial := rfl; clear this; clear hc))))) | ((with_reducible refine r_is ?_); first | refine yr ?_) | fail)
      refine r_v rfl (v_slice_vloN (i + 1) SlF.h rfl rfl rfl zo ⟨by omega, by omega⟩ (show 0 + (i + 1) = i + 1 by omega) (show n + 1 - (i + 1) = n - i by omega) rfl ?_)
      refine r_n zN ?_
      repeat' (first | refine yw ?_ | ((with_reducible refine Runs.is ?_); first | refine Runs.region (id := 14) ?_ | ((with_reducible refine Runs.isC ?_); refine Runs.cond rfl (zc ?_) (zc ?_) <;> intro hc <;> (try (first | contradiction | (exfalso; omega; done) | (have : hc = trivial := rfl; clear this; clear hc))))) | ((with_reducible refine r_is ?_); first | refine yr ?_) | fail)
      refine r_overlaps (tS := 47) (tR := 4) Try.func72 (by kernel_rfl) (by kernel_rfl) (by kernel_rfl) (by kernel_rfl) SlF.h rfl rfl rfl ?_
      refine r_n zN ?_
      repeat' (first | refine yw ?_ | ((with_reducible refine Runs.is ?_); first | refine Runs.region (id := 14) ?_ | refine Runs.drawn (id := 15) mixed zK ?_ | ((with_reducible refine Runs.isC ?_); refine Runs.cond rfl (zc ?_) (zc ?_) <;> intro hc <;> (try (first | contradiction | (exfalso; omega; done) | (have : hc = trivial := rfl; clear this; clear hc))))) | ((with_reducible refine r_is ?_); first | refine yr ?_ | (refine r_copyA SlF.h SlF.s rfl rfl rfl zC (by simp) ?_; refine r_nn zN zH ?_)) | ((with_reducible refine d_is ?_); first | refine yd ?_) | fail)
      refine d_v rfl (v_slice_vloN (i + 1) SlF.h rfl rfl rfl zo ⟨by omega, by omega⟩ (show 0 + (i + 1) = i + 1 by omega) (show n + 1 - (i + 1) = n - i by omega) rfl ?_)
      refine d_n zN ?_
      repeat' (first | refine yw ?_ | ((with_reducible refine Runs.is ?_); first | refine Runs.drawn (id := 15) mixed zK ?_ | ((with_reducible refine Runs.isC ?_); refine Runs.cond rfl (zc ?_) (zc ?_) <;> intro hc <;> (try (first | contradiction | (exfalso; omega; done) | (have : hc = trivial := rfl; clear this; clear hc))))) | ((with_reducible refine d_is ?_); first | refine yd ?_) | fail)
      refine d_v rfl (v_slice_vloN i SlF.h rfl rfl rfl rfl ⟨by omega, by omega⟩ (show 0 + i = i by omega) rfl rfl ?_)
      refine d_n zN ?_
      repeat' (first | refine yw ?_ | ((with_reducible refine Runs.is ?_); first | refine Runs.drawn (id := 15) mixed zK ?_ | ((with_reducible refine Runs.isC ?_); refine Runs.cond rfl (zc ?_) (zc ?_) <;> intro hc <;> (try (first | contradiction | (exfalso; omega; done) | (have : hc = trivial := rfl; clear this; clear hc))))) | ((with_reducible refine d_is ?_); first | refine yd ?_) | fail)
      refine d_copyVV (n := n - i) SlF.h SlF.s rfl rfl rfl rfl zo zo zo (by rw [List.take_take, Nat.min_eq_left zo, List.take_drop, show i + (n - i) = n by omega, hrt]; exact hsd) (insA hrt hi) ?_
      refine d_nn zN zH ?_
      repeat' (first | refine yw ?_ | ((with_reducible refine Runs.is ?_); first | refine Runs.drawn (id := 15) mixed zK ?_ | refine Runs.region (id := 16) ?_ | ((with_reducible refine Runs.isC ?_); refine Runs.cond rfl (zc ?_) (zc ?_) <;> intro hc <;> (try (first | contradiction | (exfalso; omega; done) | (have : hc = trivial := rfl; clear this; clear hc))))) | ((with_reducible refine r_is ?_); first | refine yr ?_ | (refine r_copyA SlF.h SlF.s rfl rfl rfl zC (by simp) ?_; refine r_nn zN zH ?_)) | ((with_reducible refine d_is ?_); first | refine yd ?_) | fail)
      refine r_v rfl (v_slice_vloN i SlF.h rfl rfl rfl rfl ⟨by omega, by omega⟩ (show 0 + i = i by omega) rfl rfl ?_)
      refine r_n zN ?_
      repeat' (first | refine yw ?_ | ((with_reducible refine Runs.is ?_); first | refine Runs.region (id := 16) ?_ | ((with_reducible refine Runs.isC ?_); refine Runs.cond rfl (zc ?_) (zc ?_) <;> intro hc <;> (try (first | contradiction | (exfalso; omega; done) | (have : hc = trivial := rfl; clear this; clear hc))))) | ((with_reducible refine r_is ?_); first | refine yr ?_ | (refine r_copyA SlF.h SlF.s rfl rfl rfl zC (by simp) ?_; refine r_nn zN zH ?_)) | fail)
      refine r_copyVS (n := 1) SlF.h SlF.s rfl rfl rfl (by simp; omega) (sd_weV [x]) (by simp; omega) (fun v hv => by rw [List.mem_singleton.1 hv]; rfl) (insB hrt hi zo) ?_
      refine r_nn zN zH ?_
      repeat' (first | refine yw ?_ | ((with_reducible refine Runs.is ?_); first | refine Runs.region (id := 16) ?_ | refine Runs.region (id := 17) ?_ | ((with_reducible refine Runs.isC ?_); refine Runs.cond rfl (zc ?_) (zc ?_) <;> intro hc <;> (try (first | contradiction | (exfalso; omega; done) | (have : hc = trivial := rfl; clear this; clear hc))))) | ((with_reducible refine r_is ?_); first | refine yr ?_ | (refine r_copyA SlF.h SlF.s rfl rfl rfl zC (by simp) ?_; refine r_nn zN zH ?_)) | fail)
      exact Runs.ret_giveV Try.func56 rfl rfl rfl (by simp; omega) (insC hL hi) rfl
  · exact hne
  · rfl
theorem insert_we (l : List WeightEntry) (i : Nat) (x : WeightEntry) (hi : i ≤ l.length) (hl : l.length ≤ 1000000000) :
    AM.Gives Try.prog 56 1000 [.i (i : Nat), .sl true [weV x]] 72 5 (l.map weV) (fun r => r = (l.take i ++ x :: l.drop i).map weV) := by
  by_cases h : i < l.length
  · exact insert_we_mid l i x h hl
  obtain rfl : i = l.length := by omega
  (refine spec_of_runs Try.func56 rfl ?_; simp only [Try.f56]; refine ys ?_)
  repeat' (first | refine yw ?_ | ((with_reducible refine Runs.is ?_); first | refine Runs.region (id := 0) ?_ | refine Runs.region (id := 1) ?_ | refine Runs.region (id := 2) ?_ | refine Runs.region (id := 3) ?_ | refine Runs.region (id := 4) ?_ | refine Runs.region (id := 5) ?_ | refine Runs.region (id := 6) ?_ | refine Runs.region (id := 7) ?_ | ((with_reducible refine Runs.isC ?_); refine Runs.cond rfl (zc ?_) (zc ?_) <;> intro hc <;> (try (first | contradiction | (exfalso; omega; done) | (have : hc = trivial := rfl; clear this; clear hc))))) | ((with_reducible refine r_is ?_); first | refine yr ?_ | (refine r_append_full SlF.h SlF.s ZoF.h zd rfl rfl zC zJ zS rfl (fun hn => ?_) (fun hn => ?_) <;> refine r_nn zN zH ?_)) | fail)
  all_goals first
    | (refine Runs.ret_give Try.func56 rfl rfl rfl ?_; simp; done)
    | (exfalso; simp at hc; done)
    | fail
theorem bs_le0 (k : Nat → Int) (i j : Nat) (h : i ≤ j) : i ≤ bs k i j ∧ bs k i j ≤ j := by
  induction hn : j - i using Nat.strongRecOn generalizing i j with
  | _ n ih =>
    rw [bs]
    split
    · rename_i hlt
      split
      · have := ih (j - ((i + j) / 2 + 1)) zo ((i + j) / 2 + 1) j zo rfl; omega
      · have := ih ((i + j) / 2 - i) zo i ((i + j) / 2) zo rfl; omega
    · omega
theorem bsI_le (l : List Int) (x : Int) : bsI l x ≤ l.length := (bs_le0 _ _ _ (Nat.zero_le _)).2
theorem bsW_le (l : List WeightEntry) (x : WeightEntry) : bsW l x ≤ l.length := (bs_le0 _ _ _ (Nat.zero_le _)).2
theorem putI_len (l : List Int) (x : Int) : (putI l x).length = l.length + 1 := by
  have := bsI_le l x
  simp [putI]; omega
theorem putW_len (l : List WeightEntry) (x : WeightEntry) : (putW l x).length = l.length + 1 := by
  have := bsW_le l x
  simp [putW]; omega
theorem insI_len (l : List Int) (x : Int) : (insI l x).length ≤ l.length + 1 := by
  unfold insI; split
  · omega
  · rw [putI_len]; omega
theorem insW_len (l : List WeightEntry) (x : WeightEntry) : (insW l x).length ≤ l.length + 1 := by
  unfold insW; split
  · split
    · rw [List.length_set]; omega
    · omega
  · rw [putW_len]; omega
theorem unionI_len (a b : List Int) : (unionI a b).length ≤ a.length + b.length := by
  unfold unionI
  induction b generalizing a with
  | nil => simp
  | cons x b ih => have := ih (insI a x); have := insI_len a x; rw [List.foldl_cons, List.length_cons]; omega
theorem weightsI_len (a b : List WeightEntry) : (weightsI a b).length ≤ a.length + b.length := by
  unfold weightsI
  induction b generalizing a with
  | nil => simp
  | cons x b ih => have := ih (insW a x); have := insW_len a x; rw [List.foldl_cons, List.length_cons]; omega
theorem member_union_all (f g : Bool) (a b : List Int) (h : a.length + b.length ≤ 1000000000) : AM.Fn Try.prog 38 [.sl f (a.map .i), .sl g (b.map .i)] (.sl false ((unionI a b).map .i)) := by
  refine member_union f g a b zo fun k hk _ => ?_
  have := unionI_len a (b.take k)
  unfold unionI at this
  rw [List.length_take] at this
  exact insert_ints _ _ _ (bsI_le _ _) zo
theorem member_weights_all (f g : Bool) (a b : List WeightEntry) (h : a.length + b.length ≤ 1000000000) : AM.Fn Try.prog 39 [.sl f (a.map weV), .sl g (b.map weV)] (.sl false ((weightsI a b).map weV)) := by
  refine member_weights f g a b zo fun k hk _ => ?_
  have := weightsI_len a (b.take k)
  unfold weightsI at this
  rw [List.length_take] at this
  exact insert_we _ _ _ (bsW_le _ _) zo
end Go.Proofs
namespace Go.Proofs
open Go.AM
attribute [local irreducible] AM.evalR AM.evalD AM.Runs AM.valK AM.dK AM.opK AM.stepR AM.CallS AM.St.Le
def joinR (a b : Summary) : Summary := if b.rule ≠ ⟨0, 0, 0⟩ ∧ (a.rule = ⟨0, 0, 0⟩ ∨ newerW (originW a) (originW b) = true) then b else a
def joinS (a b : Summary) : Summary := ⟨unionI a.joined b.joined, unionI a.removed b.removed, weightsI a.weights b.weights, (joinR a b).rule, (joinR a b).version, (joinR a b).admin, (joinR a b).number⟩
theorem rz_p {r : Rule} {b : Bool} (e : eqCells [.i r.kind, .i r.columns, .i r.faulty] [.i 0, .i 0, .i 0] = b) : decide (r = ⟨0, 0, 0⟩) = b := (eqc_ru0 r).symm.trans e
theorem rz_n {r : Rule} {b : Bool} (e : (!eqCells [.i r.kind, .i r.columns, .i r.faulty] [.i 0, .i 0, .i 0]) = b) : decide (r = ⟨0, 0, 0⟩) = !b := by rw [← e, Bool.not_not]; exact (eqc_ru0 r).symm
theorem member_Join (a b : Summary) (hJ : AM.Fn Try.prog 38 [.sl false (a.joined.map .i), .sl false (b.joined.map .i)] (.sl false ((unionI a.joined b.joined).map .i)))
    (hR : AM.Fn Try.prog 38 [.sl false (a.removed.map .i), .sl false (b.removed.map .i)] (.sl false ((unionI a.removed b.removed).map .i)))
    (hW : AM.Fn Try.prog 39 [.sl false (a.weights.map weV), .sl false (b.weights.map weV)] (.sl false ((weightsI a.weights b.weights).map weV))) :
    AM.Fn Try.prog 18 [suV a, suV b] (suV (joinS a b)) := by
  have hN := member_newer (originW a) (originW b)
  rw [show decide (0 < orI [cmpI (originW b).version (originW a).version, cmpI (originW b).admin (originW a).admin, cmpI (originW b).number (originW a).number]) = newerW (originW a) (originW b) from rfl] at hN
  have hgo : ∀ r, joinR a b = r → (⟨unionI a.joined b.joined, unionI a.removed b.removed, weightsI a.weights b.weights, r.rule, r.version, r.admin, r.number⟩ : Summary) = joinS a b := fun r h => by subst h; rfl
  generalize joinS a b = res at *
  unfold joinR at hgo
  (refine spec_of_runs Try.func18 rfl ?_; simp only [Try.f18]; refine ys ?_)
  repeat' (first | refine yw ?_ | ((with_reducible refine Runs.is ?_); first | refine Runs.region (id := 0) ?_ | refine Runs.region (id := 1) ?_ | ((with_reducible refine Runs.isC ?_); refine Runs.cond rfl (zc ?_) (zc ?_) <;> intro hc <;> (try (first | contradiction | (exfalso; omega; done) | (have : hc = trivial := rfl; clear this; clear hc))))) | ((with_reducible refine r_is ?_); first | refine yr ?_) | fail)
  repeat' (first | refine yw ?_ | ((with_reducible refine Runs.is ?_); first | refine Runs.drawn (id := 2) mixed zK ?_ | ((with_reducible refine Runs.isC ?_); refine Runs.cond rfl (zc ?_) (zc ?_) <;> intro hc <;> (try (first | contradiction | (exfalso; omega; done) | (have : hc = trivial := rfl; clear this; clear hc))))) | ((with_reducible refine d_is ?_); first | refine yd ?_ | (refine d_fn rfl (member_origin a) HbF.h zL1 zD ?_; refine d_nn zN zH ?_) | (refine d_fn rfl (member_origin b) HbF.h zL1 zD ?_; refine d_nn zN zH ?_) | (refine d_fn rfl (hN) HbF.h zL2 zD ?_; refine d_nn zN zH ?_) | ((with_reducible refine d_gd ?_); (first | refine d_guardPf rfl rfl ?_ ?_ | refine d_guardNf rfl rfl ?_ ?_ | refine d_guardPt rfl rfl ?_ ?_ | refine d_guardNt rfl rfl ?_ ?_ | refine d_guard rfl rfl ?_ ?_) <;> intro hG <;> (try (exfalso; omega; done)) <;> refine d_nn zN zH ?_)) | fail)
  · rename_i h1
    have hr := hgo b (if_pos ⟨of_decide_eq_false (rz_n h1), .inr hc⟩)
    subst hr
    clear hgo hG h1 hc
    repeat' (first | refine yw ?_ | ((with_reducible refine Runs.is ?_); first | refine Runs.region (id := 3) ?_ | refine Runs.drawn (id := 4) mixed zK ?_ | ((with_reducible refine Runs.isC ?_); refine Runs.cond rfl (zc ?_) (zc ?_) <;> intro hc <;> (try (first | contradiction | (exfalso; omega; done) | (have : hc = trivial := rfl; clear this; clear hc))))) | ((with_reducible refine r_is ?_); first | refine yr ?_) | ((with_reducible refine d_is ?_); first | refine yd ?_ | (refine d_fn rfl (hJ) HbF.h zL2 zD ?_; refine d_nn zN zH ?_) | (refine d_fn rfl (hR) HbF.h zL2 zD ?_; refine d_nn zN zH ?_) | (refine d_fn rfl (hW) HbF.h zL2 zD ?_; refine d_nn zN zH ?_)) | fail)
    (refine Runs.retC Try.func18 rfl zM rfl TyF.h (And.intro zE zd) zD ?_; try exact zX)
  · have hr := hgo a (if_neg (fun q => q.2.elim (of_decide_eq_false (rz_p hG)) (fun e => by rw [hc] at e; cases e)))
    subst hr
    clear hgo hG hc
    repeat' (first | refine yw ?_ | ((with_reducible refine Runs.is ?_); first | refine Runs.region (id := 3) ?_ | refine Runs.drawn (id := 4) mixed zK ?_ | ((with_reducible refine Runs.isC ?_); refine Runs.cond rfl (zc ?_) (zc ?_) <;> intro hc <;> (try (first | contradiction | (exfalso; omega; done) | (have : hc = trivial := rfl; clear this; clear hc))))) | ((with_reducible refine r_is ?_); first | refine yr ?_) | ((with_reducible refine d_is ?_); first | refine yd ?_ | (refine d_fn rfl (hJ) HbF.h zL2 zD ?_; refine d_nn zN zH ?_) | (refine d_fn rfl (hR) HbF.h zL2 zD ?_; refine d_nn zN zH ?_) | (refine d_fn rfl (hW) HbF.h zL2 zD ?_; refine d_nn zN zH ?_)) | fail)
    (refine Runs.retC Try.func18 rfl zM rfl TyF.h (And.intro zE zd) zD ?_; try exact zX)
  · rename_i h1
    have hr := hgo b (if_pos ⟨of_decide_eq_false (rz_n h1), .inl (of_decide_eq_true (rz_p hG))⟩)
    subst hr
    clear hgo hG h1
    repeat' (first | refine yw ?_ | ((with_reducible refine Runs.is ?_); first | refine Runs.region (id := 3) ?_ | refine Runs.drawn (id := 4) mixed zK ?_ | ((with_reducible refine Runs.isC ?_); refine Runs.cond rfl (zc ?_) (zc ?_) <;> intro hc <;> (try (first | contradiction | (exfalso; omega; done) | (have : hc = trivial := rfl; clear this; clear hc))))) | ((with_reducible refine r_is ?_); first | refine yr ?_) | ((with_reducible refine d_is ?_); first | refine yd ?_ | (refine d_fn rfl (hJ) HbF.h zL2 zD ?_; refine d_nn zN zH ?_) | (refine d_fn rfl (hR) HbF.h zL2 zD ?_; refine d_nn zN zH ?_) | (refine d_fn rfl (hW) HbF.h zL2 zD ?_; refine d_nn zN zH ?_)) | fail)
    (refine Runs.retC Try.func18 rfl zM rfl TyF.h (And.intro zE zd) zD ?_; try exact zX)
  · have hr := hgo a (if_neg (fun q => q.1 (of_decide_eq_true (rz_n hG))))
    subst hr
    clear hgo hG
    repeat' (first | refine yw ?_ | ((with_reducible refine Runs.is ?_); first | refine Runs.region (id := 3) ?_ | refine Runs.drawn (id := 4) mixed zK ?_ | ((with_reducible refine Runs.isC ?_); refine Runs.cond rfl (zc ?_) (zc ?_) <;> intro hc <;> (try (first | contradiction | (exfalso; omega; done) | (have : hc = trivial := rfl; clear this; clear hc))))) | ((with_reducible refine r_is ?_); first | refine yr ?_) | ((with_reducible refine d_is ?_); first | refine yd ?_ | (refine d_fn rfl (hJ) HbF.h zL2 zD ?_; refine d_nn zN zH ?_) | (refine d_fn rfl (hR) HbF.h zL2 zD ?_; refine d_nn zN zH ?_) | (refine d_fn rfl (hW) HbF.h zL2 zD ?_; refine d_nn zN zH ?_)) | fail)
    (refine Runs.retC Try.func18 rfl zM rfl TyF.h (And.intro zE zd) zD ?_; try exact zX)
end Go.Proofs
namespace Go.Proofs
open Go.AM
attribute [local irreducible] AM.evalR AM.evalD AM.Runs AM.valK AM.dK AM.opK AM.stepR AM.CallS AM.St.Le
structure Acc where
  j : List Int
  r : List Int
  m : List (Int × WeightEntry)
  rule : Rule
  ver : Int
  adm : Int
  num : Int
def wC (p : Proposal) (c : Change) : WeightEntry := ⟨c.server, c.weight, c.version, p.admin, p.number⟩
def ofStep (p : Proposal) (s : Acc) (c : Change) : Acc :=
  if c.kind = 1 then { s with j := s.j ++ [c.server], m := if (getI s.m c.server).isSome then s.m else setI s.m c.server (wC p c) }
  else if c.kind = 2 then { s with r := s.r ++ [c.server] }
  else if c.kind = 3 then { s with m := setI s.m c.server (wC p c) }
  else if c.kind = 4 then { s with rule := c.rule, ver := c.version, adm := p.admin, num := p.number }
  else s
def acc0 : Acc := ⟨[], [], [], ⟨0, 0, 0⟩, 0, 0, 0⟩
def ofAcc (p : Proposal) : Acc := p.changes.foldl (ofStep p) acc0
def weightsOf (m : List (Int × WeightEntry)) : List WeightEntry := (upto 1 12).filterMap (getI m)
def ofS (p : Proposal) : Summary := ⟨sortI (ofAcc p).j, sortI (ofAcc p).r, weightsOf (ofAcc p).m, (ofAcc p).rule, (ofAcc p).ver, (ofAcc p).adm, (ofAcc p).num⟩
def accV (s : Acc) : V := .agg [.own 41, .own 63, .own 107, .i s.rule.kind, .i s.rule.columns, .i s.rule.faulty, .i s.ver, .i s.adm, .i s.num]
theorem ofStep_len (p : Proposal) (s : Acc) (c : Change) : (ofStep p s c).j.length ≤ s.j.length + 1 ∧ (ofStep p s c).r.length ≤ s.r.length + 1 := by
  unfold ofStep
  split
  · simp
  · split
    · simp
    · split
      · simp
      · split <;> simp
theorem ofAcc_len (p : Proposal) (k : Nat) (hk : k ≤ p.changes.length) : ((p.changes.take k).foldl (ofStep p) acc0).j.length ≤ k ∧ ((p.changes.take k).foldl (ofStep p) acc0).r.length ≤ k := by
  induction k with
  | zero => simp [acc0]
  | succ k ih =>
    rw [foldl_take zo]
    have := ih zo
    have := ofStep_len p ((p.changes.take k).foldl (ofStep p) acc0) (p.changes.getD k default)
    omega
theorem shows_of {ids : List (Tmp × Nat)} {slots : List V} (h : ∀ p ∈ ids, ∃ j fo, slots.getD p.1 .any = .ptr p.2 j fo) : Shows ids slots := by
  intro a i hi
  unfold idT at hi
  cases hf : ids.find? fun p => p.1 == a with
  | none => rw [hf] at hi; cases hi
  | some q =>
    rw [hf] at hi
    have h1 := List.mem_of_find?_eq_some hf
    have h2 : (q.1 == a) = true := List.find?_some (p := fun p : Tmp × Nat => p.1 == a) hf
    simp only [Option.map_some, Option.some.injEq] at hi
    have h3 : q.1 = a := by simpa using h2
    rw [← hi, ← h3]; exact h q h1
theorem member_Of (p : Proposal) (hp : p.changes.length ≤ 1000000) : AM.Fn Try.prog 17 [prV p] (suV (ofS p)) := by
  (refine spec_of_runs Try.func17 rfl ?_; simp only [Try.f17]; refine ys ?_)
  repeat' (first | refine yw ?_ | ((with_reducible refine Runs.is ?_); first | refine Runs.region (id := 0) ?_ | refine Runs.region (id := 1) ?_ | refine Runs.region (id := 2) ?_ | refine Runs.region (id := 3) ?_ | ((with_reducible refine Runs.isC ?_); refine Runs.cond rfl (zc ?_) (zc ?_) <;> intro hc <;> (try (first | contradiction | (exfalso; omega; done) | (have : hc = trivial := rfl; clear this; clear hc))))) | ((with_reducible refine r_is ?_); first | refine yr ?_) | fail)
  refine Runs.weaken (St.Le.nilVar 41 3 0 3 1 zd rfl rfl rfl) ?_
  refine Runs.weaken (St.Le.nilVar 63 3 1 3 1 zd rfl rfl rfl) ?_
  refine Runs.weaken (St.Le.nilVar 107 3 2 72 5 zd rfl rfl rfl) ?_
  refine Runs.loopI (fun k : Nat => p.changes.length - k) (fun k => k ≤ p.changes.length)
    (fun k => ⟨[.any, .ptr 1 0 0, .ptr 2 0 0, .ptr 3 0 0, .mp 13, .any, .any, .any, .any, .any, .any, .any, .any, .any, .any, .sl false (p.changes.map chV), .i (p.changes.length : Nat), .i (k : Nat), .any, .any, .any, .any, .any, .any, .any, .any, .any, .any, .any, .any, .any, .any, .any, .any, .any, .any, .any, .any, .any, .any, .any, .any, .any, .any, .any, .any, .any, .any, .any, .any, .any, .any, .any, .any, .any, .any, .any, .any, .any, .any, .any, .any, .any, .any, .any, .any, .any, .any, .any, .any, .any, .any, .any, .any, .any, .any, .any, .any, .any, .any, .any, .any, .any, .any, .any, .any, .any, .any, .any, .any, .any, .any, .any, .any, .any, .any, .any, .any, .any, .any, .any, .any, .any, .any, .any, .any, .any, .any, .any, .any], [(107, .lst 72 5 (([] : List WeightEntry).map weV)), (63, .lst 3 1 (((p.changes.take k).foldl (ofStep p) acc0).r.map .i)), (41, .lst 3 1 (((p.changes.take k).foldl (ofStep p) acc0).j.map .i)), (13, mapO weV ((p.changes.take k).foldl (ofStep p) acc0).m), (3, .var 49 (accV ((p.changes.take k).foldl (ofStep p) acc0))), (2, .var 49 (.agg [.sc (.slice none 0 0), .sc (.slice none 0 0), .sc (.slice none 0 0), .i 0, .i 0, .i 0, .i 0, .i 0, .i 0])), (1, .var 43 (prV p))]⟩) 0 (by simp) ?_ ?_
  · (refine St.Le.clean zR zU zV)
  rintro k hk ih
  have hst := fun (h : k < p.changes.length) => foldl_take (g := ofStep p) (s := acc0) h
  have hend : p.changes.length ≤ k → (p.changes.take k).foldl (ofStep p) acc0 = ofAcc p := fun h => by rw [List.take_of_length_le h]; rfl
  have hlen := ofAcc_len p k hk
  generalize (p.changes.take k).foldl (ofStep p) acc0 = s at hst hend hlen ⊢
  obtain ⟨J, R, m, ru, ver, adm, num⟩ := s
  unfold accV
  dsimp only at hlen ⊢
  repeat' (first | refine yw ?_ | ((with_reducible refine Runs.is ?_); first | refine Runs.region (id := 4) ?_ | refine Runs.region (id := 5) ?_ | refine Runs.region (id := 6) ?_ | refine Runs.region (id := 7) ?_ | refine Runs.region (id := 8) ?_ | refine Runs.region (id := 9) ?_ | refine Runs.region (id := 10) ?_ | refine Runs.region (id := 11) ?_ | refine Runs.region (id := 12) ?_ | refine Runs.region (id := 13) ?_ | refine Runs.region (id := 14) ?_ | refine Runs.region (id := 15) ?_ | refine Runs.region (id := 16) ?_ | refine Runs.region (id := 17) ?_ | ((with_reducible refine Runs.isC ?_); refine Runs.cond rfl (zc ?_) (zc ?_) <;> intro hc <;> (try (first | contradiction | (exfalso; omega; done) | (have : hc = trivial := rfl; clear this; clear hc))))) | ((with_reducible refine r_is ?_); first | refine yr ?_ | (refine r_append_full SlF.h SlF.s ZoF.h zd rfl rfl zC zJ zS rfl (fun hn => ?_) (fun hn => ?_) <;> refine r_nn zN zH ?_)) | fail)
  · rename_i h0 h1
    refine r_mapUpd (b := wC p (p.changes.getD k default)) MpF.h rfl rfl rfl rfl zD ?_
    refine r_nn zN zH ?_
    repeat' (first | refine yw ?_ | ((with_reducible refine Runs.is ?_); first | refine Runs.region (id := 12) ?_ | ((with_reducible refine Runs.isC ?_); refine Runs.cond rfl (zc ?_) (zc ?_) <;> intro hc <;> (try (first | contradiction | (exfalso; omega; done) | (have : hc = trivial := rfl; clear this; clear hc))))) | ((with_reducible refine r_is ?_); first | refine yr ?_) | fail)
    repeat' (first | refine yw ?_ | ((with_reducible refine Runs.is ?_); first | refine Runs.region (id := 19) ?_ | ((with_reducible refine Runs.isC ?_); refine Runs.cond rfl (zc ?_) (zc ?_) <;> intro hc <;> (try (first | contradiction | (exfalso; omega; done) | (have : hc = trivial := rfl; clear this; clear hc))))) | ((with_reducible refine r_is ?_); first | refine yr ?_) | fail)
    refine ih (k + 1) _ zo zo ?_
    rw [hst h0, ofStep, if_pos h1, hc]
    (refine St.Le.clean zR zU zV)
  · rename_i h0 h1
    repeat' (first | refine yw ?_ | ((with_reducible refine Runs.is ?_); first | refine Runs.region (id := 19) ?_ | ((with_reducible refine Runs.isC ?_); refine Runs.cond rfl (zc ?_) (zc ?_) <;> intro hc <;> (try (first | contradiction | (exfalso; omega; done) | (have : hc = trivial := rfl; clear this; clear hc))))) | ((with_reducible refine r_is ?_); first | refine yr ?_) | fail)
    refine ih (k + 1) _ zo zo ?_
    rw [hst h0, ofStep, if_pos h1, hc]
    (refine St.Le.clean zR zU zV)
  · rename_i h0 h1
    repeat' (first | refine yw ?_ | ((with_reducible refine Runs.is ?_); first | refine Runs.region (id := 19) ?_ | ((with_reducible refine Runs.isC ?_); refine Runs.cond rfl (zc ?_) (zc ?_) <;> intro hc <;> (try (first | contradiction | (exfalso; omega; done) | (have : hc = trivial := rfl; clear this; clear hc))))) | ((with_reducible refine r_is ?_); first | refine yr ?_) | fail)
    refine ih (k + 1) _ zo zo ?_
    rw [hst h0, ofStep, if_neg h1, if_pos hc]
    (refine St.Le.clean zR zU zV)
  · rename_i h0 h1 h2
    refine r_mapUpd (b := wC p (p.changes.getD k default)) MpF.h rfl rfl rfl rfl zD ?_
    refine r_nn zN zH ?_
    repeat' (first | refine yw ?_ | ((with_reducible refine Runs.is ?_); first | refine Runs.region (id := 16) ?_ | ((with_reducible refine Runs.isC ?_); refine Runs.cond rfl (zc ?_) (zc ?_) <;> intro hc <;> (try (first | contradiction | (exfalso; omega; done) | (have : hc = trivial := rfl; clear this; clear hc))))) | ((with_reducible refine r_is ?_); first | refine yr ?_) | fail)
    repeat' (first | refine yw ?_ | ((with_reducible refine Runs.is ?_); first | refine Runs.region (id := 19) ?_ | ((with_reducible refine Runs.isC ?_); refine Runs.cond rfl (zc ?_) (zc ?_) <;> intro hc <;> (try (first | contradiction | (exfalso; omega; done) | (have : hc = trivial := rfl; clear this; clear hc))))) | ((with_reducible refine r_is ?_); first | refine yr ?_) | fail)
    refine ih (k + 1) _ zo zo ?_
    rw [hst h0, ofStep, if_neg h1, if_neg h2, if_pos hc]
    (refine St.Le.clean zR zU zV)
  · rename_i h0 h1 h2 h3
    refine Runs.drawnF [(73, 6), (75, 6), (77, 1), (79, 1), (81, 3), (82, 3), (83, 3), (84, 3)] mixed zK ?_
    refine yd ?_
    refine And.intro (shows_of (by intro p hp; simp only [List.mem_cons, List.not_mem_nil, or_false] at hp; rcases hp with rfl | rfl | rfl | rfl | rfl | rfl | rfl | rfl <;> exact ⟨_, _, rfl⟩)) ?_
    repeat' (first | refine yw ?_ | ((with_reducible refine Runs.is ?_); first | refine Runs.region (id := 19) ?_ | ((with_reducible refine Runs.isC ?_); refine Runs.cond rfl (zc ?_) (zc ?_) <;> intro hc <;> (try (first | contradiction | (exfalso; omega; done) | (have : hc = trivial := rfl; clear this; clear hc))))) | ((with_reducible refine r_is ?_); first | refine yr ?_) | fail)
    refine ih (k + 1) _ zo zo ?_
    rw [hst h0, ofStep, if_neg h1, if_neg h2, if_neg h3, if_pos hc]
    (refine St.Le.clean zR zU zV)
  · rename_i h0 h1 h2 h3
    repeat' (first | refine yw ?_ | ((with_reducible refine Runs.is ?_); first | refine Runs.region (id := 19) ?_ | ((with_reducible refine Runs.isC ?_); refine Runs.cond rfl (zc ?_) (zc ?_) <;> intro hc <;> (try (first | contradiction | (exfalso; omega; done) | (have : hc = trivial := rfl; clear this; clear hc))))) | ((with_reducible refine r_is ?_); first | refine yr ?_) | fail)
    refine ih (k + 1) _ zo zo ?_
    rw [hst h0, ofStep, if_neg h1, if_neg h2, if_neg h3, if_neg hc]
    (refine St.Le.clean zR zU zV)
  · have he := hend zo
    unfold ofS
    rw [← he]
    dsimp only
    clear hst hend he ih
    repeat' (first | refine yw ?_ | ((with_reducible refine Runs.is ?_); first | refine Runs.region (id := 20) ?_ | refine Runs.region (id := 21) ?_ | refine Runs.region (id := 22) ?_ | ((with_reducible refine Runs.isC ?_); refine Runs.cond rfl (zc ?_) (zc ?_) <;> intro hc <;> (try (first | contradiction | (exfalso; omega; done) | (have : hc = trivial := rfl; clear this; clear hc))))) | ((with_reducible refine r_is ?_); first | refine yr ?_ | (refine r_turn rfl (sort_turns J zo) HbF.h rfl rfl ?_; refine r_nn zN zH ?_) | (refine r_turn rfl (sort_turns R zo) HbF.h rfl rfl ?_; refine r_nn zN zH ?_)) | fail)
    refine Runs.loopI (α := Int) (fun i => (13 - i).toNat) (fun i => 1 ≤ i ∧ i ≤ 13)
      (fun i => ⟨[.any, .any, .ptr 2 0 0, .ptr 3 0 0, .mp 13, .any, .any, .any, .any, .any, .i i, .any, .any, .any, .any, .any, .any, .any, .any, .any, .any, .any, .any, .any, .any, .any, .any, .any, .any, .any, .any, .any, .any, .any, .any, .any, .any, .any, .any, .any, .any, .any, .any, .any, .any, .any, .any, .any, .any, .any, .any, .any, .any, .any, .any, .any, .any, .any, .any, .any, .any, .any, .any, .any, .any, .any, .any, .any, .any, .any, .any, .any, .any, .any, .any, .any, .any, .any, .any, .any, .any, .any, .any, .any, .any, .any, .any, .any, .any, .any, .any, .any, .any, .any, .any, .any, .any, .any, .any, .any, .any, .any, .any, .any, .any, .any, .any, .any, .any, .any], [(107, .lst 72 5 (((upto 1 (i - 1)).filterMap (getI m)).map weV)), (63, .lst 3 1 ((sortI R).map .i)), (41, .lst 3 1 ((sortI J).map .i)), (13, mapO weV m), (3, .var 49 (.agg [.own 41, .own 63, .own 107, .i ru.kind, .i ru.columns, .i ru.faulty, .i ver, .i adm, .i num])), (2, .var 49 (.agg [.sc (.slice none 0 0), .sc (.slice none 0 0), .sc (.slice none 0 0), .i 0, .i 0, .i 0, .i 0, .i 0, .i 0]))]⟩) 1 ⟨by decide, by decide⟩ ?_ ?_
    · rw [show upto 1 (1 - 1) = [] from rfl]
      (refine St.Le.clean zR zU zV)
    rintro i ⟨hi1, hi2⟩ ih
    have hl : ((upto 1 (i - 1)).filterMap (getI m)).length ≤ 12 := by
      have h1 := List.length_filterMap_le (getI m) (upto 1 (i - 1))
      rw [upto_len] at h1; omega
    have hst : (upto 1 (i + 1 - 1)).filterMap (getI m) = (upto 1 (i - 1)).filterMap (getI m) ++ (getI m i).toList := by
      rw [show i + 1 - 1 = i by omega, upto_snoc hi1, List.filterMap_append]
      congr 1
    have hend : ¬ i ≤ 12 → (upto 1 (i - 1)).filterMap (getI m) = weightsOf m := fun h => by rw [show i - 1 = 12 by omega]; rfl
    generalize (upto 1 (i - 1)).filterMap (getI m) = ws at hl hst hend ⊢
    repeat' (first | refine yw ?_ | ((with_reducible refine Runs.is ?_); first | refine Runs.region (id := 23) ?_ | refine Runs.region (id := 25) ?_ | refine Runs.region (id := 26) ?_ | refine Runs.region (id := 27) ?_ | refine Runs.region (id := 24) ?_ | ((with_reducible refine Runs.isC ?_); refine Runs.cond rfl (zc ?_) (zc ?_) <;> intro hc <;> (try (first | contradiction | (exfalso; omega; done) | (have : hc = trivial := rfl; clear this; clear hc))))) | ((with_reducible refine r_is ?_); first | refine yr ?_ | (refine r_append_full SlF.h SlF.s ZoF.h zd rfl rfl zC zJ zS rfl (fun hn => ?_) (fun hn => ?_) <;> refine r_nn zN zH ?_)) | fail)
    · obtain ⟨w, hw⟩ := Option.isSome_iff_exists.1 hc
      rw [hw] at hst
      simp only [hw, Option.getD_some]
      refine ih (i + 1) _ ⟨by omega, by omega⟩ zo ?_
      rw [hst]
      (refine St.Le.clean zR zU zV)
    · have hw : getI m i = none := by cases h : getI m i <;> simp_all
      rw [hw] at hst
      refine ih (i + 1) _ ⟨by omega, by omega⟩ zo ?_
      rw [hst, show ws ++ (none : Option WeightEntry).toList = ws by simp]
      (refine St.Le.clean zR zU zV)
    · have hw := hend zo
      subst hw
      repeat' (first | refine yw ?_ | ((with_reducible refine Runs.is ?_); first | refine Runs.region (id := 28) ?_ | ((with_reducible refine Runs.isC ?_); refine Runs.cond rfl (zc ?_) (zc ?_) <;> intro hc <;> (try (first | contradiction | (exfalso; omega; done) | (have : hc = trivial := rfl; clear this; clear hc))))) | ((with_reducible refine r_is ?_); first | refine yr ?_) | fail)
      (refine Runs.weaken (St.Le.freeze_lst 41 rfl) ?_; refine yf ?_)
      (refine Runs.weaken (St.Le.freeze_lst 63 rfl) ?_; refine yf ?_)
      (refine Runs.weaken (St.Le.freeze_lst 107 rfl) ?_; refine yf ?_)
      (refine Runs.retC Try.func17 rfl zM rfl TyF.h (And.intro zE zd) zD ?_; try exact zX)
end Go.Proofs
namespace Go.Proofs
open Go.AM
attribute [local irreducible] AM.evalR AM.evalD AM.Runs AM.valK AM.dK AM.opK AM.stepR AM.CallS AM.St.Le
def wOf (m : Member) : WeightEntry := ⟨m.server, m.weight, 0, 0, 0⟩
def initS (g : View) : Summary := ⟨g.members.map (·.server), [], g.members.map wOf, g.rule, 0, 0, 0⟩
theorem member_Initial (g : View) (hg : g.members.length ≤ 1000000) : AM.Fn Try.prog 16 [viV g] (suV (initS g)) := by
  obtain ⟨ms, r⟩ := g
  dsimp only at hg
  (refine spec_of_runs Try.func16 rfl ?_; simp only [Try.f16]; refine ys ?_)
  repeat' (first | refine yw ?_ | ((with_reducible refine Runs.is ?_); first | refine Runs.region (id := 0) ?_ | refine Runs.region (id := 1) ?_ | refine Runs.region (id := 2) ?_ | ((with_reducible refine Runs.isC ?_); refine Runs.cond rfl (zc ?_) (zc ?_) <;> intro hc <;> (try (first | contradiction | (exfalso; omega; done) | (have : hc = trivial := rfl; clear this; clear hc))))) | ((with_reducible refine r_is ?_); first | refine yr ?_) | fail)
  refine Runs.weaken (St.Le.nilVar 21 3 0 3 1 zd rfl rfl rfl) ?_
  refine Runs.weaken (St.Le.nilVar 31 3 2 72 5 zd rfl rfl rfl) ?_
  refine Runs.loopI (fun k : Nat => ms.length - k) (fun k => k ≤ ms.length)
    (fun k => ⟨[.any, .any, .ptr 2 0 0, .ptr 3 0 0, .any, .any, .any, .any, .any, .any, .sl false (ms.map mbV), .i (ms.length : Nat), .i (k : Nat), .any, .any, .any, .any, .any, .any, .any, .any, .any, .any, .any, .any, .any, .any, .any, .any, .any, .any, .any, .any, .any, .any], [(31, .lst 72 5 (((ms.take k).map wOf).map weV)), (21, .lst 3 1 (((ms.take k).map (·.server)).map .i)), (3, .var 49 (.agg [.own 21, .sc (.slice none 0 0), .own 31, .i r.kind, .i r.columns, .i r.faulty, .i 0, .i 0, .i 0])), (2, .var 49 (.agg [.sc (.slice none 0 0), .sc (.slice none 0 0), .sc (.slice none 0 0), .i 0, .i 0, .i 0, .i 0, .i 0, .i 0]))]⟩) 0 (by simp) ?_ ?_
  · (refine St.Le.clean zR zU zV)
  rintro k hk ih
  have hst := fun (h : k < ms.length) => take_getD (xs := ms) h
  have hl1 : ((ms.take k).map wOf).length ≤ 1000000 := by simp; omega
  have hl2 : ((ms.take k).map (·.server)).length ≤ 1000000 := by simp; omega
  by_cases hlt : k < ms.length
  · have hst2 := hst hlt
    repeat' (first | refine yw ?_ | ((with_reducible refine Runs.is ?_); first | refine Runs.region (id := 3) ?_ | refine Runs.region (id := 4) ?_ | refine Runs.region (id := 5) ?_ | refine Runs.region (id := 6) ?_ | refine Runs.region (id := 7) ?_ | ((with_reducible refine Runs.isC ?_); refine Runs.cond rfl (zc ?_) (zc ?_) <;> intro hc <;> (try (first | contradiction | (exfalso; omega; done) | (have : hc = trivial := rfl; clear this; clear hc))))) | ((with_reducible refine r_is ?_); first | refine yr ?_ | (refine r_append_full SlF.h SlF.s ZoF.h zd rfl rfl zC zJ zS rfl (fun hn => ?_) (fun hn => ?_) <;> refine r_nn zN zH ?_)) | fail)
    refine ih (k + 1) _ zo zo ?_
    rw [hst2]
    (refine St.Le.clean zR (by first | (simp [V.usesL, V.uses, AM.look_cons]; done) | (simp [V.usesL, V.uses, AM.look_cons, V.usesL_data, V.uses_data, da_i, da_chV, da_ruV, da_prV, da_enV, da_cfV, da_veV, da_inV, da_edV, da_grV, da_weV, da_mbV, da_suV, da_viV]; done)) ?_; (repeat' (first | exact True.intro | refine And.intro ?_ ?_)); all_goals (first | rfl | (simp [AM.look_cons, weV, wOf]; done) | (simp [V.uses, V.usesL, AM.look_cons, V.usesL_data, V.uses_data, da_i, da_chV, da_ruV, da_prV, da_enV, da_cfV, da_veV, da_inV, da_edV, da_grV, da_weV, da_mbV, da_suV, da_viV]; done)))
  · have hk2 : k = ms.length := by omega
    subst hk2
    rw [List.take_length] at hl1 hl2 ⊢
    repeat' (first | refine yw ?_ | ((with_reducible refine Runs.is ?_); first | refine Runs.region (id := 3) ?_ | ((with_reducible refine Runs.isC ?_); refine Runs.cond rfl (zc ?_) (zc ?_) <;> intro hc <;> (try (first | contradiction | (exfalso; omega; done) | (have : hc = trivial := rfl; clear this; clear hc))))) | ((with_reducible refine r_is ?_); first | refine yr ?_) | fail)
    repeat' (first | refine yw ?_ | ((with_reducible refine Runs.is ?_); first | refine Runs.region (id := 8) ?_ | ((with_reducible refine Runs.isC ?_); refine Runs.cond rfl (zc ?_) (zc ?_) <;> intro hc <;> (try (first | contradiction | (exfalso; omega; done) | (have : hc = trivial := rfl; clear this; clear hc))))) | ((with_reducible refine r_is ?_); first | refine yr ?_) | fail)
    (refine Runs.weaken (St.Le.freeze_lst 21 rfl) ?_; refine yf ?_)
    (refine Runs.weaken (St.Le.freeze_lst 31 rfl) ?_; refine yf ?_)
    (refine Runs.retC Try.func16 rfl zM rfl TyF.h (And.intro zE zd) zD ?_; try exact zX)
def weightIn (ws : List WeightEntry) (x : Int) (n : Int) : Int := ws.foldl (fun n w => if w.server = x then w.weight else n) n
def viewMs (s : Summary) : List Member := (s.joined.filter fun x => !s.removed.contains x).map fun x => ⟨x, weightIn s.weights x 1⟩
def viewRule (r : Rule) : Rule := if r = ⟨0, 0, 0⟩ then ⟨1, 0, 0⟩ else r
def viewS (s : Summary) : View := ⟨viewMs s, viewRule s.rule⟩
end Go.Proofs
namespace Go.Proofs
open Go.AM
attribute [local irreducible] AM.evalR AM.evalD AM.Runs AM.valK AM.dK AM.opK AM.stepR AM.CallS AM.St.Le
def vAcc (R : List Int) (W : List WeightEntry) (l : List Int) : List Member := (l.filter fun x => !R.contains x).map fun x => ⟨x, weightIn W x 1⟩
theorem vAcc_snoc (R : List Int) (W : List WeightEntry) (l : List Int) (x : Int) : vAcc R W (l ++ [x]) = vAcc R W l ++ (if R.contains x = true then [] else [⟨x, weightIn W x 1⟩]) := by
  unfold vAcc
  rw [List.filter_append, List.map_append]
  congr 1
  by_cases h : x ∈ R <;> simp [h]
theorem vAcc_len (R : List Int) (W : List WeightEntry) (l : List Int) : (vAcc R W l).length ≤ l.length := by
  unfold vAcc; rw [List.length_map]; exact List.length_filter_le _ _
theorem member_View (s : Summary) (hs : s.joined.length ≤ 1000000) (hw0 : s.weights.length ≤ 1000000) : AM.Fn Try.prog 12 [suV s] (viV (viewS s)) := by
  obtain ⟨J, R, W, ru, ver, adm, num⟩ := s
  dsimp only at hs hw0
  (refine spec_of_runs Try.func12 rfl ?_; simp only [Try.f12]; refine ys ?_)
  repeat' (first | refine yw ?_ | ((with_reducible refine Runs.is ?_); first | refine Runs.region (id := 0) ?_ | refine Runs.region (id := 1) ?_ | refine Runs.region (id := 2) ?_ | refine Runs.region (id := 3) ?_ | refine Runs.region (id := 4) ?_ | ((with_reducible refine Runs.isC ?_); refine Runs.cond rfl (zc ?_) (zc ?_) <;> intro hc <;> (try (first | contradiction | (exfalso; omega; done) | (have : hc = trivial := rfl; clear this; clear hc))))) | ((with_reducible refine r_is ?_); first | refine yr ?_) | fail)
  · have hr : ru = ⟨0, 0, 0⟩ := hc
    clear hc
    subst hr
    rw [show viewS ⟨J, R, W, ⟨0, 0, 0⟩, ver, adm, num⟩ = ⟨vAcc R W J, ⟨1, 0, 0⟩⟩ from rfl]
    refine Runs.weaken (St.Le.nilVar 50 3 0 38 2 zd rfl rfl rfl) ?_
    refine Runs.loopI (fun k : Nat => J.length - k) (fun k => k ≤ J.length)
      (fun k => ⟨[.any, .ptr 1 0 0, .ptr 2 0 0, .ptr 3 0 0, .any, .any, .any, .any, .any, .any, .any, .any, .any, .any, .any, .any, .any, .any, .any, .sl false (J.map .i), .i (J.length : Nat), .i (k : Nat), .any, .any, .any, .any, .any, .any, .any, .any, .any, .any, .any, .any, .any, .any, .any, .any, .any, .any, .any, .any, .any, .any, .any, .any, .any, .any, .any, .any, .any, .any, .any, .any], [(50, .lst 38 2 ((vAcc R W (J.take k)).map mbV)), (3, .var 33 (.agg [.own 50, .i (⟨1, 0, 0⟩ : Rule).kind, .i (⟨1, 0, 0⟩ : Rule).columns, .i (⟨1, 0, 0⟩ : Rule).faulty])), (2, .var 33 (.agg [.sc (.slice none 0 0), .i 0, .i 0, .i 0])), (1, .var 49 (suV ⟨J, R, W, ⟨0, 0, 0⟩, ver, adm, num⟩))]⟩) 0 (by simp) ?_ ?_
    · (refine St.Le.clean zR zU zV)
    rintro k hk ih
    have hst := fun (h : k < J.length) => vAcc_snoc R W (J.take k) (J.getD k default)
    have htk := fun (h : k < J.length) => take_getD (xs := J) h
    have hend : J.length ≤ k → vAcc R W (J.take k) = vAcc R W J := fun h => by rw [List.take_of_length_le h]
    have hl : (vAcc R W (J.take k)).length ≤ 1000000 := by
      have := vAcc_len R W (J.take k)
      rw [List.length_take] at this; omega
    generalize vAcc R W (J.take k) = acc at hst hend hl ⊢
    repeat' (first | refine yw ?_ | ((with_reducible refine Runs.is ?_); first | refine Runs.region (id := 5) ?_ | refine Runs.region (id := 6) ?_ | refine Runs.region (id := 7) ?_ | refine Runs.region (id := 8) ?_ | refine Runs.region (id := 9) ?_ | ((with_reducible refine Runs.isC ?_); refine Runs.cond rfl (zc ?_) (zc ?_) <;> intro hc <;> (try (first | contradiction | (exfalso; omega; done) | (have : hc = trivial := rfl; clear this; clear hc))))) | ((with_reducible refine r_is ?_); first | refine yr ?_ | (refine r_fn rfl (contains_ints false _ _) HbF.h zL2 zD ?_; refine r_nn zN zH ?_)) | fail)
    · rename_i h0
      repeat' (first | refine yw ?_ | ((with_reducible refine Runs.is ?_); first | refine Runs.region (id := 16) ?_ | ((with_reducible refine Runs.isC ?_); refine Runs.cond rfl (zc ?_) (zc ?_) <;> intro hc <;> (try (first | contradiction | (exfalso; omega; done) | (have : hc = trivial := rfl; clear this; clear hc))))) | ((with_reducible refine r_is ?_); first | refine yr ?_) | fail)
      refine ih (k + 1) _ zo zo ?_
      rw [htk h0, hst h0, if_pos hc, List.append_nil]
      (refine St.Le.clean zR zU zV)
    · rename_i h0
      have hst2 := hst h0
      have htk2 := htk h0
      rw [if_neg (by rw [hc]; decide)] at hst2
      generalize J.getD k default = x at hst2 htk2 ⊢
      clear hst htk
      refine Runs.loopI (fun j : Nat => W.length - j) (fun j => j ≤ W.length)
        (fun j => ⟨[.any, .ptr 1 0 0, .ptr 2 0 0, .ptr 3 0 0, .any, .i x, .ptr 6 0 0, .any, .any, .any, .any, .any, .any, .any, .any, .any, .any, .any, .any, .sl false (J.map .i), .i (J.length : Nat), .i (k : Nat), .any, .any, .any, .any, .any, .any, .any, .any, .any, .any, .sl false (W.map weV), .i (W.length : Nat), .i (j : Nat), .any, .any, .any, .any, .any, .any, .any, .any, .any, .any, .any, .any, .any, .any, .any, .any, .any, .any, .any], [(6, .var 38 (mbV ⟨x, weightIn (W.take j) x 1⟩)), (50, .lst 38 2 (acc.map mbV)), (3, .var 33 (.agg [.own 50, .i (⟨1, 0, 0⟩ : Rule).kind, .i (⟨1, 0, 0⟩ : Rule).columns, .i (⟨1, 0, 0⟩ : Rule).faulty])), (2, .var 33 (.agg [.sc (.slice none 0 0), .i 0, .i 0, .i 0])), (1, .var 49 (suV ⟨J, R, W, ⟨0, 0, 0⟩, ver, adm, num⟩))]⟩) 0 (by simp) ?_ ?_
      · (refine St.Le.clean zR zU zV)
      rintro j hj ihj
      have hw := fun (h : j < W.length) => foldl_take (g := fun n (w : WeightEntry) => if w.server = x then w.weight else n) (s := (1 : Int)) h
      have hwe : W.length ≤ j → weightIn (W.take j) x 1 = weightIn W x 1 := fun h => by rw [List.take_of_length_le h]
      change j < W.length → weightIn (W.take (j + 1)) x 1 = (fun n (w : WeightEntry) => if w.server = x then w.weight else n) (weightIn (W.take j) x 1) (W.getD j default) at hw
      dsimp only at hw
      generalize weightIn (W.take j) x 1 = n at hw hwe ⊢
      repeat' (first | refine yw ?_ | ((with_reducible refine Runs.is ?_); first | refine Runs.region (id := 10) ?_ | refine Runs.region (id := 11) ?_ | refine Runs.region (id := 12) ?_ | refine Runs.region (id := 13) ?_ | ((with_reducible refine Runs.isC ?_); refine Runs.cond rfl (zc ?_) (zc ?_) <;> intro hc <;> (try (first | contradiction | (exfalso; omega; done) | (have : hc = trivial := rfl; clear this; clear hc))))) | ((with_reducible refine r_is ?_); first | refine yr ?_) | fail)
      · rename_i h1
        repeat' (first | refine yw ?_ | ((with_reducible refine Runs.is ?_); first | refine Runs.region (id := 14) ?_ | ((with_reducible refine Runs.isC ?_); refine Runs.cond rfl (zc ?_) (zc ?_) <;> intro hc <;> (try (first | contradiction | (exfalso; omega; done) | (have : hc = trivial := rfl; clear this; clear hc))))) | ((with_reducible refine r_is ?_); first | refine yr ?_) | fail)
        refine ihj (j + 1) _ zo zo ?_
        rw [hw h1, if_pos hc]
        (refine St.Le.clean zR zU zV)
      · rename_i h1
        repeat' (first | refine yw ?_ | ((with_reducible refine Runs.is ?_); first | refine Runs.region (id := 14) ?_ | ((with_reducible refine Runs.isC ?_); refine Runs.cond rfl (zc ?_) (zc ?_) <;> intro hc <;> (try (first | contradiction | (exfalso; omega; done) | (have : hc = trivial := rfl; clear this; clear hc))))) | ((with_reducible refine r_is ?_); first | refine yr ?_) | fail)
        refine ihj (j + 1) _ zo zo ?_
        rw [hw h1, if_neg hc]
        (refine St.Le.clean zR zU zV)
      · have := hwe zo
        subst this
        repeat' (first | refine yw ?_ | ((with_reducible refine Runs.is ?_); first | refine Runs.region (id := 15) ?_ | refine Runs.region (id := 16) ?_ | ((with_reducible refine Runs.isC ?_); refine Runs.cond rfl (zc ?_) (zc ?_) <;> intro hc <;> (try (first | contradiction | (exfalso; omega; done) | (have : hc = trivial := rfl; clear this; clear hc))))) | ((with_reducible refine r_is ?_); first | refine yr ?_ | (refine r_append_full SlF.h SlF.s ZoF.h zd rfl rfl zC zJ zS rfl (fun hn => ?_) (fun hn => ?_) <;> refine r_nn zN zH ?_)) | fail)
        refine ih (k + 1) _ zo zo ?_
        rw [htk2, hst2]
        (refine St.Le.clean zR zU zV)
    · have he := hend zo
      subst he
      repeat' (first | refine yw ?_ | ((with_reducible refine Runs.is ?_); first | refine Runs.region (id := 17) ?_ | ((with_reducible refine Runs.isC ?_); refine Runs.cond rfl (zc ?_) (zc ?_) <;> intro hc <;> (try (first | contradiction | (exfalso; omega; done) | (have : hc = trivial := rfl; clear this; clear hc))))) | ((with_reducible refine r_is ?_); first | refine yr ?_) | fail)
      (refine Runs.weaken (St.Le.freeze_lst 50 rfl) ?_; refine yf ?_)
      (refine Runs.retC Try.func12 rfl zM rfl TyF.h (And.intro zE zd) zD ?_; try exact zX)
  · have hr : ¬ ru = ⟨0, 0, 0⟩ := hc
    clear hc
    rw [show viewS ⟨J, R, W, ru, ver, adm, num⟩ = ⟨vAcc R W J, ru⟩ from by unfold viewS viewRule; rw [if_neg hr]; rfl]
    refine Runs.weaken (St.Le.nilVar 50 3 0 38 2 zd rfl rfl rfl) ?_
    refine Runs.loopI (fun k : Nat => J.length - k) (fun k => k ≤ J.length)
      (fun k => ⟨[.any, .ptr 1 0 0, .ptr 2 0 0, .ptr 3 0 0, .any, .any, .any, .any, .any, .any, .any, .any, .any, .any, .any, .any, .any, .any, .any, .sl false (J.map .i), .i (J.length : Nat), .i (k : Nat), .any, .any, .any, .any, .any, .any, .any, .any, .any, .any, .any, .any, .any, .any, .any, .any, .any, .any, .any, .any, .any, .any, .any, .any, .any, .any, .any, .any, .any, .any, .any, .any], [(50, .lst 38 2 ((vAcc R W (J.take k)).map mbV)), (3, .var 33 (.agg [.own 50, .i (ru : Rule).kind, .i (ru : Rule).columns, .i (ru : Rule).faulty])), (2, .var 33 (.agg [.sc (.slice none 0 0), .i 0, .i 0, .i 0])), (1, .var 49 (suV ⟨J, R, W, ru, ver, adm, num⟩))]⟩) 0 (by simp) ?_ ?_
    · (refine St.Le.clean zR zU zV)
    rintro k hk ih
    have hst := fun (h : k < J.length) => vAcc_snoc R W (J.take k) (J.getD k default)
    have htk := fun (h : k < J.length) => take_getD (xs := J) h
    have hend : J.length ≤ k → vAcc R W (J.take k) = vAcc R W J := fun h => by rw [List.take_of_length_le h]
    have hl : (vAcc R W (J.take k)).length ≤ 1000000 := by
      have := vAcc_len R W (J.take k)
      rw [List.length_take] at this; omega
    generalize vAcc R W (J.take k) = acc at hst hend hl ⊢
    repeat' (first | refine yw ?_ | ((with_reducible refine Runs.is ?_); first | refine Runs.region (id := 5) ?_ | refine Runs.region (id := 6) ?_ | refine Runs.region (id := 7) ?_ | refine Runs.region (id := 8) ?_ | refine Runs.region (id := 9) ?_ | ((with_reducible refine Runs.isC ?_); refine Runs.cond rfl (zc ?_) (zc ?_) <;> intro hc <;> (try (first | contradiction | (exfalso; omega; done) | (have : hc = trivial := rfl; clear this; clear hc))))) | ((with_reducible refine r_is ?_); first | refine yr ?_ | (refine r_fn rfl (contains_ints false _ _) HbF.h zL2 zD ?_; refine r_nn zN zH ?_)) | fail)
    · rename_i h0
      repeat' (first | refine yw ?_ | ((with_reducible refine Runs.is ?_); first | refine Runs.region (id := 16) ?_ | ((with_reducible refine Runs.isC ?_); refine Runs.cond rfl (zc ?_) (zc ?_) <;> intro hc <;> (try (first | contradiction | (exfalso; omega; done) | (have : hc = trivial := rfl; clear this; clear hc))))) | ((with_reducible refine r_is ?_); first | refine yr ?_) | fail)
      refine ih (k + 1) _ zo zo ?_
      rw [htk h0, hst h0, if_pos hc, List.append_nil]
      (refine St.Le.clean zR zU zV)
    · rename_i h0
      have hst2 := hst h0
      have htk2 := htk h0
      rw [if_neg (by rw [hc]; decide)] at hst2
      generalize J.getD k default = x at hst2 htk2 ⊢
      clear hst htk
      refine Runs.loopI (fun j : Nat => W.length - j) (fun j => j ≤ W.length)
        (fun j => ⟨[.any, .ptr 1 0 0, .ptr 2 0 0, .ptr 3 0 0, .any, .i x, .ptr 6 0 0, .any, .any, .any, .any, .any, .any, .any, .any, .any, .any, .any, .any, .sl false (J.map .i), .i (J.length : Nat), .i (k : Nat), .any, .any, .any, .any, .any, .any, .any, .any, .any, .any, .sl false (W.map weV), .i (W.length : Nat), .i (j : Nat), .any, .any, .any, .any, .any, .any, .any, .any, .any, .any, .any, .any, .any, .any, .any, .any, .any, .any, .any], [(6, .var 38 (mbV ⟨x, weightIn (W.take j) x 1⟩)), (50, .lst 38 2 (acc.map mbV)), (3, .var 33 (.agg [.own 50, .i (ru : Rule).kind, .i (ru : Rule).columns, .i (ru : Rule).faulty])), (2, .var 33 (.agg [.sc (.slice none 0 0), .i 0, .i 0, .i 0])), (1, .var 49 (suV ⟨J, R, W, ru, ver, adm, num⟩))]⟩) 0 (by simp) ?_ ?_
      · (refine St.Le.clean zR zU zV)
      rintro j hj ihj
      have hw := fun (h : j < W.length) => foldl_take (g := fun n (w : WeightEntry) => if w.server = x then w.weight else n) (s := (1 : Int)) h
      have hwe : W.length ≤ j → weightIn (W.take j) x 1 = weightIn W x 1 := fun h => by rw [List.take_of_length_le h]
      change j < W.length → weightIn (W.take (j + 1)) x 1 = (fun n (w : WeightEntry) => if w.server = x then w.weight else n) (weightIn (W.take j) x 1) (W.getD j default) at hw
      dsimp only at hw
      generalize weightIn (W.take j) x 1 = n at hw hwe ⊢
      repeat' (first | refine yw ?_ | ((with_reducible refine Runs.is ?_); first | refine Runs.region (id := 10) ?_ | refine Runs.region (id := 11) ?_ | refine Runs.region (id := 12) ?_ | refine Runs.region (id := 13) ?_ | ((with_reducible refine Runs.isC ?_); refine Runs.cond rfl (zc ?_) (zc ?_) <;> intro hc <;> (try (first | contradiction | (exfalso; omega; done) | (have : hc = trivial := rfl; clear this; clear hc))))) | ((with_reducible refine r_is ?_); first | refine yr ?_) | fail)
      · rename_i h1
        repeat' (first | refine yw ?_ | ((with_reducible refine Runs.is ?_); first | refine Runs.region (id := 14) ?_ | ((with_reducible refine Runs.isC ?_); refine Runs.cond rfl (zc ?_) (zc ?_) <;> intro hc <;> (try (first | contradiction | (exfalso; omega; done) | (have : hc = trivial := rfl; clear this; clear hc))))) | ((with_reducible refine r_is ?_); first | refine yr ?_) | fail)
        refine ihj (j + 1) _ zo zo ?_
        rw [hw h1, if_pos hc]
        (refine St.Le.clean zR zU zV)
      · rename_i h1
        repeat' (first | refine yw ?_ | ((with_reducible refine Runs.is ?_); first | refine Runs.region (id := 14) ?_ | ((with_reducible refine Runs.isC ?_); refine Runs.cond rfl (zc ?_) (zc ?_) <;> intro hc <;> (try (first | contradiction | (exfalso; omega; done) | (have : hc = trivial := rfl; clear this; clear hc))))) | ((with_reducible refine r_is ?_); first | refine yr ?_) | fail)
        refine ihj (j + 1) _ zo zo ?_
        rw [hw h1, if_neg hc]
        (refine St.Le.clean zR zU zV)
      · have := hwe zo
        subst this
        repeat' (first | refine yw ?_ | ((with_reducible refine Runs.is ?_); first | refine Runs.region (id := 15) ?_ | refine Runs.region (id := 16) ?_ | ((with_reducible refine Runs.isC ?_); refine Runs.cond rfl (zc ?_) (zc ?_) <;> intro hc <;> (try (first | contradiction | (exfalso; omega; done) | (have : hc = trivial := rfl; clear this; clear hc))))) | ((with_reducible refine r_is ?_); first | refine yr ?_ | (refine r_append_full SlF.h SlF.s ZoF.h zd rfl rfl zC zJ zS rfl (fun hn => ?_) (fun hn => ?_) <;> refine r_nn zN zH ?_)) | fail)
        refine ih (k + 1) _ zo zo ?_
        rw [htk2, hst2]
        (refine St.Le.clean zR zU zV)
    · have he := hend zo
      subst he
      repeat' (first | refine yw ?_ | ((with_reducible refine Runs.is ?_); first | refine Runs.region (id := 17) ?_ | ((with_reducible refine Runs.isC ?_); refine Runs.cond rfl (zc ?_) (zc ?_) <;> intro hc <;> (try (first | contradiction | (exfalso; omega; done) | (have : hc = trivial := rfl; clear this; clear hc))))) | ((with_reducible refine r_is ?_); first | refine yr ?_) | fail)
      (refine Runs.weaken (St.Le.freeze_lst 50 rfl) ?_; refine yf ?_)
      (refine Runs.retC Try.func12 rfl zM rfl TyF.h (And.intro zE zd) zD ?_; try exact zX)
end Go.Proofs
namespace Go.Proofs
open Go.AM
attribute [local irreducible] AM.evalR AM.evalD AM.Runs AM.valK AM.dK AM.opK AM.stepR AM.CallS AM.St.Le
def sumStep (s : Summary) (p : Proposal) : Summary := joinS s (ofS p)
def sumS (g : View) (c : Config) : Summary := c.foldl sumStep (initS g)
def Plain (p : Proposal) : Prop := p.changes.length ≤ 1000 ∧ True
def Short (s : Summary) (n : Nat) : Prop := s.joined.length ≤ n ∧ s.removed.length ≤ n ∧ s.weights.length ≤ n
theorem ofS_short {p : Proposal} (h : p.changes.length ≤ 1000) : Short (ofS p) 1000 := by
  have h1 := ofAcc_len p p.changes.length (Nat.le_refl _)
  rw [List.take_of_length_le (Nat.le_refl _)] at h1
  have h2 : (weightsOf (ofAcc p).m).length ≤ 12 := by
    have := List.length_filterMap_le (getI (ofAcc p).m) (upto 1 12)
    rw [upto_len] at this; exact this
  refine ⟨?_, ?_, ?_⟩
  · show (sortI (ofAcc p).j).length ≤ _
    rw [sortI_length]; exact Nat.le_trans h1.1 h
  · show (sortI (ofAcc p).r).length ≤ _
    rw [sortI_length]; exact Nat.le_trans h1.2 h
  · show (weightsOf (ofAcc p).m).length ≤ _
    omega
theorem joinS_short {a b : Summary} {m n : Nat} (ha : Short a m) (hb : Short b n) : Short (joinS a b) (m + n) := by
  have h1 := unionI_len a.joined b.joined
  have h2 := unionI_len a.removed b.removed
  have h3 := weightsI_len a.weights b.weights
  obtain ⟨a1, a2, a3⟩ := ha
  obtain ⟨b1, b2, b3⟩ := hb
  exact ⟨Nat.le_trans h1 zo, Nat.le_trans h2 zo, Nat.le_trans h3 zo⟩
theorem initS_short {g : View} (h : g.members.length ≤ 1000) : Short (initS g) 1000 := by
  refine ⟨?_, ?_, ?_⟩ <;> simp [initS] <;> omega
theorem sumS_short {g : View} (hg : g.members.length ≤ 1000) : ∀ (c : Config), (∀ p ∈ c, p.changes.length ≤ 1000) → Short (sumS g c) (1000 + 1000 * c.length) := by
  intro c
  have gen : ∀ (c : Config) (s : Summary) (n : Nat), Short s n → (∀ p ∈ c, p.changes.length ≤ 1000) → Short (c.foldl sumStep s) (n + 1000 * c.length) := by
    intro c
    induction c with
    | nil => intro s n hs _; simpa using hs
    | cons p c ih =>
      intro s n hs hc
      have h1 := joinS_short hs (ofS_short (hc p (by simp)))
      have h2 := ih (sumStep s p) (n + 1000) h1 (fun q hq => hc q (by simp [hq]))
      rw [List.foldl_cons, List.length_cons]
      rw [show n + 1000 * (c.length + 1) = n + 1000 + 1000 * c.length by omega]; exact h2
  exact gen c (initS g) 1000 (initS_short hg)
theorem member_Summarize (f : Bool) (g : View) (c : Config) (hg : g.members.length ≤ 1000) (hc : c.length ≤ 100) (hp : ∀ p ∈ c, Plain p) : AM.Fn Try.prog 11 [viV g, .sl f (c.map prV)] (suV (sumS g c)) := by
  (refine spec_of_runs Try.func11 rfl ?_; simp only [Try.f11]; refine ys ?_)
  repeat' (first | refine yw ?_ | ((with_reducible refine Runs.is ?_); first | refine Runs.region (id := 0) ?_ | refine Runs.region (id := 1) ?_ | refine Runs.region (id := 2) ?_ | ((with_reducible refine Runs.isC ?_); refine Runs.cond rfl (zc ?_) (zc ?_) <;> intro hc <;> (try (first | contradiction | (exfalso; omega; done) | (have : hc = trivial := rfl; clear this; clear hc))))) | ((with_reducible refine r_is ?_); first | refine yr ?_ | (refine r_fn rfl (member_Initial g zo) HbF.h zL1 zD ?_; refine r_nn zN zH ?_)) | fail)
  refine Runs.loopI (fun k : Nat => c.length - k) (fun k => k ≤ c.length)
    (fun k => ⟨[.any, .any, .any, .any, .ptr 4 0 0, .ptr 5 0 0, .any, .any, .any, .any, .sl f (c.map prV), .i (c.length : Nat), .i (k : Nat), .any, .any, .any, .any, .any, .any, .any, .any, .any], [(5, .var 49 (suV (sumS g (c.take k)))), (4, .var 49 (.agg [.sc (.slice none 0 0), .sc (.slice none 0 0), .sc (.slice none 0 0), .i 0, .i 0, .i 0, .i 0, .i 0, .i 0]))]⟩) 0 (by simp) ?_ ?_
  · (refine St.Le.clean zR zU zV)
  rintro k hk ih
  have hst := fun (h : k < c.length) => foldl_take (g := sumStep) (s := initS g) h
  have hend : c.length ≤ k → sumS g (c.take k) = sumS g c := fun h => by rw [List.take_of_length_le h]
  have hsh := sumS_short hg (c.take k) (fun p q => (hp p (List.mem_of_mem_take q)).1)
  rw [List.length_take] at hsh
  have hpl : k < c.length → Plain (c.getD k default) := fun h => hp _ (by rw [List.getD_eq_getElem?_getD, List.getElem?_eq_getElem h]; exact List.getElem_mem h)
  change k < c.length → sumS g (c.take (k + 1)) = sumStep (sumS g (c.take k)) (c.getD k default) at hst
  generalize sumS g (c.take k) = s at hst hend hsh ⊢
  by_cases hlt : k < c.length
  · have hst2 : sumS g (c.take (k + 1)) = joinS s (ofS (c.getD k default)) := hst hlt
    have hp2 := hpl hlt
    have ho := ofS_short hp2.1
    obtain ⟨s1, s2, s3⟩ := hsh
    obtain ⟨o1, o2, o3⟩ := ho
    have hOf := member_Of (c.getD k default) (Nat.le_trans hp2.1 zd)
    have hJn := member_Join s (ofS (c.getD k default)) (member_union_all false false _ _ zo) (member_union_all false false _ _ zo) (member_weights_all false false _ _ zo)
    generalize ofS (c.getD k default) = q at hOf hJn hst2
    repeat' (first | refine yw ?_ | ((with_reducible refine Runs.is ?_); first | refine Runs.region (id := 3) ?_ | refine Runs.region (id := 4) ?_ | refine Runs.drawn (id := 5) mixed zK ?_ | refine Runs.region (id := 6) ?_ | ((with_reducible refine Runs.isC ?_); refine Runs.cond rfl (zc ?_) (zc ?_) <;> intro hc <;> (try (first | contradiction | (exfalso; omega; done) | (have : hc = trivial := rfl; clear this; clear hc))))) | ((with_reducible refine r_is ?_); first | refine yr ?_) | ((with_reducible refine d_is ?_); first | refine yd ?_ | (refine d_fn rfl (hOf) HbF.h zL1 zD ?_; refine d_nn zN zH ?_) | (refine d_fn rfl (hJn) HbF.h zL2 zD ?_; refine d_nn zN zH ?_)) | fail)
    refine ih (k + 1) _ zo zo ?_
    rw [hst2]
    (refine St.Le.clean zR zU zV)
  · have he := hend zo
    subst he
    repeat' (first | refine yw ?_ | ((with_reducible refine Runs.is ?_); first | refine Runs.region (id := 3) ?_ | ((with_reducible refine Runs.isC ?_); refine Runs.cond rfl (zc ?_) (zc ?_) <;> intro hc <;> (try (first | contradiction | (exfalso; omega; done) | (have : hc = trivial := rfl; clear this; clear hc))))) | ((with_reducible refine r_is ?_); first | refine yr ?_) | fail)
    repeat' (first | refine yw ?_ | ((with_reducible refine Runs.is ?_); first | refine Runs.region (id := 7) ?_ | ((with_reducible refine Runs.isC ?_); refine Runs.cond rfl (zc ?_) (zc ?_) <;> intro hc <;> (try (first | contradiction | (exfalso; omega; done) | (have : hc = trivial := rfl; clear this; clear hc))))) | ((with_reducible refine r_is ?_); first | refine yr ?_) | fail)
    (refine Runs.retC Try.func11 rfl zM rfl TyF.h (And.intro zE zd) zD ?_; try exact zX)
end Go.Proofs
namespace Go.Proofs
open Go.AM
attribute [local irreducible] AM.evalR AM.evalD AM.Runs AM.valK AM.dK AM.opK AM.stepR AM.CallS AM.St.Le
theorem grow_nil (n : Nat) (hn : n ≤ 1000000000) : AM.Spec Try.prog 45 [.sc (.slice none 0 0), .i (n : Nat)] [] (OwnPost 3 1 fun l => l = ([] : List Int).map .i) := by
  (refine spec_of_runs Try.func45 rfl ?_; simp only [Try.f45]; refine ys ?_)
  repeat' (first | refine yw ?_ | ((with_reducible refine Runs.is ?_); first | refine Runs.region ?_ | ((with_reducible refine Runs.isC ?_); refine Runs.cond rfl (zc ?_) (zc ?_) <;> intro hc <;> (try (first | contradiction | (exfalso; omega; done) | (have : hc = trivial := rfl; clear this; clear hc))))) | ((with_reducible refine r_is ?_); first | refine yr ?_ | (refine r_append_full SlF.h SlF.s ZoF.h zd rfl rfl zC zJ zS rfl (fun hn => ?_) (fun hn => ?_) <;> refine r_nn zN zH ?_)) | fail)
  · exact Runs.ret_own Try.func45 rfl rfl rfl (by simp)
  · exact Runs.ret_nil Try.func45 rfl rfl zd rfl rfl
theorem sum_take (ls : List (List Int)) (k : Nat) (h : k < ls.length) : ((ls.take (k + 1)).map List.length).sum = ((ls.take k).map List.length).sum + (ls.getD k default).length := by
  rw [take_getD h, List.map_append, List.sum_append]; simp
theorem sum_take_le (ls : List (List Int)) (k : Nat) : ((ls.take k).map List.length).sum ≤ (ls.map List.length).sum := by
  have h : ls.map List.length = (ls.take k).map List.length ++ (ls.drop k).map List.length := by rw [← List.map_append, List.take_append_drop]
  rw [h, List.sum_append]; omega
theorem flatten_len (ls : List (List Int)) : ls.flatten.length = (ls.map List.length).sum := List.length_flatten
theorem concat_ints (f : Bool) (ls : List (List Int)) (hs : (ls.map List.length).sum ≤ 1000000000) : AM.Spec Try.prog 30 [.sl f (ls.map inV)] [] (OwnPost 3 1 fun l => l = ls.flatten.map .i) := by
  (refine spec_of_runs Try.func30 rfl ?_; simp only [Try.f30]; refine ys ?_)
  (refine Runs.lens 0 ?_; refine yl ?_)
  intro hlb
  repeat' (first | refine yw ?_ | ((with_reducible refine Runs.is ?_); first | refine Runs.region (id := 0) ?_ | refine Runs.region (id := 1) ?_ | refine Runs.region (id := 2) ?_ | ((with_reducible refine Runs.isC ?_); refine Runs.cond rfl (zc ?_) (zc ?_) <;> intro hc <;> (try (first | contradiction | (exfalso; omega; done) | (have : hc = trivial := rfl; clear this; clear hc))))) | ((with_reducible refine r_is ?_); first | refine yr ?_) | fail)
  refine Runs.loopI (fun k : Nat => ls.length - k) (fun k => k ≤ ls.length)
    (fun k => ⟨[.sl f (ls.map inV), .any, .any, .i ((((ls.take k).map List.length).sum : Nat) : Int), .any, .any, .any, .any, .any, .sl f (ls.map inV), .i (ls.length : Nat), .i (k : Nat), .any, .any, .any, .any, .any, .any, .any, .any, .any, .any, .any, .any, .any, .any, .any, .any, .any, .any, .any, .any, .any, .any, .any, .any], []⟩) 0 (by simp) ?_ ?_
  · (refine St.Le.clean zR zU zV)
  rintro k hk ih
  have hst := fun (h : k < ls.length) => sum_take ls k h
  have hle := sum_take_le ls k
  have hle2 := sum_take_le ls (k + 1)
  have hend : ls.length ≤ k → ((ls.take k).map List.length).sum = (ls.map List.length).sum := fun h => by rw [List.take_of_length_le h]
  generalize ((ls.take k).map List.length).sum = n at hst hle hend ⊢
  by_cases hlt : k < ls.length
  · have hst2 := hst hlt
    repeat' (first | refine yw ?_ | ((with_reducible refine Runs.is ?_); first | refine Runs.region (id := 3) ?_ | refine Runs.region (id := 4) ?_ | refine Runs.region (id := 5) ?_ | refine Runs.region (id := 6) ?_ | ((with_reducible refine Runs.isC ?_); refine Runs.cond rfl (zc ?_) (zc ?_) <;> intro hc <;> (try (first | contradiction | (exfalso; omega; done) | (have : hc = trivial := rfl; clear this; clear hc))))) | ((with_reducible refine r_is ?_); first | refine yr ?_) | fail)
    repeat' (first | refine yw ?_ | ((with_reducible refine Runs.is ?_); first | refine Runs.region (id := 8) ?_ | ((with_reducible refine Runs.isC ?_); refine Runs.cond rfl (zc ?_) (zc ?_) <;> intro hc <;> (try (first | contradiction | (exfalso; omega; done) | (have : hc = trivial := rfl; clear this; clear hc))))) | ((with_reducible refine r_is ?_); first | refine yr ?_) | fail)
    refine ih (k + 1) _ zo zo ?_
    rw [hst2]
    (refine St.Le.clean zR zU zV)
  · have hn := hend zo
    clear hst hend hle2 ih
    repeat' (first | refine yw ?_ | ((with_reducible refine Runs.is ?_); first | refine Runs.region (id := 3) ?_ | ((with_reducible refine Runs.isC ?_); refine Runs.cond rfl (zc ?_) (zc ?_) <;> intro hc <;> (try (first | contradiction | (exfalso; omega; done) | (have : hc = trivial := rfl; clear this; clear hc))))) | ((with_reducible refine r_is ?_); first | refine yr ?_) | fail)
    repeat' (first | refine yw ?_ | ((with_reducible refine Runs.is ?_); first | refine Runs.region (id := 9) ?_ | refine Runs.region (id := 10) ?_ | ((with_reducible refine Runs.isC ?_); refine Runs.cond rfl (zc ?_) (zc ?_) <;> intro hc <;> (try (first | contradiction | (exfalso; omega; done) | (have : hc = trivial := rfl; clear this; clear hc))))) | ((with_reducible refine r_is ?_); first | refine yr ?_ | (refine r_own rfl (grow_nil n zo) HbF.h zL2 zD rfl (fun _ hq _ => ?_); (try subst hq); refine r_nn zN zH ?_)) | fail)
    refine Runs.loopI (fun k : Nat => ls.length - k) (fun k => k ≤ ls.length)
      (fun k => ⟨[.any, .any, .any, .any, .any, .any, .own 24, .any, .any, .any, .any, .any, .any, .any, .any, .any, .any, .any, .any, .any, .any, .any, .any, .any, .any, .sl f (ls.map inV), .i (ls.length : Nat), .i (k : Nat), .any, .any, .any, .any, .any, .any, .any, .any], [(24, .lst 3 1 ((ls.take k).flatten.map .i))]⟩) 0 (by simp) ?_ ?_
    · (refine St.Le.clean zR zU zV)
    rintro k hk ih
    have hle := sum_take_le ls (k + 1)
    have hfl := flatten_len (ls.take k)
    have hle1 := sum_take_le ls k
    have hend : ls.length ≤ k → (ls.take k).flatten = ls.flatten := fun h => by rw [List.take_of_length_le h]
    have hst := fun (h : k < ls.length) => take_getD (xs := ls) h
    have hsm := fun (h : k < ls.length) => sum_take ls k h
    by_cases hlt : k < ls.length
    · have hfl2 : (ls.take (k + 1)).flatten = (ls.take k).flatten ++ ls.getD k default := by rw [hst hlt, List.flatten_append]; simp
      have hsm2 := hsm hlt
      generalize (ls.take k).flatten = acc at hfl hend hfl2 ⊢
      repeat' (first | refine yw ?_ | ((with_reducible refine Runs.is ?_); first | refine Runs.region (id := 11) ?_ | refine Runs.region (id := 12) ?_ | refine Runs.region (id := 13) ?_ | refine Runs.region (id := 14) ?_ | ((with_reducible refine Runs.isC ?_); refine Runs.cond rfl (zc ?_) (zc ?_) <;> intro hc <;> (try (first | contradiction | (exfalso; omega; done) | (have : hc = trivial := rfl; clear this; clear hc))))) | ((with_reducible refine r_is ?_); first | refine yr ?_ | (refine r_append_full SlF.h SlF.s ZoF.h zd rfl rfl zC zJ zS rfl (fun hn => ?_) (fun hn => ?_) <;> refine r_nn zN zH ?_)) | fail)
      refine ih (k + 1) _ zo zo ?_
      rw [hfl2]
      (refine St.Le.clean zR zU zV)
    · repeat' (first | refine yw ?_ | ((with_reducible refine Runs.is ?_); first | refine Runs.region (id := 11) ?_ | ((with_reducible refine Runs.isC ?_); refine Runs.cond rfl (zc ?_) (zc ?_) <;> intro hc <;> (try (first | contradiction | (exfalso; omega; done) | (have : hc = trivial := rfl; clear this; clear hc))))) | ((with_reducible refine r_is ?_); first | refine yr ?_) | fail)
      rw [hend zo]
      repeat' (first | refine yw ?_ | ((with_reducible refine Runs.is ?_); first | refine Runs.region (id := 15) ?_ | ((with_reducible refine Runs.isC ?_); refine Runs.cond rfl (zc ?_) (zc ?_) <;> intro hc <;> (try (first | contradiction | (exfalso; omega; done) | (have : hc = trivial := rfl; clear this; clear hc))))) | ((with_reducible refine r_is ?_); first | refine yr ?_) | fail)
      exact Runs.ret_own Try.func30 rfl rfl rfl rfl
end Go.Proofs
namespace Go.Proofs
open Go.AM
attribute [local irreducible] AM.evalR AM.evalD AM.Runs AM.valK AM.dK AM.opK AM.stepR AM.CallS AM.St.Le
end Go.Proofs
namespace Go.Proofs
open Go.AM
attribute [local irreducible] AM.evalR AM.evalD AM.Runs AM.valK AM.dK AM.opK AM.stepR AM.CallS AM.St.Le
end Go.Proofs
namespace Go.Proofs
open Go.AM
attribute [local irreducible] AM.evalR AM.evalD AM.Runs AM.valK AM.dK AM.opK AM.stepR AM.CallS AM.St.Le
def laterB (a b : WeightEntry) : Bool := if a.version ≠ b.version then decide (b.version < a.version) else if a.admin ≠ b.admin then decide (b.admin < a.admin) else decide (b.number < a.number)
def insStep (n : Int) (s : List Int × Bool) (y : Int) : List Int × Bool :=
  let t := if s.2 = false ∧ n ≤ y then (s.1 ++ [n], true) else s
  if y ≠ n then (t.1 ++ [y], t.2) else t
def insR (l : List Int) (n : Int) : List Int := let s := l.foldl (insStep n) ([], false); if s.2 = false then s.1 ++ [n] else s.1
theorem insStep_a {n y : Int} {acc : List Int} (h1 : n ≤ y) (h2 : ¬ y = n) : insStep n (acc, false) y = (acc ++ [n] ++ [y], true) := by simp [insStep, h1, h2]
theorem insStep_b {n y : Int} {acc : List Int} (h1 : n ≤ y) (h2 : y = n) : insStep n (acc, false) y = (acc ++ [n], true) := by simp [insStep, h2]
theorem insStep_c {n y : Int} {acc : List Int} (h1 : y < n) (h2 : ¬ y = n) : insStep n (acc, false) y = (acc ++ [y], false) := by
  have : ¬ n ≤ y := by omega
  simp [insStep, h2, this]
theorem insStep_d {n y : Int} {acc : List Int} (h2 : ¬ y = n) : insStep n (acc, true) y = (acc ++ [y], true) := by simp [insStep, h2]
def weightR : List WeightEntry → Int → Int
  | [], _ => 1
  | w :: ws, x => if w.server = x then w.weight else weightR ws x
end Go.Proofs
namespace Go.Proofs
open Go.AM
attribute [local irreducible] AM.evalR AM.evalD AM.Runs AM.valK AM.dK AM.opK AM.stepR AM.CallS AM.St.Le
def ascR : List Int → Bool
  | [] => true
  | [_] => true
  | x :: y :: l => decide (x < y) && ascR (y :: l)
theorem ascR_drop {l : List Int} {i : Nat} (h : i + 1 < l.length) : ascR (l.drop i) = (decide (l.getD i default < l.getD (i + 1) default) && ascR (l.drop (i + 1))) := by
  rw [drop_getD (show i < l.length by omega), drop_getD h, ascR]
end Go.Proofs
namespace Go.Proofs
open Go.AM
attribute [local irreducible] AM.evalR AM.evalD AM.Runs AM.valK AM.dK AM.opK AM.stepR AM.CallS AM.St.Le
end Go.Proofs
namespace Go.Proofs
open Go.AM
attribute [local irreducible] AM.evalR AM.evalD AM.Runs AM.valK AM.dK AM.opK AM.stepR AM.CallS AM.St.Le
end Go.Proofs
namespace Go.Proofs
open Go.AM
attribute [local irreducible] AM.evalR AM.evalD AM.Runs AM.valK AM.dK AM.opK AM.stepR AM.CallS AM.St.Le
def weighStep (w : WeightEntry) (s : List WeightEntry × Bool) (x : WeightEntry) : List WeightEntry × Bool :=
  if x.server = w.server then (s.1 ++ [if laterB w x = true then w else x], true)
  else if s.2 = false ∧ w.server < x.server then (s.1 ++ [w, x], true) else (s.1 ++ [x], s.2)
def weighR (l : List WeightEntry) (w : WeightEntry) : List WeightEntry := let s := l.foldl (weighStep w) ([], false); if s.2 = false then s.1 ++ [w] else s.1
theorem weighStep_a {w x : WeightEntry} {acc : List WeightEntry} {put : Bool} (h1 : x.server = w.server) (h2 : laterB w x = true) : weighStep w (acc, put) x = (acc ++ [w], true) := by simp [weighStep, h1, h2]
theorem weighStep_b {w x : WeightEntry} {acc : List WeightEntry} {put : Bool} (h1 : x.server = w.server) (h2 : laterB w x = false) : weighStep w (acc, put) x = (acc ++ [x], true) := by simp [weighStep, h1, h2]
theorem weighStep_c {w x : WeightEntry} {acc : List WeightEntry} (h1 : ¬ x.server = w.server) (h2 : w.server < x.server) : weighStep w (acc, false) x = (acc ++ [w, x], true) := by simp [weighStep, h1, h2]
theorem weighStep_d {w x : WeightEntry} {acc : List WeightEntry} (h1 : ¬ x.server = w.server) (h2 : ¬ w.server < x.server) : weighStep w (acc, false) x = (acc ++ [x], false) := by simp [weighStep, h1, h2]
theorem weighStep_e {w x : WeightEntry} {acc : List WeightEntry} (h1 : ¬ x.server = w.server) : weighStep w (acc, true) x = (acc ++ [x], true) := by simp [weighStep, h1]
end Go.Proofs
namespace Go.Proofs
open Go.AM
attribute [local irreducible] AM.evalR AM.evalD AM.Runs AM.valK AM.dK AM.opK AM.stepR AM.CallS AM.St.Le
end Go.Proofs
namespace Go.Proofs
open Go.AM
attribute [local irreducible] AM.evalR AM.evalD AM.Runs AM.valK AM.dK AM.opK AM.stepR AM.CallS AM.St.Le
def pickT (a b : Summary) : Summary := if b.rule ≠ ⟨0, 0, 0⟩ ∧ (a.rule = ⟨0, 0, 0⟩ ∨ laterB (originW b) (originW a) = true) then b else a
def joinT (a b : Summary) : Summary := ⟨b.joined.foldl insR a.joined, b.removed.foldl insR a.removed, b.weights.foldl weighR a.weights, (pickT a b).rule, (pickT a b).version, (pickT a b).admin, (pickT a b).number⟩
end Go.Proofs
namespace Go.Proofs
open Go.AM
attribute [local irreducible] AM.evalR AM.evalD AM.Runs AM.valK AM.dK AM.opK AM.stepR AM.CallS AM.St.Le
def sum0 : Summary := ⟨[], [], [], ⟨0, 0, 0⟩, 0, 0, 0⟩
def ofTStep (p : Proposal) (s : Summary) (c : Change) : Summary :=
  if c.kind = 1 then { s with joined := insR s.joined c.server, weights := weighR s.weights ⟨c.server, c.weight, 0, p.admin, p.number⟩ }
  else if c.kind = 2 then { s with removed := insR s.removed c.server }
  else if c.kind = 3 then { s with weights := weighR s.weights ⟨c.server, c.weight, c.version, p.admin, p.number⟩ }
  else if c.kind = 4 then { s with rule := c.rule, version := c.version, admin := p.admin, number := p.number }
  else s
def ofT (p : Proposal) : Summary := p.changes.foldl (ofTStep p) sum0
end Go.Proofs
namespace Go.Proofs
open Go.AM
attribute [local irreducible] AM.evalR AM.evalD AM.Runs AM.valK AM.dK AM.opK AM.stepR AM.CallS AM.St.Le
def sumTStep (s : Summary) (p : Proposal) : Summary := joinT s (ofT p)
def sumT (g : View) (c : Config) : Summary := c.foldl sumTStep (initS g)
theorem Short.mono {s : Summary} {m n : Nat} (h : Short s m) (hmn : m ≤ n) : Short s n := ⟨Nat.le_trans h.1 hmn, Nat.le_trans h.2.1 hmn, Nat.le_trans h.2.2 hmn⟩
def vAccT (R : List Int) (W : List WeightEntry) (l : List Int) : List Member := (l.filter fun x => !R.any fun y => decide (y = x)).map fun x => ⟨x, weightR W x⟩
def viewT (s : Summary) : View := ⟨vAccT s.removed s.weights s.joined, viewRule s.rule⟩
end Go.Proofs
namespace Go.Proofs
open Go.AM
attribute [local irreducible] AM.evalR AM.evalD AM.Runs AM.valK AM.dK AM.opK AM.stepR AM.CallS AM.St.Le
end Go.Proofs
namespace Go.Proofs
open Go.AM
attribute [local irreducible] AM.evalR AM.evalD AM.Runs AM.valK AM.dK AM.opK AM.stepR AM.CallS AM.St.Le
end Go.Proofs
namespace Go.Proofs
open Go.AM
attribute [local irreducible] AM.evalR AM.evalD AM.Runs AM.valK AM.dK AM.opK AM.stepR AM.CallS AM.St.Le
def blk (f : Nat → Nat → Proposal) (a n : Nat) : Config := (List.range n).map (f a)
def key (p : Proposal) : Proposal := ⟨p.admin, p.number, []⟩
theorem mem_upto {a b x : Int} : x ∈ upto a b ↔ a ≤ x ∧ x ≤ b := by
  unfold upto
  rw [List.mem_map]
  constructor
  · rintro ⟨n, hn, rfl⟩; rw [List.mem_range] at hn; omega
  · intro h; exact ⟨(x - a).toNat, by rw [List.mem_range]; omega, by omega⟩
end Go.Proofs
namespace Go.Proofs
open Go.AM
attribute [local irreducible] AM.evalR AM.evalD AM.Runs AM.valK AM.dK AM.opK AM.stepR AM.CallS AM.St.Le
end Go.Proofs
namespace Go.Proofs
open Go.AM
attribute [local irreducible] AM.evalR AM.evalD AM.Runs AM.valK AM.dK AM.opK AM.stepR AM.CallS AM.St.Le
end Go.Proofs
namespace Go.Proofs
open Go.AM
attribute [local irreducible] AM.evalR AM.evalD AM.Runs AM.valK AM.dK AM.opK AM.stepR AM.CallS AM.St.Le
end Go.Proofs
