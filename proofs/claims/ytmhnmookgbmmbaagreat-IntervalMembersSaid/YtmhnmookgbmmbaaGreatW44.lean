/- slices.Insert of one element into a list of the call's own. -/
import Derived.Test.YtmhnmookgbmmbaaGreatW39
set_option linter.unusedVariables false
set_option linter.unusedSimpArgs false
set_option maxRecDepth 8000
set_option maxHeartbeats 4000000
set_option pp.deepTerms false
set_option pp.deepTerms.threshold 6
namespace Go.Proofs
open Go.AM
attribute [local irreducible] AM.evalR AM.evalD AM.Runs AM.valK AM.dK AM.opK AM.stepR AM.CallS AM.St.Le
section
variable {α : Type} {row L : List α} {x z : α} {i n c : Nat}
theorem insA (h : row.take n = L) (hi : i < n) : row.take (i + 1) ++ (((row.drop i).take (n + 1 - i)).take (n - i) ++ row.drop (i + 1 + (n - i))) = row.take (i + 1) ++ (L.drop i ++ row.drop (n + 1)) := by
  rw [List.take_take, Nat.min_eq_left zo, List.take_drop, show i + (n - i) = n by omega, h, show i + 1 + (n - i) = n + 1 by omega]
theorem insB (h : row.take n = L) (hi : i < n) (hc : n + 1 ≤ row.length) :
    (row.take (i + 1) ++ (L.drop i ++ row.drop (n + 1))).take i ++ ([x].take 1 ++ (row.take (i + 1) ++ (L.drop i ++ row.drop (n + 1))).drop (i + 1)) = L.take i ++ ([x] ++ (L.drop i ++ row.drop (n + 1))) := by
  have h1 : (row.take (i + 1)).length = i + 1 := by rw [List.length_take]; omega
  rw [List.take_append_of_le_length zo, List.take_take, Nat.min_eq_left zo, List.drop_left' h1, ← h, List.take_take, Nat.min_eq_left zo]
  rfl
theorem insC {rest : List α} (hL : L.length = n) (hi : i < n) : (L.take i ++ ([x] ++ (L.drop i ++ rest))).take (n + 1) = L.take i ++ x :: L.drop i := by
  have e : L.take i ++ ([x] ++ (L.drop i ++ rest)) = (L.take i ++ x :: L.drop i) ++ rest := by simp
  rw [e, List.take_left' (by simp; omega)]
theorem insD (hL : L.length = n) (hi : i < n) (hc : n + 1 ≤ c) : (L.take i ++ List.replicate (c - i) z).take i ++ ([x].take 1 ++ (L.take i ++ List.replicate (c - i) z).drop (i + 1)) = L.take i ++ ([x] ++ List.replicate (c - (i + 1)) z) := by
  have h1 : (L.take i).length = i := by rw [List.length_take]; omega
  rw [List.take_left' h1, List.drop_append, h1, List.drop_of_length_le zo, show i + 1 - i = 1 by omega, List.drop_replicate, show c - i - 1 = c - (i + 1) by omega]
  rfl
theorem insE (h : row.take n = L) (hL : L.length = n) (hi : i < n) (hc : n + 1 ≤ c) :
    (L.take i ++ ([x] ++ List.replicate (c - (i + 1)) z)).take (i + 1) ++ (((row.drop i).take (n - i)).take (n - i) ++ (L.take i ++ ([x] ++ List.replicate (c - (i + 1)) z)).drop (i + 1 + (n - i))) = L.take i ++ ([x] ++ (L.drop i ++ List.replicate (c - (n + 1)) z)) := by
  have h1 : (L.take i ++ [x]).length = i + 1 := by rw [List.length_append, List.length_take]; simp; omega
  have e : L.take i ++ ([x] ++ List.replicate (c - (i + 1)) z) = (L.take i ++ [x]) ++ List.replicate (c - (i + 1)) z := (List.append_assoc ..).symm
  rw [e, List.take_left' h1, List.take_take, Nat.min_self, List.take_drop, show i + (n - i) = n by omega, h, List.drop_append, List.drop_of_length_le (l := L.take i ++ [x]) (by rw [h1]; omega), h1, List.nil_append, show i + 1 + (n - i) - (i + 1) = n - i by omega, List.drop_replicate, show c - (i + 1) - (n - i) = c - (n + 1) by omega]
  simp
end
section
variable {P : Program} {e : Operand → V} {H : Heap} {K : V → Prop} {t te te' : TypeId} {x : Operand} {sz by_ id off len cap : Nat} {es : List V} {k k' : IntKind}
theorem v_slice_vloN {lo : Operand} {li : Int} (l : Nat) {off' len' cap' : Nat} (hs : slv P t = some (te, sz, by_)) (hx : e x = .vw id off len cap) (ho : AM.look H id = some (.row te' sz es)) (hl : e lo = .sc (.int k li)) (hli : li = (l : Nat)) (hb : l ≤ len ∧ l < cap) (h1 : off + l = off') (h2 : len - l = len') (h3 : cap - l = cap')
    (h : K (.vw id off' len' cap')) : valK P (.slice t x (some lo) none none) e H K := by
  subst hli
  refine v_slice_vlo hs hx ho hl ⟨by omega, by omega⟩ ?_
  rw [Int.toNat_natCast, if_neg zo, h1, h2, h3]; exact h
theorem v_slice_vhiN {hi : Operand} {li : Int} (l : Nat) (hs : slv P t = some (te, sz, by_)) (hx : e x = .vw id off len cap) (ho : AM.look H id = some (.row te' sz es)) (hl : e hi = .sc (.int k li)) (hli : li = (l : Nat)) (hb : l ≤ cap) (h : K (.vw id off l cap)) : valK P (.slice t x none (some hi) none) e H K := by
  subst hli
  refine v_slice_vhi hs hx ho hl ⟨by omega, by omega⟩ ?_
  rw [Int.toNat_natCast]; exact h
end
theorem insert_ints_mid (l : List Int) (i : Nat) (x : Int) (hi : i < l.length) (hl : l.length ≤ 1000000000) :
    AM.Gives Tryz.prog 104 1000 [.i (i : Nat), .sl true [.i x]] 3 1 (l.map .i) (fun r => r = (l.take i ++ x :: l.drop i).map .i) := by
  have hne : l.map V.i ≠ [] := by intro e; rw [List.map_eq_nil_iff] at e; subst e; simp at hi
  (refine gives_open Tryz.func104 rfl ?_ ?_ fun c hc0 => ?_; rotate_left; rotate_left; simp only [Tryz.f104]; refine ys ?_)
  · rw [List.length_map] at hc0 ⊢
    generalize hrow : l.map V.i ++ List.replicate (c - l.length) _ = row
    have hrl : row.length = c := by rw [← hrow]; simp; omega
    have hrt : row.take l.length = l.map V.i := by rw [← hrow, List.take_left' (by simp)]
    clear hrow
    have hL : (l.map V.i).length = l.length := by simp
    have hst : Storable (l.map V.i) := st_i l
    have hfin : (l.take i ++ x :: l.drop i).map V.i = (l.map V.i).take i ++ V.i x :: (l.map V.i).drop i := by simp
    rw [hfin]
    clear hfin
    generalize l.map V.i = L at hrt hL hst hne ⊢
    generalize l.length = n at *
    have hsd : Storable (L.drop i) := fun v hv => hst v (List.mem_of_mem_drop hv)
    repeat' (first | refine yw ?_ | ((with_reducible refine Runs.is ?_); first | refine Runs.region (id := 0) ?_ | refine Runs.region (id := 1) ?_ | ((with_reducible refine Runs.isC ?_); refine Runs.cond rfl (zc ?_) (zc ?_) <;> intro hc <;> (try (first | contradiction | (exfalso; omega; done) | (have : hc = trivial := rfl; clear this; clear hc))))) | ((with_reducible refine r_is ?_); first | refine yr ?_) | fail)
    refine r_v rfl (v_slice_vloN i SlF.h rfl rfl rfl rfl ⟨by omega, by omega⟩ (show 0 + i = i by omega) rfl rfl ?_)
    refine r_n zN ?_
    repeat' (first | refine yw ?_ | ((with_reducible refine Runs.is ?_); first | refine Runs.region (id := 2) ?_ | refine Runs.region (id := 3) ?_ | refine Runs.region (id := 4) ?_ | refine Runs.region (id := 5) ?_ | refine Runs.region (id := 6) ?_ | refine Runs.region (id := 7) ?_ | refine Runs.region (id := 8) ?_ | ((with_reducible refine Runs.isC ?_); refine Runs.cond rfl (zc ?_) (zc ?_) <;> intro hc <;> (try (first | contradiction | (exfalso; omega; done) | (have : hc = trivial := rfl; clear this; clear hc))))) | ((with_reducible refine r_is ?_); first | refine yr ?_ | (refine r_append_full SlF.h SlF.s ZoF.h zd rfl rfl zC zJ zS rfl (fun hn => ?_) (fun hn => ?_) <;> refine r_nn zN zH ?_)) | fail)
    · repeat' (first | refine yw ?_ | ((with_reducible refine Runs.is ?_); first | refine Runs.region (id := 9) ?_ | ((with_reducible refine Runs.isC ?_); refine Runs.cond rfl (zc ?_) (zc ?_) <;> intro hc <;> (try (first | contradiction | (exfalso; omega; done) | (have : hc = trivial := rfl; clear this; clear hc))))) | ((with_reducible refine r_is ?_); first | refine yr ?_ | (refine r_append_full SlF.h SlF.s ZoF.h zd rfl rfl zC zJ zS rfl (fun hn => ?_) (fun hn => ?_) <;> refine r_nn zN zH ?_)) | fail)
      refine r_v rfl (v_slice_vhiN i SlF.h rfl rfl rfl rfl zo ?_)
      refine r_n zN ?_
      repeat' (first | refine yw ?_ | ((with_reducible refine Runs.is ?_); first | refine Runs.region (id := 9) ?_ | ((with_reducible refine Runs.isC ?_); refine Runs.cond rfl (zc ?_) (zc ?_) <;> intro hc <;> (try (first | contradiction | (exfalso; omega; done) | (have : hc = trivial := rfl; clear this; clear hc))))) | ((with_reducible refine r_is ?_); first | refine yr ?_ | (refine r_append_full SlF.h SlF.s ZoF.h zd rfl rfl zC zJ zS rfl (fun hn => ?_) (fun hn => ?_) <;> refine r_nn zN zH ?_)) | fail)
      refine r_zap (m := n + 1 - i) (z := .i 0) SlF.h UnF.h rfl (congrArg (fun q => V.sc (.int .i64 q)) zo) rfl zo ⟨by omega, by omega, by omega, by omega⟩ ZvF.h ⟨rfl, rfl⟩ rfl (show _ = L.take i by rw [List.drop_zero, ← hrt, List.take_take, Nat.min_eq_left zo]) fun c' hc' => ?_
      refine r_nn zN zH ?_
      rw [show i + (n + 1 - i) = n + 1 by omega] at hc' ⊢
      repeat' (first | refine yw ?_ | ((with_reducible refine Runs.is ?_); first | refine Runs.region (id := 9) ?_ | refine Runs.region (id := 10) ?_ | ((with_reducible refine Runs.isC ?_); refine Runs.cond rfl (zc ?_) (zc ?_) <;> intro hc <;> (try (first | contradiction | (exfalso; omega; done) | (have : hc = trivial := rfl; clear this; clear hc))))) | ((with_reducible refine r_is ?_); first | refine yr ?_ | (refine r_copyA SlF.h SlF.s rfl rfl rfl zC (by simp) ?_; refine r_nn zN zH ?_) | (refine r_append_full SlF.h SlF.s ZoF.h zd rfl rfl zC zJ zS rfl (fun hn => ?_) (fun hn => ?_) <;> refine r_nn zN zH ?_)) | fail)
      refine r_v rfl (v_slice_vloN i SlF.h rfl rfl rfl rfl ⟨by omega, by omega⟩ (show 0 + i = i by omega) rfl rfl ?_)
      refine r_n zN ?_
      repeat' (first | refine yw ?_ | ((with_reducible refine Runs.is ?_); first | refine Runs.region (id := 10) ?_ | ((with_reducible refine Runs.isC ?_); refine Runs.cond rfl (zc ?_) (zc ?_) <;> intro hc <;> (try (first | contradiction | (exfalso; omega; done) | (have : hc = trivial := rfl; clear this; clear hc))))) | ((with_reducible refine r_is ?_); first | refine yr ?_ | (refine r_copyA SlF.h SlF.s rfl rfl rfl zC (by simp) ?_; refine r_nn zN zH ?_)) | fail)
      refine r_copyVS (n := 1) SlF.h SlF.s rfl rfl rfl (by simp; omega) (sd_i [x]) (by simp; omega) (fun v hv => by rw [List.mem_singleton.1 hv]; rfl) (insD hL hi hc') ?_
      refine r_nn zN zH ?_
      repeat' (first | refine yw ?_ | ((with_reducible refine Runs.is ?_); first | refine Runs.region (id := 10) ?_ | refine Runs.drawn (id := 11) mixed zK ?_ | ((with_reducible refine Runs.isC ?_); refine Runs.cond rfl (zc ?_) (zc ?_) <;> intro hc <;> (try (first | contradiction | (exfalso; omega; done) | (have : hc = trivial := rfl; clear this; clear hc))))) | ((with_reducible refine r_is ?_); first | refine yr ?_ | (refine r_copyA SlF.h SlF.s rfl rfl rfl zC (by simp) ?_; refine r_nn zN zH ?_)) | ((with_reducible refine d_is ?_); first | refine yd ?_) | fail)
      refine d_v rfl (v_slice_vloN (i + 1) SlF.h rfl rfl rfl zo ⟨by omega, by omega⟩ (show 0 + (i + 1) = i + 1 by omega) (show n + 1 - (i + 1) = n - i by omega) rfl ?_)
      refine d_n zN ?_
      repeat' (first | refine yw ?_ | ((with_reducible refine Runs.is ?_); first | refine Runs.drawn (id := 11) mixed zK ?_ | ((with_reducible refine Runs.isC ?_); refine Runs.cond rfl (zc ?_) (zc ?_) <;> intro hc <;> (try (first | contradiction | (exfalso; omega; done) | (have : hc = trivial := rfl; clear this; clear hc))))) | ((with_reducible refine d_is ?_); first | refine yd ?_) | fail)
      refine d_v rfl (v_slice_vloN i SlF.h rfl rfl rfl rfl ⟨by omega, by omega⟩ (show 0 + i = i by omega) rfl rfl ?_)
      refine d_n zN ?_
      repeat' (first | refine yw ?_ | ((with_reducible refine Runs.is ?_); first | refine Runs.drawn (id := 11) mixed zK ?_ | ((with_reducible refine Runs.isC ?_); refine Runs.cond rfl (zc ?_) (zc ?_) <;> intro hc <;> (try (first | contradiction | (exfalso; omega; done) | (have : hc = trivial := rfl; clear this; clear hc))))) | ((with_reducible refine d_is ?_); first | refine yd ?_) | fail)
      refine d_copyVV (n := n - i) SlF.h SlF.s rfl rfl rfl rfl (by simp; omega) zo zo (by rw [List.take_take, Nat.min_self, List.take_drop, show i + (n - i) = n by omega, hrt]; exact hsd) (insE hrt hL hi hc') ?_
      refine d_nn zN zH ?_
      repeat' (first | refine yw ?_ | ((with_reducible refine Runs.is ?_); first | refine Runs.drawn (id := 11) mixed zK ?_ | refine Runs.region (id := 12) ?_ | ((with_reducible refine Runs.isC ?_); refine Runs.cond rfl (zc ?_) (zc ?_) <;> intro hc <;> (try (first | contradiction | (exfalso; omega; done) | (have : hc = trivial := rfl; clear this; clear hc))))) | ((with_reducible refine r_is ?_); first | refine yr ?_ | (refine r_copyA SlF.h SlF.s rfl rfl rfl zC (by simp) ?_; refine r_nn zN zH ?_)) | ((with_reducible refine d_is ?_); first | refine yd ?_) | fail)
      exact Runs.ret_giveV Tryz.func104 rfl rfl rfl (by simp; omega) (insC hL hi) rfl
    · repeat' (first | refine yw ?_ | ((with_reducible refine Runs.is ?_); first | refine Runs.region (id := 13) ?_ | ((with_reducible refine Runs.isC ?_); refine Runs.cond rfl (zc ?_) (zc ?_) <;> intro hc <;> (try (first | contradiction | (exfalso; omega; done) | (have : hc = trivial := rfl; clear this; clear hc))))) | ((with_reducible refine r_is ?_); first | refine yr ?_) | fail)
      refine r_v rfl (v_slice_vhiN (n + 1) SlF.h rfl rfl rfl zo zo ?_)
      refine r_n zN ?_
      repeat' (first | refine yw ?_ | ((with_reducible refine Runs.is ?_); first | refine Runs.region (id := 13) ?_ | refine Runs.region (id := 14) ?_ | ((with_reducible refine Runs.isC ?_); refine Runs.cond rfl (zc ?_) (zc ?_) <;> intro hc <;> (try (first | contradiction | (exfalso; omega; done) | (have : hc = trivial := rfl; clear this; clear hc))))) | ((with_reducible refine r_is ?_); first | refine yr ?_) | fail)
      refine r_v rfl (v_slice_vloN (i + 1) SlF.h rfl rfl rfl zo ⟨by omega, by omega⟩ (show 0 + (i + 1) = i + 1 by omega) (show n + 1 - (i + 1) = n - i by omega) rfl ?_)
      refine r_n zN ?_
      repeat' (first | refine yw ?_ | ((with_reducible refine Runs.is ?_); first | refine Runs.region (id := 14) ?_ | ((with_reducible refine Runs.isC ?_); refine Runs.cond rfl (zc ?_) (zc ?_) <;> intro hc <;> (try (first | contradiction | (exfalso; omega; done) | (have : hc = trivial := rfl; clear this; clear hc))))) | ((with_reducible refine r_is ?_); first | refine yr ?_) | fail)
      refine r_overlaps (tS := 44) (tR := 4) Tryz.func122 (by kernel_rfl) (by kernel_rfl) (by kernel_rfl) (by kernel_rfl) SlF.h rfl rfl rfl ?_
      refine r_n zN ?_
      repeat' (first | refine yw ?_ | ((with_reducible refine Runs.is ?_); first | refine Runs.region (id := 14) ?_ | refine Runs.drawn (id := 15) mixed zK ?_ | ((with_reducible refine Runs.isC ?_); refine Runs.cond rfl (zc ?_) (zc ?_) <;> intro hc <;> (try (first | contradiction | (exfalso; omega; done) | (have : hc = trivial := rfl; clear this; clear hc))))) | ((with_reducible refine r_is ?_); first | refine yr ?_ | (refine r_copyA SlF.h SlF.s rfl rfl rfl zC (by simp) ?_; refine r_nn zN zH ?_)) | ((with_reducible refine d_is ?_); first | refine yd ?_) | fail)
      refine d_v rfl (v_slice_vloN (i + 1) SlF.h rfl rfl rfl zo ⟨by omega, by omega⟩ (show 0 + (i + 1) = i + 1 by omega) (show n + 1 - (i + 1) = n - i by omega) rfl ?_)
      refine d_n zN ?_
      repeat' (first | refine yw ?_ | ((with_reducible refine Runs.is ?_); first | refine Runs.drawn (id := 15) mixed zK ?_ | ((with_reducible refine Runs.isC ?_); refine Runs.cond rfl (zc ?_) (zc ?_) <;> intro hc <;> (try (first | contradiction | (exfalso; omega; done) | (have : hc = trivial := rfl; clear this; clear hc))))) | ((with_reducible refine d_is ?_); first | refine yd ?_) | fail)
      refine d_v rfl (v_slice_vloN i SlF.h rfl rfl rfl rfl ⟨by omega, by omega⟩ (show 0 + i = i by omega) rfl rfl ?_)
      refine d_n zN ?_
      repeat' (first | refine yw ?_ | ((with_reducible refine Runs.is ?_); first | refine Runs.drawn (id := 15) mixed zK ?_ | ((with_reducible refine Runs.isC ?_); refine Runs.cond rfl (zc ?_) (zc ?_) <;> intro hc <;> (try (first | contradiction | (exfalso; omega; done) | (have : hc = trivial := rfl; clear this; clear hc))))) | ((with_reducible refine d_is ?_); first | refine yd ?_) | fail)
      refine d_copyVV (n := n - i) SlF.h SlF.s rfl rfl rfl rfl zo zo zo (by rw [List.take_take, Nat.min_eq_left zo, List.take_drop, show i + (n - i) = n by omega, hrt]; exact hsd) (insA hrt hi) ?_
      refine d_nn zN zH ?_
      repeat' (first | refine yw ?_ | ((with_reducible refine Runs.is ?_); first | refine Runs.drawn (id := 15) mixed zK ?_ | refine Runs.region (id := 16) ?_ | ((with_reducible refine Runs.isC ?_); refine Runs.cond rfl (zc ?_) (zc ?_) <;> intro hc <;> (try (first | contradiction | (exfalso; omega; done) | (have : hc = trivial := rfl; clear this; clear hc))))) | ((with_reducible refine r_is ?_); first | refine yr ?_ | (refine r_copyA SlF.h SlF.s rfl rfl rfl zC (by simp) ?_; refine r_nn zN zH ?_)) | ((with_reducible refine d_is ?_); first | refine yd ?_) | fail)
      refine r_v rfl (v_slice_vloN i SlF.h rfl rfl rfl rfl ⟨by omega, by omega⟩ (show 0 + i = i by omega) rfl rfl ?_)
      refine r_n zN ?_
      repeat' (first | refine yw ?_ | ((with_reducible refine Runs.is ?_); first | refine Runs.region (id := 16) ?_ | ((with_reducible refine Runs.isC ?_); refine Runs.cond rfl (zc ?_) (zc ?_) <;> intro hc <;> (try (first | contradiction | (exfalso; omega; done) | (have : hc = trivial := rfl; clear this; clear hc))))) | ((with_reducible refine r_is ?_); first | refine yr ?_ | (refine r_copyA SlF.h SlF.s rfl rfl rfl zC (by simp) ?_; refine r_nn zN zH ?_)) | fail)
      refine r_copyVS (n := 1) SlF.h SlF.s rfl rfl rfl (by simp; omega) (sd_i [x]) (by simp; omega) (fun v hv => by rw [List.mem_singleton.1 hv]; rfl) (insB hrt hi zo) ?_
      refine r_nn zN zH ?_
      repeat' (first | refine yw ?_ | ((with_reducible refine Runs.is ?_); first | refine Runs.region (id := 16) ?_ | refine Runs.region (id := 17) ?_ | ((with_reducible refine Runs.isC ?_); refine Runs.cond rfl (zc ?_) (zc ?_) <;> intro hc <;> (try (first | contradiction | (exfalso; omega; done) | (have : hc = trivial := rfl; clear this; clear hc))))) | ((with_reducible refine r_is ?_); first | refine yr ?_ | (refine r_copyA SlF.h SlF.s rfl rfl rfl zC (by simp) ?_; refine r_nn zN zH ?_)) | fail)
      exact Runs.ret_giveV Tryz.func104 rfl rfl rfl (by simp; omega) (insC hL hi) rfl
  · exact hne
  · rfl
theorem insert_ints (l : List Int) (i : Nat) (x : Int) (hi : i ≤ l.length) (hl : l.length ≤ 1000000000) :
    AM.Gives Tryz.prog 104 1000 [.i (i : Nat), .sl true [.i x]] 3 1 (l.map .i) (fun r => r = (l.take i ++ x :: l.drop i).map .i) := by
  by_cases h : i < l.length
  · exact insert_ints_mid l i x h hl
  obtain rfl : i = l.length := by omega
  (refine spec_of_runs Tryz.func104 rfl ?_; simp only [Tryz.f104]; refine ys ?_)
  repeat' (first | refine yw ?_ | ((with_reducible refine Runs.is ?_); first | refine Runs.region (id := 0) ?_ | refine Runs.region (id := 1) ?_ | refine Runs.region (id := 2) ?_ | refine Runs.region (id := 3) ?_ | refine Runs.region (id := 4) ?_ | refine Runs.region (id := 5) ?_ | refine Runs.region (id := 6) ?_ | refine Runs.region (id := 7) ?_ | ((with_reducible refine Runs.isC ?_); refine Runs.cond rfl (zc ?_) (zc ?_) <;> intro hc <;> (try (first | contradiction | (exfalso; omega; done) | (have : hc = trivial := rfl; clear this; clear hc))))) | ((with_reducible refine r_is ?_); first | refine yr ?_ | (refine r_append_full SlF.h SlF.s ZoF.h zd rfl rfl zC zJ zS rfl (fun hn => ?_) (fun hn => ?_) <;> refine r_nn zN zH ?_)) | fail)
  all_goals first
    | (refine Runs.ret_give Tryz.func104 rfl rfl rfl ?_; simp; done)
    | (exfalso; simp at hc; done)
    | fail
theorem insert_we_mid (l : List WeightEntry) (i : Nat) (x : WeightEntry) (hi : i < l.length) (hl : l.length ≤ 1000000000) :
    AM.Gives Tryz.prog 108 1000 [.i (i : Nat), .sl true [weV x]] 99 5 (l.map weV) (fun r => r = (l.take i ++ x :: l.drop i).map weV) := by
  have hne : l.map weV ≠ [] := by intro e; rw [List.map_eq_nil_iff] at e; subst e; simp at hi
  (refine gives_open Tryz.func108 rfl ?_ ?_ fun c hc0 => ?_; rotate_left; rotate_left; simp only [Tryz.f108]; refine ys ?_)
  · rw [List.length_map] at hc0 ⊢
    generalize hrow : l.map weV ++ List.replicate (c - l.length) _ = row
    have hrl : row.length = c := by rw [← hrow]; simp; omega
    have hrt : row.take l.length = l.map weV := by rw [← hrow, List.take_left' (by simp)]
    clear hrow
    have hL : (l.map weV).length = l.length := by simp
    have hst : Storable (l.map weV) := st_weV l
    have hfin : (l.take i ++ x :: l.drop i).map weV = (l.map weV).take i ++ weV x :: (l.map weV).drop i := by simp
    rw [hfin]
    clear hfin
    generalize l.map weV = L at hrt hL hst hne ⊢
    generalize l.length = n at *
    have hsd : Storable (L.drop i) := fun v hv => hst v (List.mem_of_mem_drop hv)
    repeat' (first | refine yw ?_ | ((with_reducible refine Runs.is ?_); first | refine Runs.region (id := 0) ?_ | refine Runs.region (id := 1) ?_ | ((with_reducible refine Runs.isC ?_); refine Runs.cond rfl (zc ?_) (zc ?_) <;> intro hc <;> (try (first | contradiction | (exfalso; omega; done) | (have : hc = trivial := rfl; clear this; clear hc))))) | ((with_reducible refine r_is ?_); first | refine yr ?_) | fail)
    refine r_v rfl (v_slice_vloN i SlF.h rfl rfl rfl rfl ⟨by omega, by omega⟩ (show 0 + i = i by omega) rfl rfl ?_)
    refine r_n zN ?_
    repeat' (first | refine yw ?_ | ((with_reducible refine Runs.is ?_); first | refine Runs.region (id := 2) ?_ | refine Runs.region (id := 3) ?_ | refine Runs.region (id := 4) ?_ | refine Runs.region (id := 5) ?_ | refine Runs.region (id := 6) ?_ | refine Runs.region (id := 7) ?_ | refine Runs.region (id := 8) ?_ | ((with_reducible refine Runs.isC ?_); refine Runs.cond rfl (zc ?_) (zc ?_) <;> intro hc <;> (try (first | contradiction | (exfalso; omega; done) | (have : hc = trivial := rfl; clear this; clear hc))))) | ((with_reducible refine r_is ?_); first | refine yr ?_ | (refine r_append_full SlF.h SlF.s ZoF.h zd rfl rfl zC zJ zS rfl (fun hn => ?_) (fun hn => ?_) <;> refine r_nn zN zH ?_)) | fail)
    · repeat' (first | refine yw ?_ | ((with_reducible refine Runs.is ?_); first | refine Runs.region (id := 9) ?_ | ((with_reducible refine Runs.isC ?_); refine Runs.cond rfl (zc ?_) (zc ?_) <;> intro hc <;> (try (first | contradiction | (exfalso; omega; done) | (have : hc = trivial := rfl; clear this; clear hc))))) | ((with_reducible refine r_is ?_); first | refine yr ?_ | (refine r_append_full SlF.h SlF.s ZoF.h zd rfl rfl zC zJ zS rfl (fun hn => ?_) (fun hn => ?_) <;> refine r_nn zN zH ?_)) | fail)
      refine r_v rfl (v_slice_vhiN i SlF.h rfl rfl rfl rfl zo ?_)
      refine r_n zN ?_
      repeat' (first | refine yw ?_ | ((with_reducible refine Runs.is ?_); first | refine Runs.region (id := 9) ?_ | ((with_reducible refine Runs.isC ?_); refine Runs.cond rfl (zc ?_) (zc ?_) <;> intro hc <;> (try (first | contradiction | (exfalso; omega; done) | (have : hc = trivial := rfl; clear this; clear hc))))) | ((with_reducible refine r_is ?_); first | refine yr ?_ | (refine r_append_full SlF.h SlF.s ZoF.h zd rfl rfl zC zJ zS rfl (fun hn => ?_) (fun hn => ?_) <;> refine r_nn zN zH ?_)) | fail)
      refine r_zap (m := n + 1 - i) (z := weV ⟨0, 0, 0, 0, 0⟩) SlF.h UnF.h rfl (congrArg (fun q => V.sc (.int .i64 q)) zo) rfl zo ⟨by omega, by omega, by omega, by omega⟩ ZvF.h ⟨rfl, rfl⟩ rfl (show _ = L.take i by rw [List.drop_zero, ← hrt, List.take_take, Nat.min_eq_left zo]) fun c' hc' => ?_
      refine r_nn zN zH ?_
      rw [show i + (n + 1 - i) = n + 1 by omega] at hc' ⊢
      repeat' (first | refine yw ?_ | ((with_reducible refine Runs.is ?_); first | refine Runs.region (id := 9) ?_ | refine Runs.region (id := 10) ?_ | ((with_reducible refine Runs.isC ?_); refine Runs.cond rfl (zc ?_) (zc ?_) <;> intro hc <;> (try (first | contradiction | (exfalso; omega; done) | (have : hc = trivial := rfl; clear this; clear hc))))) | ((with_reducible refine r_is ?_); first | refine yr ?_ | (refine r_copyA SlF.h SlF.s rfl rfl rfl zC (by simp) ?_; refine r_nn zN zH ?_) | (refine r_append_full SlF.h SlF.s ZoF.h zd rfl rfl zC zJ zS rfl (fun hn => ?_) (fun hn => ?_) <;> refine r_nn zN zH ?_)) | fail)
      refine r_v rfl (v_slice_vloN i SlF.h rfl rfl rfl rfl ⟨by omega, by omega⟩ (show 0 + i = i by omega) rfl rfl ?_)
      refine r_n zN ?_
      repeat' (first | refine yw ?_ | ((with_reducible refine Runs.is ?_); first | refine Runs.region (id := 10) ?_ | ((with_reducible refine Runs.isC ?_); refine Runs.cond rfl (zc ?_) (zc ?_) <;> intro hc <;> (try (first | contradiction | (exfalso; omega; done) | (have : hc = trivial := rfl; clear this; clear hc))))) | ((with_reducible refine r_is ?_); first | refine yr ?_ | (refine r_copyA SlF.h SlF.s rfl rfl rfl zC (by simp) ?_; refine r_nn zN zH ?_)) | fail)
      refine r_copyVS (n := 1) SlF.h SlF.s rfl rfl rfl (by simp; omega) (sd_weV [x]) (by simp; omega) (fun v hv => by rw [List.mem_singleton.1 hv]; rfl) (insD hL hi hc') ?_
      refine r_nn zN zH ?_
      repeat' (first | refine yw ?_ | ((with_reducible refine Runs.is ?_); first | refine Runs.region (id := 10) ?_ | refine Runs.drawn (id := 11) mixed zK ?_ | ((with_reducible refine Runs.isC ?_); refine Runs.cond rfl (zc ?_) (zc ?_) <;> intro hc <;> (try (first | contradiction | (exfalso; omega; done) | (have : hc = trivial := rfl; clear this; clear hc))))) | ((with_reducible refine r_is ?_); first | refine yr ?_ | (refine r_copyA SlF.h SlF.s rfl rfl rfl zC (by simp) ?_; refine r_nn zN zH ?_)) | ((with_reducible refine d_is ?_); first | refine yd ?_) | fail)
      refine d_v rfl (v_slice_vloN (i + 1) SlF.h rfl rfl rfl zo ⟨by omega, by omega⟩ (show 0 + (i + 1) = i + 1 by omega) (show n + 1 - (i + 1) = n - i by omega) rfl ?_)
      refine d_n zN ?_
      repeat' (first | refine yw ?_ | ((with_reducible refine Runs.is ?_); first | refine Runs.drawn (id := 11) mixed zK ?_ | ((with_reducible refine Runs.isC ?_); refine Runs.cond rfl (zc ?_) (zc ?_) <;> intro hc <;> (try (first | contradiction | (exfalso; omega; done) | (have : hc = trivial := rfl; clear this; clear hc))))) | ((with_reducible refine d_is ?_); first | refine yd ?_) | fail)
      refine d_v rfl (v_slice_vloN i SlF.h rfl rfl rfl rfl ⟨by omega, by omega⟩ (show 0 + i = i by omega) rfl rfl ?_)
      refine d_n zN ?_
      repeat' (first | refine yw ?_ | ((with_reducible refine Runs.is ?_); first | refine Runs.drawn (id := 11) mixed zK ?_ | ((with_reducible refine Runs.isC ?_); refine Runs.cond rfl (zc ?_) (zc ?_) <;> intro hc <;> (try (first | contradiction | (exfalso; omega; done) | (have : hc = trivial := rfl; clear this; clear hc))))) | ((with_reducible refine d_is ?_); first | refine yd ?_) | fail)
      refine d_copyVV (n := n - i) SlF.h SlF.s rfl rfl rfl rfl (by simp; omega) zo zo (by rw [List.take_take, Nat.min_self, List.take_drop, show i + (n - i) = n by omega, hrt]; exact hsd) (insE hrt hL hi hc') ?_
      refine d_nn zN zH ?_
      repeat' (first | refine yw ?_ | ((with_reducible refine Runs.is ?_); first | refine Runs.drawn (id := 11) mixed zK ?_ | refine Runs.region (id := 12) ?_ | ((with_reducible refine Runs.isC ?_); refine Runs.cond rfl (zc ?_) (zc ?_) <;> intro hc <;> (try (first | contradiction | (exfalso; omega; done) | (have : hc = trivial := rfl; clear this; clear hc))))) | ((with_reducible refine r_is ?_); first | refine yr ?_ | (refine r_copyA SlF.h SlF.s rfl rfl rfl zC (by simp) ?_; refine r_nn zN zH ?_)) | ((with_reducible refine d_is ?_); first | refine yd ?_) | fail)
      exact Runs.ret_giveV Tryz.func108 rfl rfl rfl (by simp; omega) (insC hL hi) rfl
    · repeat' (first | refine yw ?_ | ((with_reducible refine Runs.is ?_); first | refine Runs.region (id := 13) ?_ | ((with_reducible refine Runs.isC ?_); refine Runs.cond rfl (zc ?_) (zc ?_) <;> intro hc <;> (try (first | contradiction | (exfalso; omega; done) | (have : hc = trivial := rfl; clear this; clear hc))))) | ((with_reducible refine r_is ?_); first | refine yr ?_) | fail)
      refine r_v rfl (v_slice_vhiN (n + 1) SlF.h rfl rfl rfl zo zo ?_)
      refine r_n zN ?_
      repeat' (first | refine yw ?_ | ((with_reducible refine Runs.is ?_); first | refine Runs.region (id := 13) ?_ | refine Runs.region (id := 14) ?_ | ((with_reducible refine Runs.isC ?_); refine Runs.cond rfl (zc ?_) (zc ?_) <;> intro hc <;> (try (first | contradiction | (exfalso; omega; done) | (have : hc = trivial := rfl; clear this; clear hc))))) | ((with_reducible refine r_is ?_); first | refine yr ?_) | fail)
      refine r_v rfl (v_slice_vloN (i + 1) SlF.h rfl rfl rfl zo ⟨by omega, by omega⟩ (show 0 + (i + 1) = i + 1 by omega) (show n + 1 - (i + 1) = n - i by omega) rfl ?_)
      refine r_n zN ?_
      repeat' (first | refine yw ?_ | ((with_reducible refine Runs.is ?_); first | refine Runs.region (id := 14) ?_ | ((with_reducible refine Runs.isC ?_); refine Runs.cond rfl (zc ?_) (zc ?_) <;> intro hc <;> (try (first | contradiction | (exfalso; omega; done) | (have : hc = trivial := rfl; clear this; clear hc))))) | ((with_reducible refine r_is ?_); first | refine yr ?_) | fail)
      refine r_overlaps (tS := 77) (tR := 4) Tryz.func124 (by kernel_rfl) (by kernel_rfl) (by kernel_rfl) (by kernel_rfl) SlF.h rfl rfl rfl ?_
      refine r_n zN ?_
      repeat' (first | refine yw ?_ | ((with_reducible refine Runs.is ?_); first | refine Runs.region (id := 14) ?_ | refine Runs.drawn (id := 15) mixed zK ?_ | ((with_reducible refine Runs.isC ?_); refine Runs.cond rfl (zc ?_) (zc ?_) <;> intro hc <;> (try (first | contradiction | (exfalso; omega; done) | (have : hc = trivial := rfl; clear this; clear hc))))) | ((with_reducible refine r_is ?_); first | refine yr ?_ | (refine r_copyA SlF.h SlF.s rfl rfl rfl zC (by simp) ?_; refine r_nn zN zH ?_)) | ((with_reducible refine d_is ?_); first | refine yd ?_) | fail)
      refine d_v rfl (v_slice_vloN (i + 1) SlF.h rfl rfl rfl zo ⟨by omega, by omega⟩ (show 0 + (i + 1) = i + 1 by omega) (show n + 1 - (i + 1) = n - i by omega) rfl ?_)
      refine d_n zN ?_
      repeat' (first | refine yw ?_ | ((with_reducible refine Runs.is ?_); first | refine Runs.drawn (id := 15) mixed zK ?_ | ((with_reducible refine Runs.isC ?_); refine Runs.cond rfl (zc ?_) (zc ?_) <;> intro hc <;> (try (first | contradiction | (exfalso; omega; done) | (have : hc = trivial := rfl; clear this; clear hc))))) | ((with_reducible refine d_is ?_); first | refine yd ?_) | fail)
      refine d_v rfl (v_slice_vloN i SlF.h rfl rfl rfl rfl ⟨by omega, by omega⟩ (show 0 + i = i by omega) rfl rfl ?_)
      refine d_n zN ?_
      repeat' (first | refine yw ?_ | ((with_reducible refine Runs.is ?_); first | refine Runs.drawn (id := 15) mixed zK ?_ | ((with_reducible refine Runs.isC ?_); refine Runs.cond rfl (zc ?_) (zc ?_) <;> intro hc <;> (try (first | contradiction | (exfalso; omega; done) | (have : hc = trivial := rfl; clear this; clear hc))))) | ((with_reducible refine d_is ?_); first | refine yd ?_) | fail)
      refine d_copyVV (n := n - i) SlF.h SlF.s rfl rfl rfl rfl zo zo zo (by rw [List.take_take, Nat.min_eq_left zo, List.take_drop, show i + (n - i) = n by omega, hrt]; exact hsd) (insA hrt hi) ?_
      refine d_nn zN zH ?_
      repeat' (first | refine yw ?_ | ((with_reducible refine Runs.is ?_); first | refine Runs.drawn (id := 15) mixed zK ?_ | refine Runs.region (id := 16) ?_ | ((with_reducible refine Runs.isC ?_); refine Runs.cond rfl (zc ?_) (zc ?_) <;> intro hc <;> (try (first | contradiction | (exfalso; omega; done) | (have : hc = trivial := rfl; clear this; clear hc))))) | ((with_reducible refine r_is ?_); first | refine yr ?_ | (refine r_copyA SlF.h SlF.s rfl rfl rfl zC (by simp) ?_; refine r_nn zN zH ?_)) | ((with_reducible refine d_is ?_); first | refine yd ?_) | fail)
      refine r_v rfl (v_slice_vloN i SlF.h rfl rfl rfl rfl ⟨by omega, by omega⟩ (show 0 + i = i by omega) rfl rfl ?_)
      refine r_n zN ?_
      repeat' (first | refine yw ?_ | ((with_reducible refine Runs.is ?_); first | refine Runs.region (id := 16) ?_ | ((with_reducible refine Runs.isC ?_); refine Runs.cond rfl (zc ?_) (zc ?_) <;> intro hc <;> (try (first | contradiction | (exfalso; omega; done) | (have : hc = trivial := rfl; clear this; clear hc))))) | ((with_reducible refine r_is ?_); first | refine yr ?_ | (refine r_copyA SlF.h SlF.s rfl rfl rfl zC (by simp) ?_; refine r_nn zN zH ?_)) | fail)
      refine r_copyVS (n := 1) SlF.h SlF.s rfl rfl rfl (by simp; omega) (sd_weV [x]) (by simp; omega) (fun v hv => by rw [List.mem_singleton.1 hv]; rfl) (insB hrt hi zo) ?_
      refine r_nn zN zH ?_
      repeat' (first | refine yw ?_ | ((with_reducible refine Runs.is ?_); first | refine Runs.region (id := 16) ?_ | refine Runs.region (id := 17) ?_ | ((with_reducible refine Runs.isC ?_); refine Runs.cond rfl (zc ?_) (zc ?_) <;> intro hc <;> (try (first | contradiction | (exfalso; omega; done) | (have : hc = trivial := rfl; clear this; clear hc))))) | ((with_reducible refine r_is ?_); first | refine yr ?_ | (refine r_copyA SlF.h SlF.s rfl rfl rfl zC (by simp) ?_; refine r_nn zN zH ?_)) | fail)
      exact Runs.ret_giveV Tryz.func108 rfl rfl rfl (by simp; omega) (insC hL hi) rfl
  · exact hne
  · rfl
theorem insert_we (l : List WeightEntry) (i : Nat) (x : WeightEntry) (hi : i ≤ l.length) (hl : l.length ≤ 1000000000) :
    AM.Gives Tryz.prog 108 1000 [.i (i : Nat), .sl true [weV x]] 99 5 (l.map weV) (fun r => r = (l.take i ++ x :: l.drop i).map weV) := by
  by_cases h : i < l.length
  · exact insert_we_mid l i x h hl
  obtain rfl : i = l.length := by omega
  (refine spec_of_runs Tryz.func108 rfl ?_; simp only [Tryz.f108]; refine ys ?_)
  repeat' (first | refine yw ?_ | ((with_reducible refine Runs.is ?_); first | refine Runs.region (id := 0) ?_ | refine Runs.region (id := 1) ?_ | refine Runs.region (id := 2) ?_ | refine Runs.region (id := 3) ?_ | refine Runs.region (id := 4) ?_ | refine Runs.region (id := 5) ?_ | refine Runs.region (id := 6) ?_ | refine Runs.region (id := 7) ?_ | ((with_reducible refine Runs.isC ?_); refine Runs.cond rfl (zc ?_) (zc ?_) <;> intro hc <;> (try (first | contradiction | (exfalso; omega; done) | (have : hc = trivial := rfl; clear this; clear hc))))) | ((with_reducible refine r_is ?_); first | refine yr ?_ | (refine r_append_full SlF.h SlF.s ZoF.h zd rfl rfl zC zJ zS rfl (fun hn => ?_) (fun hn => ?_) <;> refine r_nn zN zH ?_)) | fail)
  all_goals first
    | (refine Runs.ret_give Tryz.func108 rfl rfl rfl ?_; simp; done)
    | (exfalso; simp at hc; done)
    | fail
theorem bs_le0 (k : Nat → Int) (i j : Nat) (h : i ≤ j) : i ≤ bs k i j ∧ bs k i j ≤ j := by
  induction hn : j - i using Nat.strongRecOn generalizing i j with
  | _ n ih =>
    rw [bs]
    split
    · rename_i hlt
      split
      · have := ih (j - ((i + j) / 2 + 1)) zo ((i + j) / 2 + 1) j zo rfl; omega
      · have := ih ((i + j) / 2 - i) zo i ((i + j) / 2) zo rfl; omega
    · omega
theorem bsI_le (l : List Int) (x : Int) : bsI l x ≤ l.length := (bs_le0 _ _ _ (Nat.zero_le _)).2
theorem bsW_le (l : List WeightEntry) (x : WeightEntry) : bsW l x ≤ l.length := (bs_le0 _ _ _ (Nat.zero_le _)).2
theorem putI_len (l : List Int) (x : Int) : (putI l x).length = l.length + 1 := by
  have := bsI_le l x
  simp [putI]; omega
theorem putW_len (l : List WeightEntry) (x : WeightEntry) : (putW l x).length = l.length + 1 := by
  have := bsW_le l x
  simp [putW]; omega
theorem insI_len (l : List Int) (x : Int) : (insI l x).length ≤ l.length + 1 := by
  unfold insI; split
  · omega
  · rw [putI_len]; omega
theorem insW_len (l : List WeightEntry) (x : WeightEntry) : (insW l x).length ≤ l.length + 1 := by
  unfold insW; split
  · split
    · rw [List.length_set]; omega
    · omega
  · rw [putW_len]; omega
theorem unionI_len (a b : List Int) : (unionI a b).length ≤ a.length + b.length := by
  unfold unionI
  induction b generalizing a with
  | nil => simp
  | cons x b ih => have := ih (insI a x); have := insI_len a x; rw [List.foldl_cons, List.length_cons]; omega
theorem weightsI_len (a b : List WeightEntry) : (weightsI a b).length ≤ a.length + b.length := by
  unfold weightsI
  induction b generalizing a with
  | nil => simp
  | cons x b ih => have := ih (insW a x); have := insW_len a x; rw [List.foldl_cons, List.length_cons]; omega
theorem member_union_all (f g : Bool) (a b : List Int) (h : a.length + b.length ≤ 1000000000) : AM.Fn Tryz.prog 90 [.sl f (a.map .i), .sl g (b.map .i)] (.sl false ((unionI a b).map .i)) := by
  refine member_union f g a b zo fun k hk _ => ?_
  have := unionI_len a (b.take k)
  unfold unionI at this
  rw [List.length_take] at this
  exact insert_ints _ _ _ (bsI_le _ _) zo
theorem member_weights_all (f g : Bool) (a b : List WeightEntry) (h : a.length + b.length ≤ 1000000000) : AM.Fn Tryz.prog 91 [.sl f (a.map weV), .sl g (b.map weV)] (.sl false ((weightsI a b).map weV)) := by
  refine member_weights f g a b zo fun k hk _ => ?_
  have := weightsI_len a (b.take k)
  unfold weightsI at this
  rw [List.length_take] at this
  exact insert_we _ _ _ (bsW_le _ _) zo
end Go.Proofs
