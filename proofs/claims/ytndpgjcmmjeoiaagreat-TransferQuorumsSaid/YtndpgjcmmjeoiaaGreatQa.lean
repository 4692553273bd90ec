/- Package quorum: grid, a range over slices.Chunk's iterator, by the kit's laws. -/
import Derived.RangeFuncNested
import Derived.RangeFuncBound
import Derived.RangeFuncCalls
import Derived.RangeFuncLeaves
import Derived.RangeFuncBox
import Derived.Shelf.Abstract
import Derived.Shelf.RegionOpen
import Derived.WalkKit
import Derived.OwnWalkIn
import Derived.TacticsInMore
import Derived.LoopNIn
import Derived.LoopIn
import Derived.RegionIn
import Derived.Test.YtndpgjcmmjeoiaaGreatProg
set_option linter.unusedVariables false
set_option linter.unusedSimpArgs false
namespace Go.Proofs
open Go.RowKit Go.Shelf
attribute [local go_sem] Oper.semAt_some
set_option maxHeartbeats 1000000 in
theorem chunk_in (F : Fence) (n : Nat) (h5 : F.fn 241) (hro : F.round = none) (a : Option Addr) (len cap : Nat) (c : Int) (hc : 1 ≤ c) (w : World) :
    CallsIn F n Tryz.prog 241 #[.slice a len cap, .int .i64 c] w fun e w' => e = .returned (.func (.func 270) #[] #[.pointer (some ⟨w.heap.size, 0, none⟩), .pointer (some ⟨w.heap.size + 1, 0, none⟩)]) ∧
      w' = (w.alloc (.cells #[.slice a len cap] 209)).alloc (.cells #[.int .i64 c] 3) := by
  refine callsIn_of_wp Tryz.func241 rfl h5 ?_ hro
  simp only [Tryz.ntmps241, List.size_toArray, List.length_cons, List.length_nil, Nat.reduceAdd, Nat.reduceSub, Array.replicate_succ, Array.replicate_zero, List.push_toArray, List.append_toArray, List.nil_append, List.cons_append]
  gi_wp2
  go_ret
  exact ⟨rfl, rfl⟩
def gK (c len : Nat) : Nat := (len + c - 1) / c
theorem gK_lt {c len k : Nat} (hc : 1 ≤ c) : k < gK c len ↔ k * c < len := by
  unfold gK
  rw [Nat.lt_div_iff_mul_lt (by omega)]
  have := Nat.mul_comm c k
  constructor <;> intro h <;> omega
set_option maxRecDepth 100000 in
set_option maxHeartbeats 2000000 in
theorem chunk1_in (F : Fence) (n : Nat) (h7 : F.fn 270) (hro : F.round = none) (hn : 1 ≤ n) (l Bs Bn b off len cap c : Nat) (hlen : len ≤ 1000000) (hc : 1 ≤ c ∧ c ≤ 1000000) (hcap : len ≤ cap) (hcm : cap ≤ 9223372036854775807) (Kp : World → World → Prop) (hK1 : ∀ A B v, Kp A B → A.cell? ⟨Bs, 0, none⟩ = some v → B.cell? ⟨Bs, 0, none⟩ = some v) (hK2 : ∀ A B v, Kp A B → A.cell? ⟨Bn, 0, none⟩ = some v → B.cell? ⟨Bn, 0, none⟩ = some v) (J Jx : List Nat → World → Prop) (hJd : ∀ s W, J s W → J s W.drew)
    (hY : ∀ pre x W, J pre W → pre.length < gK c len → YieldAt F (n - 1) Tryz.prog l #[.slice (some ⟨b, off + x * c, none⟩) (min c (len - x * c)) (min c (len - x * c))] W fun e W' =>
      (e = .returned (.bool true) ∧ J (pre ++ [x]) W' ∧ Kp W W') ∨ (e = .returned (.bool false) ∧ Jx (pre ++ [x]) W'))
    (W : World) (hBs : W.cell? ⟨Bs, 0, none⟩ = some (.slice (some ⟨b, off, none⟩) len cap)) (hBn : W.cell? ⟨Bn, 0, none⟩ = some (.int .i64 c)) (h0 : J [] W) :
    CallsIn F n Tryz.prog 270 #[.func (.yield l) #[] #[], .pointer (some ⟨Bs, 0, none⟩), .pointer (some ⟨Bn, 0, none⟩)] W fun e W' => (∃ v, e = .returned v) ∧
      ((∃ ys, ys = List.range (gK c len) ∧ J ys W') ∨ (∃ pre, (∃ k, k ≤ gK c len ∧ pre = List.range k) ∧ Jx pre W')) := by
  refine callsIn_of_wp Tryz.func270 rfl h7 ?_ hro
  simp only [Tryz.ntmps270, List.size_toArray, List.length_cons, List.length_nil, Nat.reduceAdd, Nat.reduceSub, Array.replicate_succ, Array.replicate_zero, List.push_toArray, List.append_toArray, List.nil_append, List.cons_append]
  gi_wp2
  gi_loopw [4] (fun i wr => ∃ k : Nat, k ≤ gK c len ∧ i = .int .i64 ((k * c : Nat) : Int) ∧ J (List.range k) wr ∧ wr.cell? ⟨Bs, 0, none⟩ = some (.slice (some ⟨b, off, none⟩) len cap) ∧ wr.cell? ⟨Bn, 0, none⟩ = some (.int .i64 c))
    (fun i _ => len + c - (intOf i).toNat)
  case atStart => exact ⟨0, Nat.zero_le _, by simp, h0, hBs, hBn⟩
  case round =>
    obtain ⟨k, hk, rfl, hJs, hs, hnn⟩ := hrel
    by_cases hlt : k * c < len
    · have hkK := (gK_lt hc.1).2 hlt
      obtain ⟨fn, tmps, assign, body, hy, hR⟩ := hY _ k wr.drew (hJd _ _ hJs) (by rw [List.length_range]; exact hkK)
      have hmx : Tryz.prog.follows .mixedOrders = true := by kernel_rfl
      have e1 : len - k * c < c → (((k : Int) * (c : Int) + ((len - k * c : Nat) : Int)).toNat - k * c) = min c (len - k * c) := fun h => by omega
      have e2 : ¬ len - k * c < c → (((k : Int) * (c : Int) + (c : Int)).toNat - k * c) = min c (len - k * c) := fun h => by omega
      have e3 : (k + 1) * c = k * c + c := Nat.succ_mul k c
      have hk2 : k + 1 ≤ gK c len := by omega
      gi_wp2
      gi_region
      all_goals gi_wp2
      all_goals (refine hR.mono ?_)
      all_goals (rintro e W3 (⟨rfl, hJ3, hk3⟩ | ⟨rfl, hJx3⟩))
      all_goals first
        | (have hn3 := hK2 _ _ _ hk3 ((cell_drew_own wr ⟨Bn, 0, none⟩).trans hnn)
           have hs3 := hK1 _ _ _ hk3 ((cell_drew_own wr ⟨Bs, 0, none⟩).trans hs)
           gi_wp2
           go_roundw
           case rel => exact ⟨k + 1, hk2, by rw [e3]; simp, by rw [List.range_succ]; exact hJ3, hs3, hn3⟩
           case measure => simp [intOf]; omega
           done)
        | (gi_wp2
           refine bodyPost_ret (results_none rfl _ _ _) rfl ?_
           exact ⟨⟨_, rfl⟩, .inr ⟨_, ⟨k + 1, hk2, rfl⟩, by rw [List.range_succ]; exact hJx3⟩⟩)
        | trace_state
    · gi_wp2
      go_end0
      have : k = gK c len := by have : ¬ k < gK c len := fun q => hlt ((gK_lt hc.1).1 q); omega
      exact ⟨⟨_, rfl⟩, .inl ⟨_, rfl, this ▸ hJs⟩⟩
end Go.Proofs
