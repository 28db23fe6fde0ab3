/- The walk of the reference's None: a matrix of noughts. -/
import Derived.Test.YtijohedhbbddjaaR3
import Derived.Laws.OwnMore
namespace Go.Proofs.Ytijohedhbbddjaa
open Go.RowKit

/-- How None's memory stands: the result's block, the row. -/
structure NoneAt (w wr : World) (v : Value) (xs : List Int) : Prop where
  t : wr.heap[w.heap.size]? = some (.cells #[.int .i64 0, .int .i64 0, .slice none 0 0] 24 (0, 0))
  own : wr.ownsRow (w.heap.size + 1) 25 1 v xs.length (xs.map (Value.int .i64))
  below : Below w.heap.size w wr
theorem NoneAt.size {w wr : World} {v : Value} {xs : List Int} (h : NoneAt w wr v xs) : w.heap.size + 1 ≤ wr.heap.size := by
  have := lt_of_block h.t; omega
theorem NoneAt.ft {w wr : World} {v : Value} {xs : List Int} (h : NoneAt w wr v xs) (j : Nat) : wr.frozen? ⟨w.heap.size, j, none⟩ = false := frozen_of_row _ _ _ _ _ h.t
theorem none_start (w : World) : NoneAt w (w.alloc (.cells #[.int .i64 0, .int .i64 0, .slice none 0 0] 24)) (.slice none 0 0) [] :=
  ⟨heap_alloc_new _ _, World.ownsRow_nil _ _ _ _, below1 _ _⟩
theorem NoneAt.step {w w1 w2 : World} {v v' : Value} {xs : List Int} {x : Int} {o : Obj} (h : NoneAt w w1 v xs)
    (hown : w2.ownsRow (w.heap.size + 1) 25 1 v' (xs.length + 1) (xs.map (Value.int .i64) ++ [.int .i64 x])) (hg : (w1.alloc o).grownBy w2 v.ownBlock) : NoneAt w w2 v' (xs ++ [x]) := by
  have hs := h.size
  have hvb : ∀ k, v.ownBlock = some k → w.heap.size + 1 ≤ k := fun k hk => (h.own.lt k hk).1
  refine ⟨?_, ?_, ?_⟩
  · rw [hg.block _ (by simp; omega) (fun e => by have := hvb _ e.symm; omega), Below.heap_alloc _ _ _ (by omega)]; exact h.t
  · simpa only [List.length_append, List.length_cons, List.length_nil, Nat.zero_add, List.map_append, List.map_cons, List.map_nil] using hown
  · exact (h.below.alloc (by omega) o).grown hg (by simp; omega) (fun k hk => by have := hvb k hk; omega)

set_option maxRecDepth 100000 in
set_option maxHeartbeats 1000000 in
theorem none_any (w : World) (r c : Nat) (hr : r ≤ 8) (hc : c ≤ 8) :
    Calls Try.prog 77 #[.int .i64 r, .int .i64 c] w fun e w' =>
      ∃ ao cap, e = .returned (.agg #[.int .i64 r, .int .i64 c, .slice ao (r * c) cap]) ∧ w'.ownsRow w.heap.size 25 1 (.slice ao (r * c) cap) (r * c) ((List.replicate (r * c) (0 : Int)).map (Value.int .i64)) ∧ Below w.heap.size w w' := by
  obtain ⟨m, hm⟩ : ∃ m, r * c = m := ⟨_, rfl⟩
  have hm64 : m ≤ 64 := by rw [← hm]; exact Nat.mul_le_mul hr hc
  have hmi : ((r : Int) * (c : Int)) = (m : Int) := by rw [← hm]; simp
  obtain ⟨i0, hi, hz0, hz1, hz2⟩ := info_parts Try.infoQ
  rw [hm]
  clear hm
  go_enter Try.func77, Try.ntmps77
  go_wp2_with fail
  go_loopg [5, 6] m (fun n sv kv wr => ∃ k : Nat, k ≤ m ∧ n = m - k ∧ kv = .int .i64 k ∧ ∃ ao cap, sv = .slice ao k cap ∧ NoneAt w wr (.slice ao k cap) (List.replicate k 0))
  case atStart => exact ⟨0, by omega, by omega, rfl, none, 0, rfl, none_start w⟩
  case round =>
    obtain ⟨k, hk, rfl, rfl, ao, cap, rfl, hN⟩ := hrel
    have HN := Lib.hid hN
    have hsz := hN.size
    have ho := hN.own
    rw [List.length_replicate] at ho
    clear hN
    by_cases hlt : k < m
    · go_wp2_with (at_builtin; refine wpList_append_own _ rfl (.tmp 14) (.tmp 15) 22 rfl (w.heap.size + 1) 25 i0 (.int .i64 0) 1 8 Try.underlying22 hi hz0 hz1 hz2 rfl (by decide) _ _ _ rfl (ho.alloc _) ⟨wr.heap.size, 0, none⟩ 1 1 [.int .i64 0] rfl rfl (news1 _ _ _) (one1 _ _) (by unfold maxLen; omega) (by omega) (by simp; omega) ?_; intro v' w2 hown2 hgrow2 _; obtain ⟨ao', cap', rfl⟩ := ownsRow_form hown2)
      go_roundg (m - (k + 1))
      case measure => omega
      case rel =>
        refine ⟨k + 1, by omega, rfl, by go_num, ao', cap', rfl, ?_⟩
        have := HN.out.step (by rw [List.length_replicate]; exact hown2) hgrow2
        rw [List.replicate_succ']
        exact this
    · have hkm : k = m := by omega
      subst hkm
      have f0 := HN.out.ft 0
      have f1 := HN.out.ft 1
      have f2 := HN.out.ft 2
      have t0 := cell_of_row _ _ 0 _ _ _ HN.out.t
      have t1 := cell_of_row _ _ 1 _ _ _ HN.out.t
      have t2 := cell_of_row _ _ 2 _ _ _ HN.out.t
      simp only [List.getElem?_toArray, List.getElem?_cons_succ, List.getElem?_cons_zero] at t0 t1 t2
      go_wp2_with fail
      have g3 := heap_store3 _ _ _ _ _ (.int .i64 r) (.int .i64 c) (.slice ao k cap) _ HN.out.t
      refine bodyPost_ret (results_row rfl _ _ _ _ _ _ _ rfl g3 Try.underlying24 rfl (by kernel_rfl)) rfl ⟨ao, cap, rfl, ?_, ?_⟩
      · exact ownsRow_base (owns_set3 ho (by omega) _ _ _) (by omega)
      · exact below_set3 HN.out.below (by omega) _ _ _

end Go.Proofs.Ytijohedhbbddjaa
