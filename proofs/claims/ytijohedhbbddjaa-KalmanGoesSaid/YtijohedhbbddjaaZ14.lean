/- Texts of this claim, part 15: contracts of the functions that the law reaches. -/
import Derived.Test.YtijohedhbbddjaaZ13
import Derived.Laws.CopyOwn
import Derived.Deep.RegionLaw
namespace Go.Proofs.Ytijohedhbbddjaa
open Go.RowKit

set_option maxHeartbeats 1000000 in
theorem bmul_small (n : Int) (w : World) (h0 : 0 ≤ n) (h8 : n ≤ 8) :
    Calls Try.prog 115 #[.int .u64 1, .int .u64 n] w fun e w' => e = .returned (.tuple #[.int .u64 0, .int .u64 n]) ∧ w = w' := by
  have e1 : n / 18446744073709551616 = 0 := by omega
  have e2 : n % 18446744073709551616 = n := by omega
  have hc := mul64_any 1 n w (by omega) (by omega) (by omega) (by omega)
  rw [Int.one_mul, e1, e2] at hc
  have HC := Lib.hid hc
  clear hc e1 e2
  go_enter Try.func115, Try.ntmps115
  go_wp2_with (go_at_call 83; refine HC.out.mono ?_; rintro e w' ⟨rfl, rfl⟩)
  go_ret2
  exact ⟨rfl, rfl⟩

theorem retVal {k : IntKind} {a b : Int} (h : a = b) : Value.int k a = .int k b := by rw [h]
def repRow (n k : Nat) : List Value := List.replicate k (.int .i64 16777216) ++ List.replicate (n - k) (.int .i64 0)
theorem repRow_len {n k : Nat} (h : k ≤ n) : (repRow n k).length = n := by simp [repRow]; omega
theorem repRow_splice {n k m : Nat} (h : k + m ≤ n) : splice (repRow n k) k (List.replicate m (.int .i64 16777216)) = repRow n (k + m) := by
  unfold splice repRow
  rw [List.take_left' (by simp), List.drop_append, List.length_replicate, List.length_replicate, List.drop_eq_nil_of_le (by simp), List.nil_append, List.drop_replicate, ← List.append_assoc, List.replicate_append_replicate]
  congr 2
  omega
theorem rep_cells {w : World} {b m : Nat} {v : Value} (h : ∀ i, i < m → w.cell? ⟨b, i, none⟩ = some v) : ∀ j u, (List.replicate m v)[j]? = some u → w.cell? ((⟨b, 0, none⟩ : Addr).add j) = some u := by
  intro j u hj
  rw [List.getElem?_replicate] at hj
  split at hj
  · rename_i hlt
    cases hj
    have := h j hlt
    have e : (⟨b, 0, none⟩ : Addr).add j = ⟨b, j, none⟩ := by unfold Addr.add; split <;> simp_all
    rw [e]; exact this
  · cases hj
theorem rep_one (m : Nat) (x : Int) : ∀ u ∈ List.replicate m (Value.int .i64 x), u.oneCell' = true := by
  intro u hu
  rw [List.eq_of_mem_replicate hu]
  simp [Value.oneCell']
theorem own_full {w : World} {base : Nat} {e : TypeId} {g n : Nat} {xs : List Value} (h : w.ownsRow base e 1 (.slice (some ⟨g, 0, none⟩) n n) n xs) : w.heap[g]? = some (.cells xs.toArray e (0, 0)) := by
  rcases h.2 with ⟨h', _⟩ | ⟨g', cap', cur, h', _, hg, hnc, hcm, hcs, htake⟩
  · simp at h'
  · simp only [Value.slice.injEq, Option.some.injEq, Addr.mk.injEq, and_true, true_and] at h'
    obtain ⟨rfl, rfl⟩ := h'
    rw [← htake, List.take_of_length_le (by simp [hcs])]
    simpa using hg

set_option maxRecDepth 100000 in
set_option maxHeartbeats 1000000 in
theorem repeat_any (w : World) (n b : Nat) (h1 : 1 ≤ n) (h8 : n ≤ 8) (hb : w.heap[b]? = some (.cells #[.int .i64 16777216] 25 (0, 0))) :
    Calls Try.prog 86 #[.slice (some ⟨b, 0, none⟩) 1 1, .int .i64 n] w fun e w' =>
      ∃ g, e = .returned (.slice (some ⟨g, 0, none⟩) n n) ∧ QS w' (.slice (some ⟨g, 0, none⟩) n n) (List.replicate n 16777216) ∧ Below w.heap.size w w' := by
  obtain ⟨i0, hi, hz0, hz1, hz2⟩ := info_parts Try.infoQ
  have hn1 : (1 : Int) ≤ (n : Int) := by omega
  have hn8 : (n : Int) ≤ 8 := by omega
  have hbs : b < w.heap.size := lt_of_block hb
  have HB := Lib.hid hb
  clear hb
  go_enter Try.func86, Try.ntmps86
  go_upto_region 7 with (first | (go_at_call 115; refine (bmul_small n _ (by omega) (by omega)).mono ?_; rintro e w1 ⟨rfl, rfl⟩) | (refine wpList_make_full _ rfl _ _ 22 rfl w.heap.size 25 i0 (.int .i64 0) 1 Try.underlying22 hi hz0 hz1 .i64 .i64 n n n rfl rfl rfl rfl (by rw [hz2]; omega) (by unfold maxLen; omega) (Nat.le_refl _) ?_; intro w2 hown2 hgrow2))
  have hg0 : w2.heap[w.heap.size]? = some (.cells (repRow n 0).toArray 25 (0, 0)) := by
    have := own_full hown2
    rw [show (madeCells (Value.int IntKind.i64 0).cells (n * 1)).toList = List.replicate n (Value.int .i64 0) by rw [Nat.mul_one]; exact toList_madeCells_one _ _] at this
    simpa [repRow] using this
  have HB2 : Hid (w2.heap[b]? = some (.cells #[.int .i64 16777216] 25 (0, 0))) := by rw [hgrow2.block b hbs (by simp)]; exact HB.out
  have hbel2 : Below w.heap.size w w2 := Below.grown (Below.refl _ _) hgrow2 (Nat.le_refl _) (by simp)
  clear hown2 hgrow2
  have hsrc : ∀ j u, (List.replicate 1 (Value.int .i64 16777216))[j]? = some u → w2.cell? ((⟨b, 0, none⟩ : Addr).add j) = some u := by
    refine rep_cells fun i hi => ?_
    have h0 : i = 0 := by omega
    rw [h0, cell_of_row _ _ _ _ _ _ HB2.out]; rfl
  have hmin : (List.replicate 1 (Value.int .i64 16777216)).length = Nat.min 1 n := by rw [List.length_replicate]; show 1 = min 1 n; omega
  have hfit : 0 + (List.replicate 1 (Value.int .i64 16777216)).length ≤ (repRow n 0).length := by rw [repRow_len (by omega), List.length_replicate]; omega
  go_upto_region 8 with (refine wpList_copy_splice rfl _ _ 22 22 rfl 25 Try.underlying22 (by kernel_rfl) (some ⟨w.heap.size, 0, none⟩) (some ⟨b, 0, none⟩) n n 1 1 rfl rfl w.heap.size 0 (repRow n 0) 25 hg0 (List.replicate 1 (.int .i64 16777216)) hmin (fun _ => ⟨rfl, _, rfl, hsrc⟩) hfit (rep_one _ _) w.heap.size w hbel2 (Nat.le_refl _) ?_; intro w3 hg3 hb3)
  have hg3 : w3.heap[w.heap.size]? = some (.cells (repRow n 1).toArray 25 (0, 0)) := by have := hg3.out; rw [repRow_splice (by omega)] at this; exact this
  clear hg0 hsrc hmin hfit hbel2 HB2
  go_loopg [8] (n - 1) (fun m kv wr => ∃ k : Nat, 1 ≤ k ∧ k ≤ n ∧ m = n - k ∧ kv = .int .i64 k ∧ wr.heap[w.heap.size]? = some (.cells (repRow n k).toArray 25 (0, 0)) ∧ Below w.heap.size w wr)
  case atStart => exact ⟨1, by omega, by omega, by omega, rfl, hg3, hb3⟩
  case round =>
    clear hg3 hb3
    obtain ⟨k, hk1, hk, rfl, rfl, hgr, hbr⟩ := hrel
    by_cases hlt : k < n
    · have hk0 : (0 : Int) ≤ (k : Int) := by omega
      have hkn : (k : Int) ≤ (n : Int) := by omega
      have hkl : (k : Int) < (n : Int) := by omega
      have hkk : (k : Int) = ((k : Nat) : Int) := rfl
      obtain ⟨m, hm⟩ : ∃ m, m = Nat.min k (n - k) := ⟨_, rfl⟩
      have hm' : m = min k (n - k) := hm
      have hmk : m ≤ k := by omega
      have hmn : k + m ≤ n := by omega
      have hm1 : 1 ≤ m := by omega
      clear hm'
      have hnk : (n = k) = False := by simp; omega
      have hmi0 : (0 : Int) ≤ (m : Int) := by omega
      have hmi : (k : Int) + (m : Int) ≤ (n : Int) := by omega
      have hsrc : ∀ j u, (List.replicate m (Value.int .i64 16777216))[j]? = some u → wr.cell? ((⟨w.heap.size, 0, none⟩ : Addr).add j) = some u := by
        refine rep_cells fun i hi => ?_
        rw [cell_of_row _ _ _ _ _ _ hgr]
        have hik : i < k := by omega
        simp [repRow, hik, List.getElem?_append_left]
      have hmin : (List.replicate m (Value.int .i64 16777216)).length = Nat.min k (n - k) := by rw [List.length_replicate]; exact hm
      clear hm
      have HMIN := Lib.hid hmin
      clear hmin
      have hfit : k + (List.replicate m (Value.int .i64 16777216)).length ≤ (repRow n k).length := by rw [repRow_len hk, List.length_replicate]; omega
      go_wp2_with fail
      have hbd : Below w.heap.size w wr.drew := hbr.drew
      go_region_law (refine step_copy_splice rfl (Operand.tmp 41) (Operand.tmp 44) 22 22 rfl 25 Try.underlying22 (by kernel_rfl) (some ⟨w.heap.size, k, none⟩) (some ⟨w.heap.size, 0, none⟩) (n - k) (n - k) k n (by simp [Act.eval, Act.put]) (by simp [Act.eval, Act.put]) w.heap.size k (repRow n k) 25 hgr (List.replicate m (.int .i64 16777216)) HMIN.out (fun _ => ⟨rfl, _, rfl, hsrc⟩) hfit (rep_one _ _) w.heap.size w hbd (Nat.le_refl _) ?_; intro w4 hg4 hb4)
      have hg4 := hg4.out
      rw [repRow_splice hmn] at hg4
      go_wp2_with fail
      go_roundg (n - (k + m))
      case measure => omega
      case rel => exact ⟨k + m, by omega, hmn, rfl, retVal (IntWalk.i64_in _ ⟨by omega, by omega⟩), hg4, hb4⟩
    · have hkn : k = n := by omega
      subst hkn
      go_wp2_with fail
      go_ret
      have hq : wr.heap[w.heap.size]? = some (.cells (List.replicate k (Value.int .i64 16777216)).toArray 25 (0, 0)) := by rw [hgr]; simp [repRow]
      refine ⟨w.heap.size, rfl, ⟨some ⟨w.heap.size, 0, none⟩, k, by simp, by simp, fun i x hi => ⟨_, _, rfl, ?_⟩⟩, hbr⟩
      rw [List.getElem?_replicate] at hi
      split at hi
      · cases hi
        rw [Nat.zero_add, cell_of_row _ _ _ _ _ _ hq]
        simp [‹i < k›]
      · cases hi

end Go.Proofs.Ytijohedhbbddjaa

namespace Go.Proofs.Ytijohedhbbddjaa
open Go.RowKit

theorem eyeR_no {n : Int} (h : n < 1 ∨ 8 < n) : eyeR n = ⟨0, 0, [], false, 1⟩ := by
  unfold eyeR diagR
  rw [if_neg]
  rw [List.length_replicate]
  rintro ⟨h1, h8, -⟩
  unfold eyeN at h1 h8
  repeat' split at h1
  all_goals first | omega | (split at h8 <;> first | omega | (split at h8 <;> omega))

set_option maxRecDepth 100000 in
set_option maxHeartbeats 1000000 in
theorem eye_any (w : World) (n : Int) : Calls Try.prog 28 #[.int .i64 n] w (Gives1 (eyeR n) w) := by
  by_cases hok : 1 ≤ n ∧ n ≤ 8
  · obtain ⟨k, rfl⟩ : ∃ k : Nat, n = k := ⟨n.toNat, by omega⟩
    obtain ⟨hk1, hk8⟩ := hok
    have h1 : 1 ≤ k := by omega
    have h8 : k ≤ 8 := by omega
    have he : eyeR (k : Int) = diagR (List.replicate k 16777216) := by
      unfold eyeR
      have : eyeN (k : Int) = k := by unfold eyeN; rw [if_neg (by omega), if_neg (by omega)]; omega
      rw [this]
    rw [he]
    clear he
    obtain ⟨pr, hpr⟩ : ∃ p, diagR (List.replicate k 16777216) = p := ⟨_, rfl⟩
    have HPR := Lib.hid hpr
    rw [hpr]
    clear hpr
    go_enter Try.func28, Try.ntmps28
    go_upto_region 3 with fail
    have hR0 : Hid ((w.alloc (.cells #[.int .i64 0, .int .i64 0, .slice none 0 0] 24)).heap[w.heap.size]? = some (.cells #[.int .i64 0, .int .i64 0, .slice none 0 0] 24 (0, 0))) := heap_at _ _ _ rfl
    obtain ⟨W0, hW0⟩ : ∃ W0, W0 = w.alloc (.cells #[.int .i64 0, .int .i64 0, .slice none 0 0] 24) := ⟨_, rfl⟩
    have hB0 : Hid (Below w.heap.size w W0) := by rw [hW0]; exact below1 _ _
    have hs0 : W0.heap.size = w.heap.size + 1 := by rw [hW0]; simp
    rw [← hW0] at hR0 ⊢
    clear hW0
    have HS0 := Lib.hid hs0
    clear hs0
    go_wp2_with (first | (go_at_call 86; go_loud (refine (repeat_any _ k W0.heap.size h1 h8 (heap_at _ _ _ rfl)).mono ?_; rintro e w1 ⟨g, rfl, hq1, hb1⟩)) | (go_at_call 30; refine (diag_any _ _ (List.replicate k 16777216) hq1 (by rw [List.length_replicate]; omega)).mono ?_; rw [HPR.out]; rintro e w2 ⟨ao2, cap2, rfl, hown2, hb2⟩; have hbb := below_trans2 (below_trans2 (below1 _ _) hb1) hb2; have hR := block_later hR0.out hbb; have t0 := cell_of_row _ _ 0 _ _ _ hR; have t1 := cell_of_row _ _ 1 _ _ _ hR; have t2 := cell_of_row _ _ 2 _ _ _ hR; have f0 := frozen_of_row _ _ 0 _ _ hR; have f1 := frozen_of_row _ _ 1 _ _ hR; have f2 := frozen_of_row _ _ 2 _ _ hR))
    have hz := hb1.size
    have hz0 := HS0.out
    refine bodyPost_ret (results_row1 rfl _ _ _ _ _ _ _ rfl (heap_store3 _ _ _ _ _ (.int .i64 pr.r) (.int .i64 pr.c) (.slice ao2 pr.xs.length cap2) _ hR) Try.underlying24 rfl (by kernel_rfl)) rfl ⟨ao2, cap2, rfl, ?_, ?_⟩
    · exact ownsRow_base (owns_set3 hown2 (by simp at hz; omega) _ _ _) (by simp at hz; omega)
    · exact below_set3 (below_trans2 hB0.out hbb) (by omega) _ _ _
  · rw [eyeR_no (by omega)]
    by_cases h1 : n < 1
    · clear hok
      go_enter Try.func28, Try.ntmps28
      go_wp2_with fail
      refine bodyPost_ret (results_row1 rfl _ _ _ _ _ _ _ rfl (heap_at _ _ _ (by simp)) Try.underlying24 rfl (by kernel_rfl)) rfl (gives1_no _ _ (below1 _ _))
    · have h8 : 8 < n := by omega
      clear hok
      go_enter Try.func28, Try.ntmps28
      go_wp2_with fail
      refine bodyPost_ret (results_row1 rfl _ _ _ _ _ _ _ rfl (heap_at _ _ _ (by simp)) Try.underlying24 rfl (by kernel_rfl)) rfl (gives1_no _ _ (below1 _ _))

end Go.Proofs.Ytijohedhbbddjaa
