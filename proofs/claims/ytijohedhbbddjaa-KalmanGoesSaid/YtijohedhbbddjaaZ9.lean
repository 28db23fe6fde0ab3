/- Texts of this claim, part 10: contracts of the functions that the law reaches. -/
import Derived.Test.YtijohedhbbddjaaZ2
namespace Go.Proofs.Ytijohedhbbddjaa
open Go.RowKit

/-- What a closure tells of the places (i, k). -/
def Tells (f : FuncId) (caps : Array Value) (w0 : World) (r c : Nat) (g : Nat → Nat → Int) (o : Nat → Nat → Bool) : Prop :=
  ∀ (i k : Nat) (w : World), i < r → k < c → Below w0.heap.size w0 w →
    Calls Try.prog f (#[.int .i64 i, .int .i64 k] ++ caps) w fun e w' => e = .returned (.tuple #[.int .i64 (g i k), .bool (o i k)]) ∧ Below w.heap.size w w'

def tab (g : Nat → Nat → Int) (c n : Nat) : List Int := (List.range n).map fun j => g (j / c) (j % c)
def tabO (o : Nat → Nat → Bool) (c n : Nat) : Bool := (List.range n).any fun j => o (j / c) (j % c)

theorem tab_length (g : Nat → Nat → Int) (c n : Nat) : (tab g c n).length = n := by simp [tab]
theorem tab_succ (g : Nat → Nat → Int) (c i k : Nat) (hk : k < c) : tab g c (i * c + k + 1) = tab g c (i * c + k) ++ [g i k] := by
  have h1 : (i * c + k) / c = i := by rw [Nat.mul_comm, Nat.mul_add_div (by omega), Nat.div_eq_of_lt hk]; rfl
  have h2 : (i * c + k) % c = k := by rw [Nat.mul_comm, Nat.mul_add_mod, Nat.mod_eq_of_lt hk]
  simp [tab, List.range_succ, h1, h2]
theorem tabO_succ (o : Nat → Nat → Bool) (c i k : Nat) (hk : k < c) : tabO o c (i * c + k + 1) = (tabO o c (i * c + k) || o i k) := by
  have h1 : (i * c + k) / c = i := by rw [Nat.mul_comm, Nat.mul_add_div (by omega), Nat.div_eq_of_lt hk]; rfl
  have h2 : (i * c + k) % c = k := by rw [Nat.mul_comm, Nat.mul_add_mod, Nat.mod_eq_of_lt hk]
  simp [tabO, List.range_succ, h1, h2]

theorem Try.infoQ : (Try.prog.info? 25).map (fun i => (i.zero, i.size, i.bytes)) = some (some (.int .i64 0), 1, 8) := by kernel_rfl

/-- How made's memory stands: the size's block, the result's, the matrix's. -/
structure MadeAt (w wr : World) (r c : Nat) (v : Value) (xs : List Int) : Prop where
  s : wr.heap[w.heap.size]? = some (.cells #[.int .i64 r, .int .i64 c] 92 (0, 0))
  t : wr.heap[w.heap.size + 1]? = some (.cells #[.int .i64 0, .int .i64 0, .slice none 0 0] 24 (0, 0))
  m : wr.heap[w.heap.size + 1 + 1]? = some (.cells #[.int .i64 r, .int .i64 c, v] 24 (0, 0))
  own : wr.ownsRow (w.heap.size + 3) 25 1 v xs.length (xs.map (Value.int .i64))
  below : Below w.heap.size w wr

theorem MadeAt.later {w wr wx : World} {r c : Nat} {v : Value} {xs : List Int} (h : MadeAt w wr r c v xs) (hb : Below wr.heap.size wr wx) : MadeAt w wx r c v xs :=
  ⟨block_later h.s hb, block_later h.t hb, block_later h.m hb, ownsRow_later h.own hb, h.below.trans (hb.mono h.below.size)⟩
theorem MadeAt.c2 {w wr : World} {r c : Nat} {v : Value} {xs : List Int} (h : MadeAt w wr r c v xs) : wr.cell? ⟨w.heap.size + 1 + 1, 2, none⟩ = some v := by rw [cell_of_row _ _ _ _ _ _ h.m]; rfl
theorem MadeAt.c0 {w wr : World} {r c : Nat} {v : Value} {xs : List Int} (h : MadeAt w wr r c v xs) : wr.cell? ⟨w.heap.size + 1 + 1, 0, none⟩ = some (.int .i64 r) := by rw [cell_of_row _ _ _ _ _ _ h.m]; rfl
theorem MadeAt.c1 {w wr : World} {r c : Nat} {v : Value} {xs : List Int} (h : MadeAt w wr r c v xs) : wr.cell? ⟨w.heap.size + 1 + 1, 1, none⟩ = some (.int .i64 c) := by rw [cell_of_row _ _ _ _ _ _ h.m]; rfl
theorem MadeAt.t0 {w wr : World} {r c : Nat} {v : Value} {xs : List Int} (h : MadeAt w wr r c v xs) : wr.cell? ⟨w.heap.size + 1, 0, none⟩ = some (.int .i64 0) := by rw [cell_of_row _ _ _ _ _ _ h.t]; rfl
theorem MadeAt.t1 {w wr : World} {r c : Nat} {v : Value} {xs : List Int} (h : MadeAt w wr r c v xs) : wr.cell? ⟨w.heap.size + 1, 1, none⟩ = some (.int .i64 0) := by rw [cell_of_row _ _ _ _ _ _ h.t]; rfl
theorem MadeAt.t2 {w wr : World} {r c : Nat} {v : Value} {xs : List Int} (h : MadeAt w wr r c v xs) : wr.cell? ⟨w.heap.size + 1, 2, none⟩ = some (.slice none 0 0) := by rw [cell_of_row _ _ _ _ _ _ h.t]; rfl
theorem MadeAt.ft {w wr : World} {r c : Nat} {v : Value} {xs : List Int} (h : MadeAt w wr r c v xs) (j : Nat) : wr.frozen? ⟨w.heap.size + 1, j, none⟩ = false := frozen_of_row _ _ _ _ _ h.t
theorem MadeAt.f2 {w wr : World} {r c : Nat} {v : Value} {xs : List Int} (h : MadeAt w wr r c v xs) : wr.frozen? ⟨w.heap.size + 1 + 1, 2, none⟩ = false := frozen_of_row _ _ _ _ _ h.m
theorem MadeAt.s0 {w wr : World} {r c : Nat} {v : Value} {xs : List Int} (h : MadeAt w wr r c v xs) : wr.cell? ⟨w.heap.size, 0, none⟩ = some (.int .i64 r) := by rw [cell_of_row _ _ _ _ _ _ h.s]; rfl
theorem MadeAt.s1 {w wr : World} {r c : Nat} {v : Value} {xs : List Int} (h : MadeAt w wr r c v xs) : wr.cell? ⟨w.heap.size, 1, none⟩ = some (.int .i64 c) := by rw [cell_of_row _ _ _ _ _ _ h.s]; rfl
theorem MadeAt.size {w wr : World} {r c : Nat} {v : Value} {xs : List Int} (h : MadeAt w wr r c v xs) : w.heap.size + 3 ≤ wr.heap.size := by
  have := lt_of_block h.m; omega
/-- Behind the append and the store. -/
theorem MadeAt.step {w w1 w2 : World} {r c : Nat} {v v' : Value} {xs : List Int} {x : Int} {o : Obj} (h : MadeAt w w1 r c v xs)
    (hown : w2.ownsRow (w.heap.size + 3) 25 1 v' (xs.length + 1) (xs.map (Value.int .i64) ++ [.int .i64 x])) (hg : (w1.alloc o).grownBy w2 v.ownBlock) :
    MadeAt w (w2.setCell ⟨w.heap.size + 1 + 1, 2, none⟩ v') r c v' (xs ++ [x]) := by
  have hs := h.size
  have hvb : ∀ k, v.ownBlock = some k → w.heap.size + 3 ≤ k := fun k hk => (h.own.lt k hk).1
  have keep : ∀ b ob, w1.heap[b]? = some ob → b < w.heap.size + 3 → w2.heap[b]? = some ob := by
    intro b ob hb hlt
    have h1 : (w1.alloc o).heap[b]? = some ob := by rw [Below.heap_alloc _ _ _ (by omega)]; exact hb
    rw [hg.block b (by simp; omega) (fun e => by have := hvb b e.symm; omega)]; exact h1
  refine ⟨?_, ?_, ?_, ?_, ?_⟩
  · rw [heap_setCell_other _ _ _ _ (by simp; omega)]; exact keep _ _ h.s (by omega)
  · rw [heap_setCell_other _ _ _ _ (by simp)]; exact keep _ _ h.t (by omega)
  · rw [heap_setCell_same _ _ _ _ _ _ (keep _ _ h.m (by omega))]; rfl
  · simp only [List.length_append, List.length_cons, List.length_nil, Nat.zero_add, List.map_append, List.map_cons, List.map_nil]
    exact ownsRow_setCell_below hown (by simp) _
  · exact ((h.below.alloc (by omega) o).grown hg (by simp; omega) (fun k hk => by have := hvb k hk; omega)).setCell (by simp; omega) _

theorem made_start (w : World) (r c : Nat) : MadeAt w (((w.alloc (.cells #[.int .i64 r, .int .i64 c] 92)).alloc (.cells #[.int .i64 0, .int .i64 0, .slice none 0 0] 24)).alloc (.cells #[.int .i64 r, .int .i64 c, .slice none 0 0] 24)) r c (.slice none 0 0) [] := by
  refine ⟨?_, ?_, ?_, World.ownsRow_nil _ _ _ _, ((below1 w _).alloc (by simp) _).alloc (by simp; omega) _⟩
  · rw [Below.heap_alloc _ _ _ (by simp; omega), Below.heap_alloc _ _ _ (by simp), heap_alloc_new]
  · rw [Below.heap_alloc _ _ _ (by simp)]; have := heap_alloc_new (w.alloc (.cells #[.int .i64 r, .int .i64 c] 92)) (.cells #[.int .i64 0, .int .i64 0, .slice none 0 0] 24); simpa using this
  · have := heap_alloc_new ((w.alloc (.cells #[.int .i64 r, .int .i64 c] 92)).alloc (.cells #[.int .i64 0, .int .i64 0, .slice none 0 0] 24)) (.cells #[.int .i64 r, .int .i64 c, .slice none 0 0] 24); simpa using this

theorem MadeAt.grown {w w1 w2 : World} {r c : Nat} {v : Value} {xs : List Int} {o : Obj} (h : MadeAt w w1 r c v xs) (hg : (w1.alloc o).grownBy w2 v.ownBlock) :
    w2.heap[w.heap.size + 1 + 1]? = some (.cells #[.int .i64 r, .int .i64 c, v] 24 (0, 0)) := by
  have hs := h.size
  have hvb : ∀ k, v.ownBlock = some k → w.heap.size + 3 ≤ k := fun k hk => (h.own.lt k hk).1
  rw [hg.block _ (by simp; omega) (fun e => by have := hvb _ e.symm; omega), Below.heap_alloc _ _ _ (by omega)]
  exact h.m

set_option maxRecDepth 100000 in
set_option maxHeartbeats 1000000 in
theorem made_any (f : FuncId) (caps : Array Value) (w : World) (r c : Nat) (g : Nat → Nat → Int) (o : Nat → Nat → Bool) (hr : r ≤ 8) (hc : c ≤ 8) (he : Enters f) (ht : Tells f caps w r c g o) :
    Calls Try.prog 69 #[.agg #[.int .i64 r, .int .i64 c], .func (.func f) #[] caps] w fun e w' =>
      ∃ ao cap, e = .returned (.tuple #[.agg #[.int .i64 r, .int .i64 c, .slice ao (r * c) cap], .bool (tabO o c (r * c))]) ∧ w'.ownsRow w.heap.size 25 1 (.slice ao (r * c) cap) (r * c) ((tab g c (r * c)).map (Value.int .i64)) ∧ Below w.heap.size w w' := by
  have HT := Lib.hid ht
  clear ht
  have hrc : r * c ≤ 64 := Nat.mul_le_mul hr hc
  obtain ⟨i0, hi, hz0, hz1, hz2⟩ := info_parts Try.infoQ
  go_enter Try.func69, Try.ntmps69
  go_wp2_with fail
  go_loopg [7, 19] r (fun n od iv wr => ∃ i : Nat, i ≤ r ∧ n = r - i ∧ iv = .int .i64 i ∧ od = .bool (tabO o c (i * c)) ∧ ∃ ao cap, MadeAt w wr r c (.slice ao (i * c) cap) (tab g c (i * c)))
  case atStart => exact ⟨0, by omega, by omega, rfl, by simp [tabO], none, 0, by simpa [tab] using made_start w r c⟩
  case round =>
    obtain ⟨i, hi1, rfl, rfl, rfl, ao, cap, hM⟩ := hrel
    have HM := Lib.hid hM
    have hs1 := hM.s1
    clear hM
    by_cases hlt : i < r
    · go_wp2_with fail
      go_loopg [7, 24] c (fun n od kv wr => ∃ k : Nat, k ≤ c ∧ n = c - k ∧ kv = .int .i64 k ∧ od = .bool (tabO o c (i * c + k)) ∧ ∃ ao cap, MadeAt w wr r c (.slice ao (i * c + k) cap) (tab g c (i * c + k)))
      case atStart => exact ⟨0, by omega, by omega, rfl, rfl, ao, cap, HM.out⟩
      case round =>
        obtain ⟨k, hk1, rfl, rfl, rfl, ao, cap, hM⟩ := hrel
        have HM := Lib.hid hM
        clear hM
        by_cases hk : k < c
        · have hc2 := HM.out.c2
          have hL : (tab g c (i * c + k)).length + 1 ≤ 64 := by rw [tab_length]; have := Nat.mul_le_mul_right c (show i + 1 ≤ r by omega); rw [Nat.add_mul] at this; omega
          have hsz := HM.out.size
          go_wp2_with (first | (refine wpList_call_value rfl (.tmp 28) _ _ rfl f caps rfl he _ rfl ?_; refine (HT.out i k _ hlt hk HM.out.below).mono ?_; rintro e w1 ⟨rfl, hb1⟩; have hc2 := (HM.out.later hb1).c2; have hf2 := (HM.out.later hb1).f2; have ho2 := ownsRow_later HM.out.own hb1; have hsz1 := (HM.out.later hb1).size) | (at_builtin; refine wpList_append_own _ rfl (.tmp 35) (.tmp 37) 22 rfl (w.heap.size + 3) 25 i0 (.int .i64 0) 1 8 Try.underlying22 hi hz0 hz1 hz2 rfl (by decide) _ _ _ rfl (ho2.alloc _) ⟨w1.heap.size, 0, none⟩ 1 1 [.int .i64 (g i k)] rfl rfl (news1 _ _ _) (one1 _ _) (by unfold maxLen; omega) (by omega) (by simp; omega) ?_; intro v' w2 hown2 hgrow2 _; obtain ⟨ao', cap', rfl⟩ := ownsRow_form hown2; have hg3 := (HM.out.later hb1).grown hgrow2; have hf3 := frozen_of_row _ _ 2 _ _ hg3; have hc3 := cell_of_row _ _ 2 _ _ _ hg3; simp only [List.getElem?_toArray, List.getElem?_cons_succ, List.getElem?_cons_zero] at hc3; clear ho2 hg3))
          all_goals
            go_roundg (c - (k + 1))
            case measure => omega
            case rel =>
              refine ⟨k + 1, by omega, rfl, by go_num, ?_, ao', cap', ?_⟩
              · rw [← Nat.add_assoc, tabO_succ _ _ _ _ hk]; simp [*]
              · have := (HM.out.later hb1).step hown2 hgrow2
                rw [← Nat.add_assoc, tab_succ _ _ _ _ hk]
                simpa only [tab_length] using this
        · have hkc : k = c := by omega
          subst hkc
          go_wp2_with fail
          go_roundg (r - (i + 1))
          case measure => omega
          case rel => exact ⟨i + 1, by omega, rfl, by go_num, by rw [Nat.add_mul, Nat.one_mul], ao, cap, by rw [Nat.add_mul, Nat.one_mul]; exact HM.out⟩
    · have hir : i = r := by omega
      subst hir
      have t0 := HM.out.t0
      have t1 := HM.out.t1
      have t2 := HM.out.t2
      have c0 := HM.out.c0
      have c1 := HM.out.c1
      have c2 := HM.out.c2
      have f0 := HM.out.ft 0
      have f1 := HM.out.ft 1
      have f2 := HM.out.ft 2
      go_wp2_with fail
      have g1 := heap_setCell_same _ _ 0 _ _ (.int .i64 i) HM.out.t
      have g2 := heap_setCell_same _ _ 1 _ _ (.int .i64 c) g1
      have g3 := heap_setCell_same _ _ 2 _ _ (.slice ao (i * c) cap) g2
      refine bodyPost_ret (results_row1 rfl _ _ _ _ _ _ _ rfl g3 Try.underlying24 rfl (by kernel_rfl)) rfl ⟨ao, cap, rfl, ?_, ?_⟩
      · have := HM.out.own
        rw [tab_length] at this
        exact ownsRow_base (ownsRow_setCell_below (ownsRow_setCell_below (ownsRow_setCell_below this (by simp) _) (by simp) _) (by simp) _) (by omega)
      · exact ((HM.out.below.setCell (by simp) _).setCell (by simp) _).setCell (by simp) _

end Go.Proofs.Ytijohedhbbddjaa
