/- Texts of this claim, part 20: contracts of the functions that the law reaches. -/
import Derived.Test.YtijohedhbbddjaaZ8
import Derived.Deep.RegionHeld3
namespace Go.Proofs.Ytijohedhbbddjaa
open Go.RowKit

theorem cells_but {w : World} {fb : Nat} {a : Addr} {v : Value} (h : w.cell? a = some v) (hn : a.block ≠ fb) : ∀ w', But fb w w' → w'.cell? a = some v := fun w' hb => by
  obtain ⟨o, ho⟩ : ∃ o, w.heap[a.block]? = some o := by
    cases ho : w.heap[a.block]? with
    | some o => exact ⟨o, rfl⟩
    | none => unfold World.cell? at h; rw [ho] at h; cases h
  have h2 := hb.row ho hn
  rw [← h]
  exact World.cell?_of_block (h2.trans ho.symm)

def trmQ (x y : Int) (m : Bool) : Int := if m = true then subQ 0 (mulQ x y) else mulQ x y
def trmO (x y : Int) (m : Bool) : Bool := mulO x y || (m && subO 0 (mulQ x y))

set_option maxRecDepth 100000 in
set_option maxHeartbeats 1000000 in
theorem term_any (w : World) (fb pb qb i j : Nat) (b : Bool) (s x y : Int) (hi : i < 4) (hj : j < 4) (h : Fl w fb b) (hp : w.cell? ⟨pb, i, none⟩ = some (.int .i64 x)) (hq : w.cell? ⟨qb, j, none⟩ = some (.int .i64 y)) (hpn : pb ≠ fb) (hqn : qb ≠ fb) :
    Calls Try.prog 95 #[.agg #[.int .i64 i, .int .i64 j, .int .i64 s], .pointer (some ⟨fb, 0, none⟩), .pointer (some ⟨pb, 0, none⟩), .pointer (some ⟨qb, 0, none⟩)] w (Flags fb w (trmQ x y (decide (s < 0))) (b || trmO x y (decide (s < 0)))) := by
  obtain ⟨z, hz⟩ : ∃ z, mulQ x y = z := ⟨_, rfl⟩
  obtain ⟨o, ho⟩ : ∃ o, mulO x y = o := ⟨_, rfl⟩
  have HM := Lib.hid (And.intro hz ho)
  unfold trmQ trmO
  rw [hz, ho]
  clear hz ho
  obtain ⟨z', hz'⟩ : ∃ z', subQ 0 z = z' := ⟨_, rfl⟩
  obtain ⟨o', ho'⟩ : ∃ o, subO 0 z = o := ⟨_, rfl⟩
  have HM' := Lib.hid (And.intro hz' ho')
  rw [hz', ho']
  clear hz' ho'
  have hi0 : (0 : Int) ≤ i := by omega
  have hi4 : (i : Int) < 4 := by omega
  have hj0 : (0 : Int) ≤ j := by omega
  have hj4 : (j : Int) < 4 := by omega
  have hsz : fb < w.heap.size := lt_of_block h
  obtain ⟨W0, hW0⟩ : ∃ W0, W0 = w.alloc (.cells #[.int .i64 i, .int .i64 j, .int .i64 s] 114) := ⟨_, rfl⟩
  have HF : Hid (Fl W0 fb b) := by rw [hW0]; exact h.later (below1 _ _)
  have HB : Hid (But fb w W0) := by rw [hW0]; exact (But.refl fb w).alloc _
  have r0 := cells_but (fb := fb) (w := W0) (a := ⟨w.heap.size, 0, none⟩) (v := .int .i64 i) (by rw [hW0]; simp [go_sem]) (show w.heap.size ≠ fb by omega)
  have r1 := cells_but (fb := fb) (w := W0) (a := ⟨w.heap.size, 1, none⟩) (v := .int .i64 j) (by rw [hW0]; simp [go_sem]) (show w.heap.size ≠ fb by omega)
  have r2 := cells_but (fb := fb) (w := W0) (a := ⟨w.heap.size, 2, none⟩) (v := .int .i64 s) (by rw [hW0]; simp [go_sem]) (show w.heap.size ≠ fb by omega)
  have rp := cells_but (fb := fb) (w := W0) (a := ⟨pb, i, none⟩) (v := .int .i64 x) (cells_but hp hpn _ HB.out) hpn
  have rq := cells_but (fb := fb) (w := W0) (a := ⟨qb, j, none⟩) (v := .int .i64 y) (cells_but hq hqn _ HB.out) hqn
  clear h hp hq hsz
  by_cases hs : s < 0
  · rw [decide_eq_true hs]
    simp only [if_true, Bool.true_and]
    go_enter Try.func95, Try.ntmps95
    go_upto_region 1 with fail
    rw [← hW0]
    clear hW0
    first | (go_region_held3 (fun w' => But fb W0 w') (first | assumption | exact but_drew _ _ | exact But.refl _ _) (first | (go_at_call 25; refine (mul_any x y _).mono ?_; rw [HM.out.1, HM.out.2]; rintro e w1 ⟨rfl, hb1⟩; have HF1 : Fl w1 fb b := Fl.later (Fl.later HF.out (by exact below_drew _)) hb1; have hk : But fb W0 w1 := (but_drew _ _).trans (But.of_below hb1)) | (go_at_call 96; refine (one_any _ fb b o z HF1).mono ?_; rintro e w2 ⟨rfl, hf2, hb2⟩; have hk2 : But fb W0 w2 := hk.trans hb2))) | fail
    go_wp2_with (go_at_call 97; refine (less_any _ fb (b || o) z hf2).mono ?_; rw [HM'.out.1, HM'.out.2]; rintro e w3 ⟨rfl, hf3, hb3⟩)
    go_ret
    exact ⟨rfl, by simpa [Bool.or_assoc] using hf3, HB.out.trans (hk2.trans hb3)⟩
  · rw [decide_eq_false hs]
    simp only [Bool.false_eq_true, if_false, Bool.false_and, Bool.or_false]
    go_enter Try.func95, Try.ntmps95
    go_upto_region 1 with fail
    rw [← hW0]
    clear hW0
    first | (go_region_held3 (fun w' => But fb W0 w') (first | assumption | exact but_drew _ _ | exact But.refl _ _) (first | (go_at_call 25; refine (mul_any x y _).mono ?_; rw [HM.out.1, HM.out.2]; rintro e w1 ⟨rfl, hb1⟩; have HF1 : Fl w1 fb b := Fl.later (Fl.later HF.out (by exact below_drew _)) hb1; have hk : But fb W0 w1 := (but_drew _ _).trans (But.of_below hb1)) | (go_at_call 96; refine (one_any _ fb b o z HF1).mono ?_; rintro e w2 ⟨rfl, hf2, hb2⟩; have hk2 : But fb W0 w2 := hk.trans hb2))) | fail
    go_wp2_with fail
    go_ret
    exact ⟨rfl, hf2, HB.out.trans hk2⟩

set_option maxRecDepth 100000 in
set_option maxHeartbeats 1000000 in
theorem square_any (w : World) (fb qb i : Nat) (b : Bool) (x : Int) (hi : i < 4) (h : Fl w fb b) (hq : w.cell? ⟨qb, i, none⟩ = some (.int .i64 x)) (hqn : qb ≠ fb) :
    Calls Try.prog 101 #[.int .i64 i, .pointer (some ⟨fb, 0, none⟩), .pointer (some ⟨qb, 0, none⟩)] w (Flags fb w (mulQ x x) (b || mulO x x)) := by
  obtain ⟨z, hz⟩ : ∃ z, mulQ x x = z := ⟨_, rfl⟩
  obtain ⟨o, ho⟩ : ∃ o, mulO x x = o := ⟨_, rfl⟩
  have HM := Lib.hid (And.intro hz ho)
  rw [hz, ho]
  clear hz ho
  have hi0 : (0 : Int) ≤ i := by omega
  have hi4 : (i : Int) < 4 := by omega
  have HF : Hid (Fl w fb b) := h
  have rq := cells_but (fb := fb) hq hqn
  clear h hq
  go_enter Try.func101, Try.ntmps101
  go_upto_region 1 with fail
  first | (go_region_held3 (fun w' => But fb w w') (first | assumption | exact but_drew _ _ | exact But.refl _ _) (first | (go_at_call 25; refine (mul_any x x _).mono ?_; rw [HM.out.1, HM.out.2]; rintro e w1 ⟨rfl, hb1⟩; have HF1 : Fl w1 fb b := Fl.later (Fl.later HF.out (by exact below_drew _)) hb1; have hk : But fb w w1 := (but_drew _ _).trans (But.of_below hb1)) | (go_at_call 96; refine (one_any _ fb b o z HF1).mono ?_; rintro e w2 ⟨rfl, hf2, hb2⟩; have hk2 : But fb w w2 := hk.trans hb2))) | fail
  go_wp2_with fail
  go_ret
  exact ⟨rfl, hf2, hk2⟩

end Go.Proofs.Ytijohedhbbddjaa
